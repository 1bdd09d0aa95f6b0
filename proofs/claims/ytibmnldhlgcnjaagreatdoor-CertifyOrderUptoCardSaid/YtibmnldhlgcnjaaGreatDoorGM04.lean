/- PwVeA PwVcL PwVeB PwVeJ PwVeC PwVcR PwVeD PwVeE PwVcQ FkVcA FkVcB FkVcC FkVcO LexSpec PtSpec PtMem PtA PtI0 PtJ0 PtK0 PtL0 PtO0 PtQ0 PtR0 PtT0 PtCa PuA. -/
import Derived.Test.YtibmnldhlgcnjaaGreatDoorGM02
import Derived.Test.YtibmnldhlgcnjaaGreatDoorGM03
import Derived.Lib.Split
set_option linter.all false
set_option maxRecDepth 100000
set_option maxHeartbeats 8000000

section
namespace Go.VC
open Go.Proofs IntKind
variable {h:Heap} {R:Value->Heap->Prop}
def W122 (p0:Addr) (p1 pa:Int) (pb:Bool) (pc pd pe:Int) (pf:Bool):Prop:=
 Wn h (L0 pa pb pc pd pe pf) 110 fun h7=>
 ∃x8,rB h7 (aS h 1) x8 /\
 sB x8
 (∃x9,rS h7 p0 x9 /\
 ∃x10,rI h7 (aS h 2) x10 /\
 R (vI (wrap .i64 ((wrap .i64 ((x9.n:Int)*p1))+x10))) h7)
 (∃x11,rS h7 p0 x11 /\
 ∃x12,rI h7 (aS h 2) x12 /\
 R (vI (wrap .i64 ((wrap .i64 ((x11.n:Int)*x12))+p1))) h7)
theorem vc122 (p0:Addr) (p1 pa:Int) (pb:Bool) (pc pd pe:Int) (pf:Bool) (H:@W122 h R p0 p1 pa pb pc pd pe pf):Fn Pz 122 #[.pointer (some p0),vI p1,.agg ⟨(L0 pa pb pc pd pe pf)⟩] h R:=fnJ (A:=.z) H
def V62b (h61:Heap) (x_9 x40:Int) (out_35:Sl) (m34:Nat) (I32:Sl->Int->Heap->Nat->Prop) (x_36:Int):Prop:=
 Wn h61 [vI x_9,vI x40] 43 fun h67=>App Pz 69 69 (vS out_35) (.slice (some (aS h61 0)) 1 1) h67 fun s68 h69=>∃m70,m70<m34/\I32 s68 (wrap .i64 (x_36+1)) h69 m70
def V62a (h61 h37:Heap) (x64:Sl) (x_9 x40:Int) (out_35:Sl) (m34:Nat) (I32:Sl->Int->Heap->Nat->Prop) (x_36:Int):Prop:=
 ∃x71,rB h61 (aS h37 1) x71/\sB (!x71) (sB (decide ((x64.n:Int)>0)) (NB x64.a fun b72 o73=>Ib 0 x64.n/\∃x74,rI h61 ⟨b72,o73+Int.toNat 0*1,none⟩ x74/\∃x75,rI h61 (aS h37 3) x75/\sB (x74==x75) (V62b h61 x_9 x40 out_35 m34 I32 x_36) (∃m80,m80<m34/\I32 out_35 (wrap .i64 (x_36+1)) h61 m80)) (∃m81,m81<m34/\I32 out_35 (wrap .i64 (x_36+1)) h61 m81)) (∃m82,m82<m34/\I32 out_35 (wrap .i64 (x_36+1)) h61 m82)
def W62 (p0:Addr) (pa pb:Sl):Prop:=
 Wn h [vS pa,vS pb] 52 fun h3=>∃x4,rS h3 p0 x4/\QSI ⟨none,0,0⟩ 0 h3 fun I5 out_8 x_9 h10 m7=>sB (decide (x_9<(x4.n:Int))) (NB x4.a fun b11 o12=>Ib x_9 x4.n/\∃x13 x14 x15 x16 x17 x18,aL1 h10 ⟨b11,o12+x_9.toNat*6,none⟩ x13 x14 x15 x16 x17 x18/\Wn h10 [vI 0,vI 0,vI 0,vN,vN,vN] 98 fun h19=>Wp h19 (aS h10 0) 6 (L1 x13 x14 x15 x16 x17 x18) fun h20=>∃x21,rS h20 ⟨p0.block,p0.off+2,none⟩ x21/\NB x21.a fun b22 o23=>Ib x_9 x21.n/\∃x24,rS h20 ⟨b22,o23+x_9.toNat*1,none⟩ x24/\∃x25,rS h20 (aS h 0) x25/\NB x25.a fun b26 o27=>Ib x_9 x25.n/\∃x28,rI h20 ⟨b26,o27+x_9.toNat*1,none⟩ x28/\NB x24.a fun b29 o30=>Ib x28 x24.n/\∃x31,rS h20 ⟨b29,o30+x28.toNat*1,none⟩ x31/\QSI out_8 0 h20 fun I32 out_35 x_36 h37 m34=>sB (decide (x_36<(x31.n:Int))) (NB x31.a fun b38 o39=>Ib x_36 x31.n/\∃x40,rI h37 ⟨b38,o39+x_36.toNat*1,none⟩ x40/\∃x41,rS h37 (aS h10 4) x41/\NB x41.a fun b42 o43=>Ib x40 x41.n/\∃x44 x45 x46 x47 x48 x49,aL0 h37 ⟨b42,o43+x40.toNat*6,none⟩ x44 x45 x46 x47 x48 x49/\Wn h37 [vI 0,.bool false,vI 0,vI 0,vI 0,.bool false] 110 fun h50=>Wp h50 (aS h37 0) 6 (L0 x44 x45 x46 x47 x48 x49) fun h51=>∃x52,rS h51 (aS h 1) x52/\∃x53 x54 x55 x56 x57 x58,aL0 h51 (aS h37 0) x53 x54 x55 x56 x57 x58/\Fn Pz 122 #[.pointer (some p0),vI x_9,.agg ⟨(L0 x53 x54 x55 x56 x57 x58)⟩] h51 (fun v59 h61=>∃x60,iI v59 x60/\Sm [(aS h 1)] h51 h61/\NB x52.a fun b62 o63=>Ib x60 x52.n/\∃x64,rS h61 ⟨b62,o63+x60.toNat*1,none⟩ x64/\∃x65,rB h61 (aS h37 1) x65/\sB x65 (∃x66,rI h61 ⟨p0.block,p0.off+1,none⟩ x66/\sB (decide ((x64.n:Int)<x66)) (V62b h61 x_9 x40 out_35 m34 I32 x_36) (V62a h61 h37 x64 x_9 x40 out_35 m34 I32 x_36)) (V62a h61 h37 x64 x_9 x40 out_35 m34 I32 x_36))) (∃m95,m95<m7/\I5 out_35 (wrap .i64 (x_9+1)) h37 m95)) (R (vS out_8) h10)
theorem vc62 (p0:Addr) (pa pb:Sl) (H:@W62 h R p0 pa pb):Fn Pz 62 #[.pointer (some p0),.agg ⟨[vS pa,vS pb]⟩] h R:=fnJ (A:=(.s .z (.s .z (.s (.s .z (.b (.l [(5,.one (.slice)),(17,.one (.int .i64))] (.s .z (.s .z (.s (.b (.s .z (AJ 5 37))) .z)))))) .z)))) H
def W120 (pa:Int) (pb:Bool) (pc pd pe:Int) (pf:Bool) (pg:Int) (ph:Bool) (pi pj pk:Int) (pl:Bool):Prop:=
 Wn h (L0 pa pb pc pd pe pf) 110 fun h13=>
 Wn h13 (L0 pg ph pi pj pk pl) 110 fun h14=>
 ∃x15,rB h14 (aS h 1) x15 /\
 ∃x16,rB h14 (aS h13 1) x16 /\
 sB (!(x15==x16))
 (∃x17,rB h14 (aS h 1) x17 /\
 sB x17
 (R (vI (-1)) h14)
 (R (vI 1) h14))
 (∃x18,rI h14 (aS h 2) x18 /\
 ∃x19,rI h14 (aS h13 2) x19 /\
 ∃x20,rI h14 (aS h 3) x20 /\
 ∃x21,rI h14 (aS h13 3) x21 /\
 Fn Pz 163 #[vI x18,vI x19] h14
 (fun v22 h24=>∃x23,iI v22 x23 /\
 Sm [(aS h13 3),(aS h 3)] h14 h24 /\
 Fn Pz 163 #[vI x20,vI x21] h24
 (fun v25 h27=>∃x26,iI v25 x26 /\
 Sm [(aS h13 2),(aS h 2)] h24 h27 /\
 Wn h27 [vI x23,vI x26] 3 fun h28=>
 Fn Pz 162 #[.slice (some (aS h27 0)) 2 2] h28
 (fun v29 h31=>∃x30,iI v29 x30 /\
 R (vI x30) h31))))
theorem vc120 (pa:Int) (pb:Bool) (pc pd pe:Int) (pf:Bool) (pg:Int) (ph:Bool) (pi pj pk:Int) (pl:Bool) (H:@W120 h R pa pb pc pd pe pf pg ph pi pj pk pl):Fn Pz 120 #[.agg ⟨(L0 pa pb pc pd pe pf)⟩,.agg ⟨(L0 pg ph pi pj pk pl)⟩] h R:=fnJ (A:=.z) H
def V65b (h62 h31 h6:Heap) (R:Value->Heap->Prop):Prop:=
 ∃(x63 x64:Sl),atC h62 (aS h31 0) [vS x63,vS x64]/\Wp h62 (aS h6 0) 2 [vS x63,vS x64] fun h65=>∃(x66 x67:Sl),atC h65 (aS h6 0) [vS x66,vS x67]/\R (.agg ⟨[vS x66,vS x67]⟩) h65
def V65a (h32 h31:Heap) (x27 x30:Sl) (h5 h7:Heap) (p0:Addr) (h h6:Heap) (R:Value->Heap->Prop):Prop:=
 Wp h32 (aS h31 0) 2 [vS x27,vS x30] fun h33=>∃x34,rS h33 (aS h31 0) x34/\∃x35,rI h33 (aS h5 0) x35/\∃x36,rI h33 (aS h7 4) x36/\NB x34.a fun b37 o38=>Ib x35 x34.n/\Wp h33 ⟨b37,o38+x35.toNat*1,none⟩ 1 [vI x36] fun h39=>∃x40,rI h39 (aS h5 0) x40/\∃x41 x42 x43 x44 x45 x46,aL0 h39 (aS h7 0) x41 x42 x43 x44 x45 x46/\Fn Pz 122 #[.pointer (some p0),vI x40,.agg ⟨(L0 x41 x42 x43 x44 x45 x46)⟩] h39 (fun v47 h49=>∃x48,iI v47 x48/\∃x50,rS h49 (aS h 1) x50/\NB x50.a fun b51 o52=>Ib x48 x50.n/\∃x53,rS h49 ⟨b51,o52+x48.toNat*1,none⟩ x53/\∃x54,rB h49 (aS h7 1) x54/\sB x54 (∃x55,rS h49 (aS h31 1) x55/\((0:Int)<=(0:Int)/\(0:Int)<=((x53.n:Int):Int)/\((x53.n:Int):Int)<=((x53.n:Int):Int)/\((x53.n:Int):Int)<=(x53.c:Nat))/\∃x56,rI h49 (aS h7 3) x56/\Wn h49 [vI x56] 3 fun h57=>Sm [(aS h31 1)] h49 h57/\App Pz 25 25 (.slice (subA x53.a (Int.toNat 0) (Int.toNat (x53.n:Int)) 1) (Int.toNat (x53.n:Int)-Int.toNat 0) (Int.toNat (x53.n:Int)-Int.toNat 0)) (.slice (some (aS h49 0)) 1 1) h57 fun s58 h59=>Sm [(aS h31 1)] h57 h59/\NB x55.a fun b60 o61=>Ib x48 x55.n/\Wp h59 ⟨b60,o61+x48.toNat*1,none⟩ 1 [vS s58] fun h62=>V65b h62 h31 h6 R) (∃x68,rS h49 (aS h31 1) x68/\((0:Int)<=(1:Int)/\(1:Int)<=((x53.n:Nat):Int)/\((x53.n:Nat):Int)<=(x53.c:Nat))/\NB x68.a fun b69 o70=>Ib x48 x68.n/\Wp h49 ⟨b69,o70+x48.toNat*1,none⟩ 1 [.slice (subA x53.a (Int.toNat 1) x53.c 1) (Int.toNat (x53.n:Nat)-Int.toNat 1) (x53.c-Int.toNat 1)] fun h71=>V65b h71 h31 h6 R))
def W65 (p0:Addr) (pa pb:Sl) (pc pd:Int):Prop:=
 Wn h [vS pa,vS pb] 52 fun h5=>Wn h5 [vI pc,vI pd] 43 fun h6=>Wn h6 [vN,vN] 52 fun h7=>∃x8,rS h7 p0 x8/\∃x9,rI h7 (aS h5 0) x9/\NB x8.a fun b10 o11=>Ib x9 x8.n/\∃x12,rS h7 ⟨b10,o11+x9.toNat*6+4,none⟩ x12/\∃x13,rI h7 (aS h5 1) x13/\NB x12.a fun b14 o15=>Ib x13 x12.n/\∃x16 x17 x18 x19 x20 x21,aL0 h7 ⟨b14,o15+x13.toNat*6,none⟩ x16 x17 x18 x19 x20 x21/\Wn h7 [vI 0,.bool false,vI 0,vI 0,vI 0,.bool false] 110 fun h22=>Sm [⟨b14,o15+x13.toNat*6,none⟩,(aS h5 1),⟨b10,o11+x9.toNat*6+4,none⟩,(aS h5 0),p0] h7 h22/\Wp h22 (aS h7 0) 6 (L0 x16 x17 x18 x19 x20 x21) fun h23=>∃x24,rS h23 (aS h 0) x24/\∃x25,rS h23 (aS h 1) x25/\(Fn Pz 126 #[vS x24] h23 (fun v26 h28=>∃x27,iS v26 x27/\Sm [(aS h 1)] h23 h28/\(Fn Pz 127 #[vS x25] h28 (fun v29 h31=>∃x30,iS v29 x30/\Sm [(aS h 0)] h28 h31/\Wn h31 [vN,vN] 52 fun h32=>Sm [(aS h 1),(aS h 0)] h31 h32/\V65a h32 h31 x27 x30 h5 h7 p0 h h6 R))/\Wn h28 [vN,vN] 52 fun h77=>Sm [(aS h 1),(aS h 0)] h28 h77/\Fn Pz 127 #[vS x25] h77 (fun v78 h80=>∃x79,iS v78 x79/\Sm [(aS h 0)] h77 h80/\V65a h80 h28 x27 x79 h5 h7 p0 h h6 R)))/\Wn h23 [vN,vN] 52 fun h125=>Sm [(aS h 1),(aS h 0)] h23 h125/\Fn Pz 126 #[vS x24] h125 (fun v126 h128=>∃x127,iS v126 x127/\Sm [(aS h 1)] h125 h128/\Fn Pz 127 #[vS x25] h128 (fun v129 h131=>∃x130,iS v129 x130/\Sm [(aS h 0)] h128 h131/\V65a h131 h23 x127 x130 h5 h7 p0 h h6 R))
theorem vc65 (p0:Addr) (pa pb:Sl) (pc pd:Int) (H:@W65 h R p0 pa pb pc pd):Fn Pz 65 #[.pointer (some p0),.agg ⟨[vS pa,vS pb]⟩,.agg ⟨[vI pc,vI pd]⟩] h R:=fnJ (A:=.z) H
def V66a (h11 h10:Heap) (x8:Sl) (h9:Heap) (x6:Sl) (h h3:Heap) (R:Value->Heap->Prop):Prop:=
 Wp h11 (aS h10 0) 2 [vS x8,.slice (some (aS h9 0)) (Int.toNat (x6.n:Int)) (Int.toNat (x6.n:Int))] fun h12=>∃x13,rS h12 (aS h 1) x13/\QI 0 h12 fun I14 x_17 h18 m16=>sB (decide (x_17<(x13.n:Int))) (NB x13.a fun b19 o20=>Ib x_17 x13.n/\∃x21,rS h18 ⟨b19,o20+x_17.toNat*1,none⟩ x21/\∃x22,rS h18 (aS h10 1) x22/\Fn Pz 126 #[vS x21] h18 (fun v23 h25=>∃x24,iS v23 x24/\Sm [(aS h10 1)] h18 h25/\NB x22.a fun b26 o27=>Ib x_17 x22.n/\Wp h25 ⟨b26,o27+x_17.toNat*1,none⟩ 1 [vS x24] fun h28=>∃m29,m29<m16/\I14 (wrap .i64 (x_17+1)) h28 m29)) (∃(x30 x31:Sl),atC h18 (aS h10 0) [vS x30,vS x31]/\Wp h18 (aS h3 0) 2 [vS x30,vS x31] fun h32=>∃(x33 x34:Sl),atC h32 (aS h3 0) [vS x33,vS x34]/\R (.agg ⟨[vS x33,vS x34]⟩) h32)
def V66b (x6:Sl) (h35 h h9:Heap) (x8:Sl) (h3:Heap) (R:Value->Heap->Prop):Prop:=
 ((0:Int)<=(x6.n:Int)/\((x6.n:Int):Int)<=(x6.n:Int)/\((24:Nat):Int)*(x6.n:Int)<=140737488355328)/\Wn h35 (madeL Pz 25 (Int.toNat (x6.n:Int))) 25 fun h36=>Sm [(aS h 0)] h35 h36/\V66a h36 h9 x8 h35 x6 h h3 R
def W66 (pa pb:Sl):Prop:=
 Wn h [vS pa,vS pb] 52 fun h3=>Wn h3 [vN,vN] 52 fun h4=>∃x5,rS h4 (aS h 0) x5/\∃x6,rS h4 (aS h 1) x6/\(Fn Pz 126 #[vS x5] h4 (fun v7 h9=>∃x8,iS v7 x8/\Sm [(aS h 1)] h4 h9/\(((0:Int)<=(x6.n:Int)/\((x6.n:Int):Int)<=(x6.n:Int)/\((24:Nat):Int)*(x6.n:Int)<=140737488355328)/\Wn h9 (madeL Pz 25 (Int.toNat (x6.n:Int))) 25 fun h10=>Sm [(aS h 0)] h9 h10/\Wn h10 [vN,vN] 52 fun h11=>Sm [(aS h 1),(aS h 0)] h10 h11/\V66a h11 h10 x8 h9 x6 h h3 R)/\Wn h9 [vN,vN] 52 fun h35=>Sm [(aS h 1),(aS h 0)] h9 h35/\V66b x6 h35 h h9 x8 h3 R))/\(((0:Int)<=(x6.n:Int)/\((x6.n:Int):Int)<=(x6.n:Int)/\((24:Nat):Int)*(x6.n:Int)<=140737488355328)/\Wn h4 (madeL Pz 25 (Int.toNat (x6.n:Int))) 25 fun h60=>Sm [(aS h 0)] h4 h60/\(Fn Pz 126 #[vS x5] h60 (fun v61 h63=>∃x62,iS v61 x62/\Sm [(aS h 1)] h60 h63/\Wn h63 [vN,vN] 52 fun h64=>Sm [(aS h 1),(aS h 0)] h63 h64/\V66a h64 h63 x62 h4 x6 h h3 R))/\Wn h60 [vN,vN] 52 fun h88=>Sm [(aS h 1),(aS h 0)] h60 h88/\Fn Pz 126 #[vS x5] h88 (fun v89 h91=>∃x90,iS v89 x90/\Sm [(aS h 1)] h88 h91/\V66a h91 h60 x90 h4 x6 h h3 R))/\Wn h4 [vN,vN] 52 fun h115=>Sm [(aS h 1),(aS h 0)] h4 h115/\(Fn Pz 126 #[vS x5] h115 (fun v116 h118=>∃x117,iS v116 x117/\Sm [(aS h 1)] h115 h118/\V66b x6 h118 h h4 x117 h3 R))/\((0:Int)<=(x6.n:Int)/\((x6.n:Int):Int)<=(x6.n:Int)/\((24:Nat):Int)*(x6.n:Int)<=140737488355328)/\Wn h115 (madeL Pz 25 (Int.toNat (x6.n:Int))) 25 fun h143=>Sm [(aS h 0)] h115 h143/\Fn Pz 126 #[vS x5] h143 (fun v144 h146=>∃x145,iS v144 x145/\Sm [(aS h 1)] h143 h146/\V66a h146 h4 x145 h115 x6 h h3 R)
theorem vc66 (pa pb:Sl) (H:@W66 h R pa pb):Fn Pz 66 #[.agg ⟨[vS pa,vS pb]⟩] h R:=fnJ (A:=(.s .z (.s .z (.s (AI 17) .z)))) H
def W165 (p0:Sl):Prop:=
 R (.bool (decide ((p0.n:Int)>0))) h
theorem vc165 (p0:Sl) (H:@W165 h R p0):Fn Pz 165 #[vS p0] h R:=fnJ (A:=.z) H
def W127 (p0:Sl):Prop:=
 sB (Option.isNone p0.a)
 (R vN h)
 (Wn h [] 25 fun h1=>
 App Pz 26 26 (.slice (some (aS h 0)) 0 0) (vS p0) h1 fun s2 h3=>
 R (vS s2) h3)
theorem vc127 (p0:Sl) (H:@W127 h R p0):Fn Pz 127 #[vS p0] h R:=fnJ (A:=.z) H
def W125 (p0:Sl):Prop:=
 QII 0 (wrap .i64 ((p0.n:Int)-1)) h fun I1 i_4 j_5 h6 m3=>
 sB (decide (i_4<j_5))
 (NB p0.a fun b7 o8=>Ib j_5 p0.n /\
 ∃(x9 x10:Int),atC h6 ⟨b7,o8+j_5.toNat*2,none⟩ [vI x9,vI x10] /\
 NB p0.a fun b11 o12=>Ib i_4 p0.n /\
 ∃(x13 x14:Int),atC h6 ⟨b11,o12+i_4.toNat*2,none⟩ [vI x13,vI x14] /\
 NB p0.a fun b15 o16=>Ib i_4 p0.n /\
 Wp h6 ⟨b15,o16+i_4.toNat*2,none⟩ 2 [vI x9,vI x10] fun h17=>
 NB p0.a fun b18 o19=>Ib j_5 p0.n /\
 Wp h17 ⟨b18,o19+j_5.toNat*2,none⟩ 2 [vI x13,vI x14] fun h20=>
 ∃m21,m21<m3/\I1 (wrap .i64 (i_4+1)) (wrap .i64 (j_5-1)) h20 m21)
 (R (.tuple ⟨[]⟩) h6)
theorem vc125 (p0:Sl) (H:@W125 h R p0):Fn Pz 125 #[vS p0] h R:=fnJ (A:=(.s .z (.b (.l [(2,.one (.int .i64)),(3,.one (.int .i64))] .z)))) H
def W64 (p0:Sl) (p1:Int):Prop:=
 QIS p1 ⟨none,0,0⟩ h fun I1 at_4 out_5 h6 m3=>
 NB p0.a fun b7 o8=>Ib at_4 p0.n /\
 ∃x9,rI h6 ⟨b7,o8+at_4.toNat*5+2,none⟩ x9 /\
 sB (decide (x9>=0))
 (NB p0.a fun b10 o11=>Ib at_4 p0.n /\
 ∃(x12 x13:Int),atC h6 ⟨b10,o11+at_4.toNat*5+3,none⟩ [vI x12,vI x13] /\
 Wn h6 [vI x12,vI x13] 43 fun h14=>
 App Pz 69 69 (vS out_5) (.slice (some (aS h6 0)) 1 1) h14 fun s15 h16=>
 NB p0.a fun b17 o18=>Ib at_4 p0.n /\
 ∃x19,rI h16 ⟨b17,o18+at_4.toNat*5+2,none⟩ x19 /\
 ∃m20,m20<m3/\I1 x19 s15 h16 m20)
 (Fn Pz 125 #[vS out_5] h6
 (fun v21 h22=>v21=.tuple ⟨[]⟩ /\
 R (vS out_5) h22))
theorem vc64 (p0:Sl) (p1:Int) (H:@W64 h R p0 p1):Fn Pz 64 #[vS p0,vI p1] h R:=fnJ (A:=(.s .z (.s .z (.s (.b (.l [(1,.one (.int .i64)),(5,.one (.slice))] .z)) .z)))) H
end Go.VC
end

section
namespace Go.VC
open Go.Proofs IntKind

end Go.VC
end

section
namespace Go.VC
open Go.Proofs IntKind
variable {h:Heap} {R:Value->Heap->Prop}
def V123a (h71 h57:Heap) (x27:Int) (h26:Heap) (todo_55:Sl) (m53:Nat) (I51:Bool->Sl->Int->Heap->Nat->Prop) (ok_54:Bool) (x_56:Int):Prop:=
 ∃x79,rI h71 (aS h57 4) x79/\(0<=(x79:Int)/\(x79:Int)<((x27.toNat):Nat))/\∃x80,rB h71 (aS h26 (0+x79.toNat*1)) x80/\sB (!x80) (∃x81,rI h71 (aS h57 4) x81/\(0<=(x81:Int)/\(x81:Int)<((x27.toNat):Nat))/\Wp h71 (aS h26 (0+x81.toNat*1)) 1 [.bool true] fun h82=>∃x83,rI h82 (aS h57 4) x83/\Wn h82 [vI x83] 3 fun h84=>App Pz 25 25 (vS todo_55) (.slice (some (aS h82 0)) 1 1) h84 fun s85 h86=>∃m87,m87<m53/\I51 ok_54 s85 (wrap .i64 (x_56+1)) h86 m87) (∃m88,m88<m53/\I51 ok_54 todo_55 (wrap .i64 (x_56+1)) h71 m88)
def V123b (h39:Heap) (p0:Addr) (h:Heap) (ok_36:Bool) (R:Value->Heap->Prop):Prop:=
 ∃x100:Option Nat,hc h39 ⟨p0.block,p0.off+3,none⟩=some (.map x100)/\∃x101 x102 x103 x104,aL4 h39 (aS h 0) x101 x102 x103 x104/\RunW Pz (Instr.mapUpdate 193 (.map x100) (.agg ⟨(L4 x101 x102 x103 x104)⟩) (.bool ok_36)) h39 (fun _ h105=>R (.bool ok_36) h105)
def W123 (p0:Addr) (pa pb pc pd:Int):Prop:=
 Wn h (L4 pa pb pc pd) 202 fun h5=>∃x6:Option Nat,hc h5 ⟨p0.block,p0.off+3,none⟩=some (.map x6)/\∃x7 x8 x9 x10,aL4 h5 (aS h 0) x7 x8 x9 x10/\RunW Pz (Instr.lookup 193 (.map x6) (.agg ⟨(L4 x7 x8 x9 x10)⟩) true) h5 (fun v11 h14=>∃(x12 x13:Bool),v11=.tuple ⟨[.bool x12,.bool x13]⟩/\sB x13 (R (.bool x12) h14) (∃x15,rS h14 p0 x15/\∃x16,rI h14 (aS h 0) x16/\NB x15.a fun b17 o18=>Ib x16 x15.n/\∃x19 x20 x21 x22 x23 x24,aL1 h14 ⟨b17,o18+x16.toNat*6,none⟩ x19 x20 x21 x22 x23 x24/\Wn h14 [vI 0,vI 0,vI 0,vN,vN,vN] 98 fun h25=>Sm [⟨b17,o18+x16.toNat*6,none⟩,(aS h 0),p0] h14 h25/\Wp h25 (aS h14 0) 6 (L1 x19 x20 x21 x22 x23 x24) fun h26=>∃x27,rI h26 (aS h14 1) x27/\Mk x27 x27 1/\Wn h26 (madeL Pz 4 (x27.toNat)) 4 fun h28=>∃x29,rI h28 (aS h 1) x29/\(0<=(x29:Int)/\(x29:Int)<((x27.toNat):Nat))/\Wp h28 (aS h26 (0+x29.toNat*1)) 1 [.bool true] fun h30=>∃x31,rI h30 (aS h 1) x31/\Wn h30 [vI x31] 3 fun h32=>QBSI x12 ⟨(some (aS h30 0)),1,1⟩ 0 h32 fun I33 ok_36 todo_37 head_38 h39 m35=>sB (decide (head_38<(todo_37.n:Int))) (sB (!ok_36) (∃x40,rS h39 ⟨p0.block,p0.off+2,none⟩ x40/\∃x41,rI h39 (aS h 0) x41/\NB x40.a fun b42 o43=>Ib x41 x40.n/\∃x44,rS h39 ⟨b42,o43+x41.toNat*1,none⟩ x44/\NB todo_37.a fun b45 o46=>Ib head_38 todo_37.n/\∃x47,rI h39 ⟨b45,o46+head_38.toNat*1,none⟩ x47/\NB x44.a fun b48 o49=>Ib x47 x44.n/\∃x50,rS h39 ⟨b48,o49+x47.toNat*1,none⟩ x50/\QBSI ok_36 todo_37 0 h39 fun I51 ok_54 todo_55 x_56 h57 m53=>sB (decide (x_56<(x50.n:Int))) (NB x50.a fun b58 o59=>Ib x_56 x50.n/\∃x60,rI h57 ⟨b58,o59+x_56.toNat*1,none⟩ x60/\∃x61,rS h57 (aS h14 4) x61/\NB x61.a fun b62 o63=>Ib x60 x61.n/\∃x64 x65 x66 x67 x68 x69,aL0 h57 ⟨b62,o63+x60.toNat*6,none⟩ x64 x65 x66 x67 x68 x69/\Wn h57 [vI 0,.bool false,vI 0,vI 0,vI 0,.bool false] 110 fun h70=>Wp h70 (aS h57 0) 6 (L0 x64 x65 x66 x67 x68 x69) fun h71=>∃x72,rB h71 (aS h57 1) x72/\sB (!x72) (∃x73,rI h71 (aS h57 2) x73/\∃x74,rI h71 (aS h 2) x74/\sB (x73==x74) (sB ok_54 (∃m75,m75<m53/\I51 true todo_55 (wrap .i64 (x_56+1)) h71 m75) (∃x76,rI h71 (aS h57 3) x76/\∃x77,rI h71 (aS h 3) x77/\∃m78,m78<m53/\I51 (x76==x77) todo_55 (wrap .i64 (x_56+1)) h71 m78)) (V123a h71 h57 x27 h26 todo_55 m53 I51 ok_54 x_56)) (V123a h71 h57 x27 h26 todo_55 m53 I51 ok_54 x_56)) (∃m99,m99<m35/\I33 ok_54 todo_55 (wrap .i64 (head_38+1)) h57 m99)) (V123b h39 p0 h ok_36 R)) (V123b h39 p0 h ok_36 R)))
theorem vc123 (p0:Addr) (pa pb pc pd:Int) (H:@W123 h R p0 pa pb pc pd):Fn Pz 123 #[.pointer (some p0),.agg ⟨(L4 pa pb pc pd)⟩] h R:=fnJ (A:=(.s .z (.s .z (.s .z (.s .z (.s .z (.s .z (.s .z (.s (.s .z (.b (.l [(5,.one (.bool)),(9,.one (.slice)),(10,.one (.int .i64))] (.s .z (.s (.b (.s .z (.b (.l [(5,.one (.bool)),(9,.one (.slice)),(68,.one (.int .i64))] .z)))) .z))))) .z))))))))) H
def W124 (p0:Addr) (pa pb:Sl):Prop:=
 Wn h [vS pa,vS pb] 52 fun h3=>
 ∃x4,rS h3 (aS h 0) x4 /\
 QI 0 h3 fun I5 x_8 h9 m7=>
 sB (decide (x_8<(x4.n:Int)))
 (NB x4.a fun b10 o11=>Ib x_8 x4.n /\
 ∃x12,rI h9 ⟨b10,o11+x_8.toNat*1,none⟩ x12 /\
 ∃x13,rS h9 p0 x13 /\
 NB x13.a fun b14 o15=>Ib x_8 x13.n /\
 ∃x16,rS h9 ⟨b14,o15+x_8.toNat*6+3,none⟩ x16 /\
 NB x16.a fun b17 o18=>Ib x12 x16.n /\
 ∃x19,rB h9 ⟨b17,o18+x12.toNat*1,none⟩ x19 /\
 sB (!x19)
 (R (.bool false) h9)
 (∃m20,m20<m7/\I5 (wrap .i64 (x_8+1)) h9 m20))
 (∃x21,rS h9 (aS h 1) x21 /\
 Fn Pz 113 #[vS x21,.func (.func 165) #[] #[]] h9
 (fun v22 h24=>∃x23,iB v22 x23 /\
 R (.bool (!x23)) h24))
theorem vc124 (p0:Addr) (pa pb:Sl) (H:@W124 h R p0 pa pb):Fn Pz 124 #[.pointer (some p0),.agg ⟨[vS pa,vS pb]⟩] h R:=fnJ (A:=(.s .z (.s (AI 10) .z))) H
def W63 (p0:Addr) (pa pb:Sl) (p2:Bool):Prop:=
 Wn h [vS pa,vS pb] 52 fun h3=>
 ∃x4,rS h3 p0 x4 /\
 ∃x5,rS h3 (aS h 1) x5 /\
 QI 0 h3 fun I6 x_9 h10 m8=>
 sB (decide (x_9<(x5.n:Int)))
 (NB x5.a fun b11 o12=>Ib x_9 x5.n /\
 ∃x13,rS h10 ⟨b11,o12+x_9.toNat*1,none⟩ x13 /\
 sB (decide ((x13.n:Int)>0))
 ((x4.n:Int)≠0/\∃x14,rS h10 (aS h 0) x14 /\
 (x4.n:Int)≠0/\NB x14.a fun b15 o16=>(0<=((Int.tmod x_9 (x4.n:Int)):Int)/\((Int.tmod x_9 (x4.n:Int)):Int)<(x14.n:Nat)) /\
 ∃x17,rI h10 ⟨b15,o16+Int.toNat (Int.tmod x_9 (x4.n:Int))*1,none⟩ x17 /\
 (x4.n:Int)≠0/\NB x13.a fun b18 o19=>Ib 0 x13.n /\
 ∃x20,rI h10 ⟨b18,o19+Int.toNat 0*1,none⟩ x20 /\
 Fn Pz 123 #[.pointer (some p0),.agg ⟨[vI (Int.tmod x_9 (x4.n:Int)),vI x17,vI (wrap .i64 (Int.tdiv x_9 (x4.n:Int))),vI x20]⟩] h10
 (fun v21 h23=>∃x22,iB v21 x22 /\
 sB (!x22)
 (R (vI 1) h23)
 (∃m24,m24<m8/\I6 (wrap .i64 (x_9+1)) h23 m24)))
 (∃m25,m25<m8/\I6 (wrap .i64 (x_9+1)) h10 m25))
 (sB (!p2)
 (∃(x26 x27:Sl),atC h10 (aS h 0) [vS x26,vS x27] /\
 Fn Pz 124 #[.pointer (some p0),.agg ⟨[vS x26,vS x27]⟩] h10
 (fun v28 h30=>∃x29,iB v28 x29 /\
 sB (!x29)
 (R (vI 2) h30)
 (R (vI 0) h30)))
 (R (vI 0) h10))
theorem vc63 (p0:Addr) (pa pb:Sl) (p2:Bool) (H:@W63 h R p0 pa pb p2):Fn Pz 63 #[.pointer (some p0),.agg ⟨[vS pa,vS pb]⟩,.bool p2] h R:=fnJ (A:=(.s .z (.s .z (.s (AI 18) .z)))) H
end Go.VC
end

section
namespace Go.VC
open Go.Proofs IntKind
variable [Mono]
namespace M
def W119 (p0 p1:Int) (c0:Addr) (h:Heap) (R:Value->Heap->Prop):Prop:=
 ∃x1,rS h ⟨c0.block,c0.off+4,none⟩ x1 /\
 NB x1.a fun b2 o3=>Ib p0 x1.n /\
 ∃x4 x5 x6 x7 x8 x9,aL0 h ⟨b2,o3+p0.toNat*6,none⟩ x4 x5 x6 x7 x8 x9 /\
 ∃x10,rS h ⟨c0.block,c0.off+4,none⟩ x10 /\
 NB x10.a fun b11 o12=>Ib p1 x10.n /\
 ∃x13 x14 x15 x16 x17 x18,aL0 h ⟨b11,o12+p1.toNat*6,none⟩ x13 x14 x15 x16 x17 x18 /\
 Fn Pz 120 #[.agg ⟨(L0 x4 x5 x6 x7 x8 x9)⟩,.agg ⟨(L0 x13 x14 x15 x16 x17 x18)⟩] h
 (fun v19 h21=>∃x20,iI v19 x20 /\
 R (vI x20) h21)
theorem vc119 (p0 p1:Int) (c0:Addr) (h:Heap) (R:Value->Heap->Prop) (H:W119 p0 p1 c0 h R):Fn Pz 119 #[vI p0,vI p1,.pointer (some c0)] h R:=fnJ (A:=.z) H
def W120 (pa:Int) (pb:Bool) (pc pd pe:Int) (pf:Bool) (pg:Int) (ph:Bool) (pi pj pk:Int) (pl:Bool) (h:Heap) (R:Value->Heap->Prop):Prop:=
 Wn h (L0 pa pb pc pd pe pf) 110 fun h13=>
 Wn h13 (L0 pg ph pi pj pk pl) 110 fun h14=>
 ∃x15,rB h14 (aS h 1) x15 /\
 ∃x16,rB h14 (aS h13 1) x16 /\
 sB (!(x15==x16))
 (∃x17,rB h14 (aS h 1) x17 /\
 sB x17
 (R (vI (-1)) h14)
 (R (vI 1) h14))
 (∃x18,rI h14 (aS h 2) x18 /\
 ∃x19,rI h14 (aS h13 2) x19 /\
 ∃x20,rI h14 (aS h 3) x20 /\
 ∃x21,rI h14 (aS h13 3) x21 /\
 Fn Pz 163 #[vI x18,vI x19] h14
 (fun v22 h24=>∃x23,iI v22 x23 /\
 Sm [(aS h13 3),(aS h 3)] h14 h24 /\
 Fn Pz 163 #[vI x20,vI x21] h24
 (fun v25 h27=>∃x26,iI v25 x26 /\
 Sm [(aS h13 2),(aS h 2)] h24 h27 /\
 Wn h27 [vI x23,vI x26] 3 fun h28=>
 Fn Pz 162 #[.slice (some (aS h27 0)) 2 2] h28
 (fun v29 h31=>∃x30,iI v29 x30 /\
 R (vI x30) h31))))
theorem vc120 (pa:Int) (pb:Bool) (pc pd pe:Int) (pf:Bool) (pg:Int) (ph:Bool) (pi pj pk:Int) (pl:Bool) (h:Heap) (R:Value->Heap->Prop) (H:W120 pa pb pc pd pe pf pg ph pi pj pk pl h R):Fn Pz 120 #[.agg ⟨(L0 pa pb pc pd pe pf)⟩,.agg ⟨(L0 pg ph pi pj pk pl)⟩] h R:=fnJ (A:=.z) H
end M
end Go.VC
end

section
namespace Go.VC
open Go.Proofs IntKind
variable {h:Heap} {R:Value->Heap->Prop}
def W60 (p0:Sl) (p1:Int):Prop:=
 RunW Pz (Instr.makeMap 193 (none)) h
 (fun v1 h3=>∃x2:Option Nat,v1=.map x2 /\
 Wn h3 [vS p0,vI p1,vN,.map x2] 196 fun h4=>
 QI 0 h4 fun I5 x_8 h9 m7=>
 sB (decide (x_8<(p0.n:Int)))
 (NB p0.a fun b10 o11=>Ib x_8 p0.n /\
 ∃x12 x13 x14 x15 x16 x17,aL1 h9 ⟨b10,o11+x_8.toNat*6,none⟩ x12 x13 x14 x15 x16 x17 /\
 Wn h9 [vI 0,vI 0,vI 0,vN,vN,vN] 98 fun h18=>
 Wp h18 ⟨h9.size,0,none⟩ 6 (L1 x12 x13 x14 x15 x16 x17) fun h19=>
 ∃x20,rI h19 ⟨h9.size,1,none⟩ x20 /\
 Mk x20 x20 24/\Wn h19 (madeL Pz 25 (x20.toNat)) 25 fun h21=>
 ∃x22,rS h21 ⟨h9.size,4,none⟩ x22 /\
 QI 0 h21 fun I23 x_26 h27 m25=>
 sB (decide (x_26<(x22.n:Int)))
 (NB x22.a fun b28 o29=>Ib x_26 x22.n /\
 ∃x30 x31 x32 x33 x34 x35,aL0 h27 ⟨b28,o29+x_26.toNat*6,none⟩ x30 x31 x32 x33 x34 x35 /\
 Wn h27 [vI 0,.bool false,vI 0,vI 0,vI 0,.bool false] 110 fun h36=>
 Wp h36 ⟨h27.size,0,none⟩ 6 (L0 x30 x31 x32 x33 x34 x35) fun h37=>
 ∃x38,rI h37 ⟨h27.size,0,none⟩ x38 /\
 ∃x39,rI h37 ⟨h27.size,0,none⟩ x39 /\
 (0<=(x39:Int)/\(x39:Int)<((x20.toNat):Nat)) /\
 ∃x40,rS h37 ⟨h19.size,0+x39.toNat*1,none⟩ x40 /\
 Wn h37 [vI x_26] 3 fun h41=>
 Sm [⟨h19.size,0+x39.toNat*1,none⟩,⟨h27.size,0,none⟩,⟨h27.size,0,none⟩] h37 h41 /\
 App Pz 25 25 (vS x40) (.slice (some ⟨h37.size,0,none⟩) 1 1) h41 fun s42 h43=>
 Sm [⟨h27.size,0,none⟩] h41 h43 /\
 (0<=(x38:Int)/\(x38:Int)<((x20.toNat):Nat)) /\
 Wp h43 ⟨h19.size,0+x38.toNat*1,none⟩ 1 [vS s42] fun h44=>
 ∃m45,m45<m25/\I23 (wrap .i64 (x_26+1)) h44 m45)
 (QI 0 h27 fun I46 x_49 h50 m48=>
 sB (decide (x_49<((x20.toNat):Int)))
 ((0<=(x_49:Int)/\(x_49:Int)<((x20.toNat):Nat)) /\
 ∃x51,rS h50 ⟨h19.size,0+x_49.toNat*1,none⟩ x51 /\
 Fn Pz 118 #[vS x51,.func (.func 119) #[] #[.pointer (some ⟨h9.size,0,none⟩)]] h50
 (fun v52 h53=>v52=.tuple ⟨[]⟩ /\
 ∃m54,m54<m48/\I46 (wrap .i64 (x_49+1)) h53 m54))
 (∃x55,rS h50 ⟨h3.size,2,none⟩ x55 /\
 Wn h50 [.slice (some ⟨h19.size,0,none⟩) (x20.toNat) (x20.toNat)] 26 fun h56=>
 App Pz 194 194 (vS x55) (.slice (some ⟨h50.size,0,none⟩) 1 1) h56 fun s57 h58=>
 Wp h58 ⟨h3.size,2,none⟩ 1 [vS s57] fun h59=>
 ∃m60,m60<m7/\I5 (wrap .i64 (x_8+1)) h59 m60)))
 (R (.pointer (some ⟨h3.size,0,none⟩)) h9))
theorem vc60 (p0:Sl) (p1:Int) (H:@W60 h R p0 p1):Fn Pz 60 #[vS p0,vI p1] h R:=fnJ (A:=(.s .z (.s .z (.s (.s .z (.b (.l [(20,.one (.int .i64))] (.s .z (.s .z (.s (.b (.s .z (.s .z (.s (AI 30) (.s (AI 50) .z))))) .z)))))) .z)))) H
def V26a (h8 h:Heap) (R:Value->Heap->Prop):Prop:=
 Wp h8 (aS h 0) 5 [vI 0,vN,vN,vI 0,vN] fun h9=>∃x10 x11 x12 x13 x14,aL10 h9 (aS h 0) x10 x11 x12 x13 x14/\R (.tuple ⟨[.agg ⟨(L10 x10 x11 x12 x13 x14)⟩,vI 1]⟩) h9
def V26b (h82 h:Heap) (R:Value->Heap->Prop):Prop:=
 ∃x83 x84 x85 x86 x87,aL10 h82 (aS h 0) x83 x84 x85 x86 x87/\R (.tuple ⟨[.agg ⟨(L10 x83 x84 x85 x86 x87)⟩,vI 0]⟩) h82
def V26c (h8 h:Heap) (R:Value->Heap->Prop):Prop:=
 Wp h8 (aS h 0) 5 [vI 0,vN,vN,vI 0,vN] fun h27=>∃x28 x29 x30 x31 x32,aL10 h27 (aS h 0) x28 x29 x30 x31 x32/\R (.tuple ⟨[.agg ⟨(L10 x28 x29 x30 x31 x32)⟩,vI 2]⟩) h27
def W26 (p0:Sl) (p1 p2:Int):Prop:=
 Wn h [vI 0,vN,vN,vI 0,vN] 74 fun h1=>Fn Pz 53 #[vS p0] h1 (fun v2 h6=>∃(x3 x4:Sl) (x5:Int),v2=.tuple ⟨[.agg ⟨[vS x3,vS x4]⟩,vI x5]⟩/\Wn h6 [vN,vN] 52 fun h7=>Wp h7 (aS h6 0) 2 [vS x3,vS x4] fun h8=>sB (x5 != 0) (V26a h8 h R) (sB (decide (p1<1)) (V26a h8 h R) (sB (decide (p1>4)) (V26a h8 h R) (sB (decide (p2<1)) (V26c h8 h R) (sB (decide (p2>20000)) (V26c h8 h R) (Fn Pz 60 #[vS p0,vI p1] h8 (fun v39 h41=>∃x40:Option Addr,v39=.pointer x40/\RunW Pz (Instr.makeMap 104 (none)) h41 (fun v42 h44=>∃x43:Option Nat,v42=.map x43/\∃(x45 x46:Sl),atC h44 (aS h6 0) [vS x45,vS x46]/\Fn Pz 61 #[.agg ⟨[vS x45,vS x46]⟩] h44 (fun v47 h49=>∃x48,iS v47 x48/\RunW Pz (Go.convert 54 9 (vS x48)) h49 (fun v50 h52=>∃x51:ByteArray,v50=.string x51/\RunW Pz (Instr.mapUpdate 104 (.map x43) (.string x51) (.bool true)) h52 (fun _ h53=>∃(x54 x55:Sl),atC h53 (aS h6 0) [vS x54,vS x55]/\Wn h53 [vS x54,vS x55,vI (-1),vI 0,vI 0] 133 fun h56=>QSI ⟨(some (aS h53 0)),1,1⟩ 0 h56 fun I57 queue_60 head_61 h62 m59=>sB (decide (head_61<(queue_60.n:Int))) (NB queue_60.a fun b63 o64=>Ib head_61 queue_60.n/\∃(x65 x66:Sl),atC h62 ⟨b63,o64+head_61.toNat*5,none⟩ [vS x65,vS x66]/\Wn h62 [vN,vN] 52 fun h67=>Wp h67 (aS h62 0) 2 [vS x65,vS x66] fun h68=>∃(x69 x70:Sl),atC h68 (aS h62 0) [vS x69,vS x70]/\Fn Pz 62 #[.pointer x40,.agg ⟨[vS x69,vS x70]⟩] h68 (fun v71 h73=>∃x72,iS v71 x72/\∃(x74 x75:Sl),atC h73 (aS h62 0) [vS x74,vS x75]/\Fn Pz 63 #[.pointer x40,.agg ⟨[vS x74,vS x75]⟩,.bool (decide ((x72.n:Int)>0))] h73 (fun v76 h78=>∃x77,iI v76 x77/\sB (x77 != 0) (Fn Pz 64 #[vS queue_60,vI head_61] h78 (fun v79 h81=>∃x80,iS v79 x80/\Wp h81 (aS h 0) 5 [vI 2,vN,vN,vI x77,vS x80] fun h82=>V26b h82 h R)) (QSI queue_60 0 h78 fun I88 queue_91 x_92 h93 m90=>sB (decide (x_92<(x72.n:Int))) (NB x72.a fun b94 o95=>Ib x_92 x72.n/\∃(x96 x97:Int),atC h93 ⟨b94,o95+x_92.toNat*2,none⟩ [vI x96,vI x97]/\Wn h93 [vI 0,vI 0] 43 fun h98=>Wp h98 (aS h93 0) 2 [vI x96,vI x97] fun h99=>∃(x100 x101:Sl),atC h99 (aS h62 0) [vS x100,vS x101]/\∃(x102 x103:Int),atC h99 (aS h93 0) [vI x102,vI x103]/\Fn Pz 65 #[.pointer x40,.agg ⟨[vS x100,vS x101]⟩,.agg ⟨[vI x102,vI x103]⟩] h99 (fun v104 h107=>∃(x105 x106:Sl),v104=.agg ⟨[vS x105,vS x106]⟩/\Wn h107 [vN,vN] 52 fun h108=>Wp h108 (aS h107 0) 2 [vS x105,vS x106] fun h109=>∃(x110 x111:Sl),atC h109 (aS h107 0) [vS x110,vS x111]/\Fn Pz 61 #[.agg ⟨[vS x110,vS x111]⟩] h109 (fun v112 h114=>∃x113,iS v112 x113/\RunW Pz (Go.convert 54 9 (vS x113)) h114 (fun v115 h117=>∃x116:ByteArray,v115=.string x116/\RunW Pz (Instr.lookup 104 (.map x43) (.string x116) false) h117 (fun v118 h120=>∃x119,iB v118 x119/\sB x119 (∃m121,m121<m90/\I88 queue_91 (wrap .i64 (x_92+1)) h120 m121) (sB ((queue_91.n:Int)==p2) (Wp h120 (aS h 0) 5 [vI 3,vN,vN,vI 0,vN] fun h122=>V26b h122 h R) (RunW Pz (Instr.mapUpdate 104 (.map x43) (.string x116) (.bool true)) h120 (fun _ h128=>∃(x129 x130:Sl),atC h128 (aS h107 0) [vS x129,vS x130]/\∃(x131 x132:Int),atC h128 (aS h93 0) [vI x131,vI x132]/\Wn h128 [vS x129,vS x130,vI head_61,vI x131,vI x132] 133 fun h133=>App Pz 134 134 (vS queue_91) (.slice (some (aS h128 0)) 1 1) h133 fun s134 h135=>∃m136,m136<m90/\I88 s134 (wrap .i64 (x_92+1)) h135 m136)))))))) (∃m137,m137<m59/\I57 queue_91 (wrap .i64 (head_61+1)) h93 m137))))) (((0:Int)<=(wrap .i64 ((p0.n:Int)*(p0.n:Int)))/\((wrap .i64 ((p0.n:Int)*(p0.n:Int))):Int)<=(wrap .i64 ((p0.n:Int)*(p0.n:Int)))/\((8:Nat):Int)*(wrap .i64 ((p0.n:Int)*(p0.n:Int)))<=140737488355328)/\Wn h62 (madeL Pz 3 (Int.toNat (wrap .i64 ((p0.n:Int)*(p0.n:Int))))) 3 fun h138=>Wn h138 [vI 0,vN,vN,vI 0,vN] 74 fun h139=>Wp h139 (aS h138 0) 5 [vI 1,vN,.slice (some (aS h62 0)) (Int.toNat (wrap .i64 ((p0.n:Int)*(p0.n:Int)))) (Int.toNat (wrap .i64 ((p0.n:Int)*(p0.n:Int)))),vI 0,vN] fun h140=>QI 0 h140 fun I141 x_144 h145 m143=>sB (decide (x_144<(queue_60.n:Int))) (NB queue_60.a fun b146 o147=>Ib x_144 queue_60.n/\∃(x148 x149:Sl) (x150 x151 x152:Int),atC h145 ⟨b146,o147+x_144.toNat*5,none⟩ [vS x148,vS x149,vI x150,vI x151,vI x152]/\Wn h145 [vN,vN,vI 0,vI 0,vI 0] 133 fun h153=>Wp h153 (aS h145 0) 5 [vS x148,vS x149,vI x150,vI x151,vI x152] fun h154=>∃x155,rS h154 (aS h138 1) x155/\∃(x156 x157:Sl),atC h154 (aS h145 0) [vS x156,vS x157]/\Fn Pz 66 #[.agg ⟨[vS x156,vS x157]⟩] h154 (fun v158 h161=>∃(x159 x160:Sl),v158=.agg ⟨[vS x159,vS x160]⟩/\Sm [(aS h138 1)] h154 h161/\Wn h161 [vS x159,vS x160] 52 fun h162=>Sm [(aS h138 1)] h161 h162/\App Pz 29 29 (vS x155) (.slice (some (aS h161 0)) 1 1) h162 fun s163 h164=>Wp h164 (aS h138 1) 1 [vS s163] fun h165=>∃x166,rS h165 (aS h145 1) x166/\QI 0 h165 fun I167 x_170 h171 m169=>sB (decide (x_170<(x166.n:Int))) (NB x166.a fun b172 o173=>Ib x_170 x166.n/\∃x174,rS h171 ⟨b172,o173+x_170.toNat*1,none⟩ x174/\∃x175,rS h171 (aS h138 2) x175/\∃x176,rS h171 (aS h138 2) x176/\NB x176.a fun b177 o178=>Ib x_170 x176.n/\∃x179,rI h171 ⟨b177,o178+x_170.toNat*1,none⟩ x179/\NB x175.a fun b180 o181=>Ib x_170 x175.n/\Wp h171 ⟨b180,o181+x_170.toNat*1,none⟩ 1 [vI (imax x179 (x174.n:Int))] fun h182=>∃m183,m183<m169/\I167 (wrap .i64 (x_170+1)) h182 m183) (∃m184,m184<m143/\I141 (wrap .i64 (x_144+1)) h171 m184))) (∃x185 x186 x187 x188 x189,aL10 h145 (aS h138 0) x185 x186 x187 x188 x189/\Wp h145 (aS h 0) 5 (L10 x185 x186 x187 x188 x189) fun h190=>V26b h190 h R)))))))))))))
theorem vc26 (p0:Sl) (p1 p2:Int) (H:@W26 h R p0 p1 p2):Fn Pz 26 #[vS p0,vI p1,vI p2] h R:=fnJ (A:=(.s .z (.s .z (.s .z (.s .z (.s .z (.s .z (.s (.s .z (.b (.l [(12,.one (.slice)),(13,.one (.int .i64))] (.s .z (.s (.b (.s .z (.s .z (.s .z (AJ 12 91))))) .z))))) (.s .z (.s (.s .z (.b (.l [(129,.one (.int .i64))] (.s .z (.s .z (.s (.b (.s .z (.s .z (AI 145)))) .z)))))) .z)))))))))) H
def W69 (p0:Sl) (p1:Int):Prop:=
 0<=(1:Int)/\0<=(63:Int)/\QSI p0 (xorI .u64 (shlI .u64 (wrap .u64 p1) 1) (wrap .u64 (shrI .i64 p1 63))) h fun I1 b_4 u_5 h6 m3=>
 sB (decide (u_5>=128))
 (Wn h6 [.int .u8 (orI .u8 (wrap .u8 u_5) 128)] 5 fun h7=>
 App Pz 54 54 (vS b_4) (.slice (some (aS h6 0)) 1 1) h7 fun s8 h9=>
 0<=(7:Int)/\∃m10,m10<m3/\I1 s8 (shrI .u64 u_5 7) h9 m10)
 (Wn h6 [.int .u8 (wrap .u8 u_5)] 5 fun h11=>
 App Pz 54 54 (vS b_4) (.slice (some (aS h6 0)) 1 1) h11 fun s12 h13=>
 R (vS s12) h13)
theorem vc69 (p0:Sl) (p1:Int) (H:@W69 h R p0 p1):Fn Pz 69 #[vS p0,vI p1] h R:=fnJ (A:=(.s .z (.s .z (.s (.b (.l [(0,.one (.slice)),(5,.one (.int .u64))] .z)) .z)))) H
def W121 (p0 p1:Sl):Prop:=
 Fn Pz 69 #[vS p0,vI (p1.n:Int)] h
 (fun v1 h3=>∃x2,iS v1 x2 /\
 QSI x2 0 h3 fun I4 b_7 x_8 h9 m6=>
 sB (decide (x_8<(p1.n:Int)))
 (NB p1.a fun b10 o11=>Ib x_8 p1.n /\
 ∃x12,rI h9 ⟨b10,o11+x_8.toNat*1,none⟩ x12 /\
 Fn Pz 69 #[vS b_7,vI x12] h9
 (fun v13 h15=>∃x14,iS v13 x14 /\
 ∃m16,m16<m6/\I4 x14 (wrap .i64 (x_8+1)) h15 m16))
 (R (vS b_7) h9))
theorem vc121 (p0 p1:Sl) (H:@W121 h R p0 p1):Fn Pz 121 #[vS p0,vS p1] h R:=fnJ (A:=(.s .z (.s .z (.s (AJ 0 13) .z)))) H
def W61 (pa pb:Sl):Prop:=
 Wn h [vS pa,vS pb] 52 fun h3=>
 ∃x4,rS h3 (aS h 0) x4 /\
 ∃x5,rS h3 (aS h 1) x5 /\
 Fn Pz 121 #[vN,vS x4] h3
 (fun v6 h8=>∃x7,iS v6 x7 /\
 Sm [(aS h 1)] h3 h8 /\
 Fn Pz 69 #[vS x7,vI (x5.n:Int)] h8
 (fun v9 h11=>∃x10,iS v9 x10 /\
 ∃x12,rS h11 (aS h 1) x12 /\
 QSI x10 0 h11 fun I13 b_16 x_17 h18 m15=>
 sB (decide (x_17<(x12.n:Int)))
 (NB x12.a fun b19 o20=>Ib x_17 x12.n /\
 ∃x21,rS h18 ⟨b19,o20+x_17.toNat*1,none⟩ x21 /\
 Fn Pz 121 #[vS b_16,vS x21] h18
 (fun v22 h24=>∃x23,iS v22 x23 /\
 ∃m25,m25<m15/\I13 x23 (wrap .i64 (x_17+1)) h24 m25))
 (R (vS b_16) h18)))
theorem vc61 (pa pb:Sl) (H:@W61 h R pa pb):Fn Pz 61 #[.agg ⟨[vS pa,vS pb]⟩] h R:=fnJ (A:=(.s .z (.s .z (.s (AJ 3 16) .z)))) H
end Go.VC
end

section
namespace Go.VC
open Go.Proofs IntKind



end Go.VC
end

section
namespace Go.VC
open Go.Proofs IntKind
variable {h:Heap} {R:Value->Heap->Prop}
def V94a (h6 h:Heap) (R:Value->Heap->Prop):Prop:=
 ∃x7 x8 x9 x10,aL4 h6 (aS h 0) x7 x8 x9 x10/\R (.agg ⟨(L4 x7 x8 x9 x10)⟩) h6
def W94 (p0:Addr) (p1:Int) (p2:FuncId) (p2c:Option Addr):Prop:=
 Wn h [vI 0,vI 0,vI 0,vI 0] 45 fun h1=>∃x2,rS h1 ⟨p0.block,p0.off+1+1,none⟩ x2/\Fn Pz 152 #[vS x2,.func (.func p2) #[] #[.pointer p2c]] h1 (fun v3 h5=>∃x4,iI v3 x4/\sB (decide (x4>=0)) (Wp h5 (aS h 0) 4 [vI p1,vI x4,vI 0,vI 0] fun h6=>V94a h6 h R) (Wp h5 (aS h 0) 4 [vI 0,vI 0,vI 0,vI 0] fun h11=>V94a h11 h R))
theorem vc94 (p0:Addr) (p1:Int) (p2:FuncId) (p2c:Option Addr) (H:@W94 h R p0 p1 p2 p2c):Fn Pz 94 #[.pointer (some p0),vI p1,.func (.func p2) #[] #[.pointer p2c]] h R:=fnJ (A:=.z) H
def W152 (p0:Sl) (p1:FuncId) (p1c:Option Addr):Prop:=
 QI 0 h fun I1 x_4 h5 m3=>
 sB (decide (x_4<(p0.n:Int)))
 (NB p0.a fun b6 o7=>Ib x_4 p0.n /\
 ∃(x8 x9:Sl),atC h5 ⟨b6,o7+x_4.toNat*2,none⟩ [vS x8,vS x9] /\
 bif callable Pz p1 then Fn Pz p1 #[.agg ⟨[vS x8,vS x9]⟩,.pointer p1c] h5
 (fun v10 h12=>∃x11,iB v10 x11 /\
 sB x11
 (R (vI x_4) h12)
 (∃m13,m13<m3/\I1 (wrap .i64 (x_4+1)) h12 m13)) else ExtW Pz p1 #[.agg ⟨[vS x8,vS x9]⟩,.pointer p1c] h5
 (fun v10 h12=>∃x11,iB v10 x11 /\
 sB x11
 (R (vI x_4) h12)
 (∃m13,m13<m3/\I1 (wrap .i64 (x_4+1)) h12 m13)))
 (R (vI (-1)) h5)
theorem vc152 (p0:Sl) (p1:FuncId) (p1c:Option Addr) (H:@W152 h R p0 p1 p1c):Fn Pz 152 #[vS p0,.func (.func p1) #[] #[.pointer p1c]] h R:=fnJ (A:=(.s .z (.s (AI 8) .z))) H
def W95 (pa pb:Sl) (c0:Addr):Prop:=
 Wn h [vS pa,vS pb] 52 fun h3=>
 ∃x4:Option Addr,hc h3 c0=some (.pointer x4) /\
 NC x4 fun a5=>∃x6,rS h3 a5 x6 /\
 ∃x7:Option Addr,hc h3 c0=some (.pointer x7) /\
 NC x7 fun a8=>∃x9,rI h3 ⟨a8.block,a8.off+1,none⟩ x9 /\
 ∃(x10 x11:Sl),atC h3 (aS h 0) [vS x10,vS x11] /\
 Fn Pz 56 #[vS x6,vI x9,.agg ⟨[vS x10,vS x11]⟩] h3
 (fun v12 h14=>∃x13,iB v12 x13 /\
 R (.bool (!x13)) h14)
theorem vc95 (pa pb:Sl) (c0:Addr) (H:@W95 h R pa pb c0):Fn Pz 95 #[.agg ⟨[vS pa,vS pb]⟩,.pointer (some c0)] h R:=fnJ (A:=.z) H
def W96 (pa pb:Sl) (c0:Addr):Prop:=
 Wn h [vS pa,vS pb] 52 fun h3=>
 ∃x4:Option Addr,hc h3 c0=some (.pointer x4) /\
 NC x4 fun a5=>∃x6,rS h3 a5 x6 /\
 ∃x7:Option Addr,hc h3 c0=some (.pointer x7) /\
 NC x7 fun a8=>∃x9,rI h3 ⟨a8.block,a8.off+1,none⟩ x9 /\
 ∃(x10 x11:Sl),atC h3 (aS h 0) [vS x10,vS x11] /\
 Fn Pz 25 #[vS x6,vI x9,.agg ⟨[vS x10,vS x11]⟩] h3
 (fun v12 h15=>∃(x13 x14:Int),v12=.tuple ⟨[vI x13,vI x14]⟩ /\
 R (.bool (x13 != 0)) h15)
theorem vc96 (pa pb:Sl) (c0:Addr) (H:@W96 h R pa pb c0):Fn Pz 96 #[.agg ⟨[vS pa,vS pb]⟩,.pointer (some c0)] h R:=fnJ (A:=.z) H
def V38b (h20 h:Heap) (R:Value->Heap->Prop):Prop:=
 ∃x21 x22 x23 x24,aL4 h20 (aS h 0) x21 x22 x23 x24/\R (.agg ⟨(L4 x21 x22 x23 x24)⟩) h20
def V38a (h1 h:Heap) (R:Value->Heap->Prop):Prop:=
 Wp h1 (aS h 0) 4 [vI 1,vI 0,vI 0,vI 0] fun h3=>V38b h3 h R
def W38 (p0:Addr):Prop:=
 Wn h [vI 0,vI 0,vI 0,vI 0] 45 fun h1=>∃x2,rI h1 ⟨p0.block,p0.off+1,none⟩ x2/\sB (decide (x2<1)) (V38a h1 h R) (∃x8,rI h1 ⟨p0.block,p0.off+1,none⟩ x8/\sB (decide (x8>4)) (V38a h1 h R) (∃x14,rS h1 ⟨p0.block,p0.off+1+1,none⟩ x14/\sB (decide ((x14.n:Int)>20000)) (V38a h1 h R) (Wp h1 (aS h 0) 4 [vI 0,vI 0,vI 0,vI 0] fun h20=>V38b h20 h R)))
theorem vc38 (p0:Addr) (H:@W38 h R p0):Fn Pz 38 #[.pointer (some p0)] h R:=fnJ (A:=.z) H
def W39 (p0:Addr):Prop:=
 Wn h [.pointer (some p0)] 103 fun h1=>
 Wn h1 [vI 0,vI 0,vI 0,vI 0] 45 fun h2=>
 ∃x3:Option Addr,hc h2 (aS h 0)=some (.pointer x3) /\
 Fn Pz 94 #[.pointer x3,vI 2,.func (.func 95) #[] #[.pointer (some (aS h 0))]] h2
 (fun v4 h9=>∃(x5 x6 x7 x8:Int),v4=.agg ⟨(L4 x5 x6 x7 x8)⟩ /\
 Wp h9 (aS h1 0) 4 (L4 x5 x6 x7 x8) fun h10=>
 ∃x11 x12 x13 x14,aL4 h10 (aS h1 0) x11 x12 x13 x14 /\
 R (.agg ⟨(L4 x11 x12 x13 x14)⟩) h10)
theorem vc39 (p0:Addr) (H:@W39 h R p0):Fn Pz 39 #[.pointer (some p0)] h R:=fnJ (A:=.z) H
def W40 (p0:Addr):Prop:=
 Wn h [.pointer (some p0)] 103 fun h1=>
 Wn h1 [vI 0,vI 0,vI 0,vI 0] 45 fun h2=>
 ∃x3:Option Addr,hc h2 (aS h 0)=some (.pointer x3) /\
 Fn Pz 94 #[.pointer x3,vI 3,.func (.func 96) #[] #[.pointer (some (aS h 0))]] h2
 (fun v4 h9=>∃(x5 x6 x7 x8:Int),v4=.agg ⟨(L4 x5 x6 x7 x8)⟩ /\
 Wp h9 (aS h1 0) 4 (L4 x5 x6 x7 x8) fun h10=>
 ∃x11 x12 x13 x14,aL4 h10 (aS h1 0) x11 x12 x13 x14 /\
 R (.agg ⟨(L4 x11 x12 x13 x14)⟩) h10)
theorem vc40 (p0:Addr) (H:@W40 h R p0):Fn Pz 40 #[.pointer (some p0)] h R:=fnJ (A:=.z) H
def V41a (h39 h:Heap) (R:Value->Heap->Prop):Prop:=
 ∃x40 x41 x42 x43,aL4 h39 (aS h 0) x40 x41 x42 x43/\R (.agg ⟨(L4 x40 x41 x42 x43)⟩) h39
def W41 (p0:Addr):Prop:=
 Wn h [vI 0,vI 0,vI 0,vI 0] 45 fun h1=>∃x2,rS h1 ⟨p0.block,p0.off+1+1,none⟩ x2/\QI 0 h1 fun I3 x_6 h7 m5=>sB (decide (x_6<(x2.n:Int))) (NB x2.a fun b8 o9=>Ib x_6 x2.n/\∃(x10 x11:Sl),atC h7 ⟨b8,o9+x_6.toNat*2,none⟩ [vS x10,vS x11]/\Wn h7 [vN,vN] 52 fun h12=>Wp h12 (aS h7 0) 2 [vS x10,vS x11] fun h13=>∃x14:Option Nat,hc h13 ⟨p0.block,p0.off+3,none⟩=some (.map x14)/\∃(x15 x16:Sl),atC h13 (aS h7 0) [vS x15,vS x16]/\Fn Pz 54 #[.agg ⟨[vS x15,vS x16]⟩] h13 (fun v17 h19=>∃x18:ByteArray,v17=.string x18/\Sm [⟨p0.block,p0.off+3,none⟩] h13 h19/\RunW Pz (Instr.mapUpdate 104 (.map x14) (.string x18) (.bool true)) h19 (fun _ h20=>∃m21,m21<m5/\I3 (wrap .i64 (x_6+1)) h20 m21))) (∃x22,rS h7 p0 x22/\Fn Pz 53 #[vS x22] h7 (fun v23 h27=>∃(x24 x25:Sl) (x26:Int),v23=.tuple ⟨[.agg ⟨[vS x24,vS x25]⟩,vI x26]⟩/\Wn h27 [vN,vN] 52 fun h28=>Wp h28 (aS h27 0) 2 [vS x24,vS x25] fun h29=>∃x30:Option Nat,hc h29 ⟨p0.block,p0.off+3,none⟩=some (.map x30)/\∃(x31 x32:Sl),atC h29 (aS h27 0) [vS x31,vS x32]/\Fn Pz 54 #[.agg ⟨[vS x31,vS x32]⟩] h29 (fun v33 h35=>∃x34:ByteArray,v33=.string x34/\Sm [⟨p0.block,p0.off+3,none⟩] h29 h35/\RunW Pz (Instr.lookup 104 (.map x30) (.string x34) false) h35 (fun v36 h38=>∃x37,iB v36 x37/\sB (!x37) (Wp h38 (aS h 0) 4 [vI 4,vI 0,vI 0,vI 0] fun h39=>V41a h39 h R) (Wp h38 (aS h 0) 4 [vI 0,vI 0,vI 0,vI 0] fun h44=>V41a h44 h R)))))
theorem vc41 (p0:Addr) (H:@W41 h R p0):Fn Pz 41 #[.pointer (some p0)] h R:=fnJ (A:=(.s .z (.s (AI 13) .z))) H
def V42b (h101 h:Heap) (R:Value->Heap->Prop):Prop:=
 ∃x102 x103 x104 x105,aL4 h101 (aS h 0) x102 x103 x104 x105/\R (.agg ⟨(L4 x102 x103 x104 x105)⟩) h101
def V42a (h57 h56:Heap) (x53 x54:Sl) (p0:Addr) (h39 h:Heap) (x_9:Int) (R:Value->Heap->Prop) (m37:Nat) (I35:Int->Heap->Nat->Prop) (x_38:Int):Prop:=
 Wp h57 (aS h56 0) 2 [vS x53,vS x54] fun h58=>∃x59:Option Nat,hc h58 ⟨p0.block,p0.off+3,none⟩=some (.map x59)/\∃(x60 x61:Sl),atC h58 (aS h56 0) [vS x60,vS x61]/\Fn Pz 54 #[.agg ⟨[vS x60,vS x61]⟩] h58 (fun v62 h64=>∃x63:ByteArray,v62=.string x63/\Sm [⟨p0.block,p0.off+3,none⟩] h58 h64/\RunW Pz (Instr.lookup 104 (.map x59) (.string x63) false) h64 (fun v65 h67=>∃x66,iB v65 x66/\sB (!x66) (∃(x68 x69:Int),atC h67 (aS h39 0) [vI x68,vI x69]/\Wp h67 (aS h 0) 4 [vI 5,vI x_9,vI x68,vI x69] fun h70=>V42b h70 h R) (∃m75,m75<m37/\I35 (wrap .i64 (x_38+1)) h67 m75)))
def W42 (p0:Addr):Prop:=
 Wn h [vI 0,vI 0,vI 0,vI 0] 45 fun h1=>RunW Pz (Instr.makeMap 104 (none)) h1 (fun v2 h4=>∃x3:Option Nat,v2=.map x3/\∃x5,rS h4 ⟨p0.block,p0.off+1+1,none⟩ x5/\QI 0 h4 fun I6 x_9 h10 m8=>sB (decide (x_9<(x5.n:Int))) (NB x5.a fun b11 o12=>Ib x_9 x5.n/\∃(x13 x14:Sl),atC h10 ⟨b11,o12+x_9.toNat*2,none⟩ [vS x13,vS x14]/\Wn h10 [vN,vN] 52 fun h15=>Wp h15 (aS h10 0) 2 [vS x13,vS x14] fun h16=>∃(x17 x18:Sl),atC h16 (aS h10 0) [vS x17,vS x18]/\Fn Pz 54 #[.agg ⟨[vS x17,vS x18]⟩] h16 (fun v19 h21=>∃x20:ByteArray,v19=.string x20/\RunW Pz (Instr.lookup 104 (.map x3) (.string x20) false) h21 (fun v22 h24=>∃x23,iB v22 x23/\sB x23 (∃m25,m25<m8/\I6 (wrap .i64 (x_9+1)) h24 m25) (RunW Pz (Instr.mapUpdate 104 (.map x3) (.string x20) (.bool true)) h24 (fun _ h26=>∃x27,rS h26 p0 x27/\∃x28,rI h26 ⟨p0.block,p0.off+1,none⟩ x28/\∃(x29 x30:Sl),atC h26 (aS h10 0) [vS x29,vS x30]/\Fn Pz 97 #[vS x27,vI x28,.agg ⟨[vS x29,vS x30]⟩] h26 (fun v31 h34=>∃(x32:Sl) (x33:Int),v31=.tuple ⟨[vS x32,vI x33]⟩/\QI 0 h34 fun I35 x_38 h39 m37=>sB (decide (x_38<(x32.n:Int))) (NB x32.a fun b40 o41=>Ib x_38 x32.n/\∃(x42 x43:Int),atC h39 ⟨b40,o41+x_38.toNat*2,none⟩ [vI x42,vI x43]/\Wn h39 [vI 0,vI 0] 43 fun h44=>Wp h44 (aS h39 0) 2 [vI x42,vI x43] fun h45=>∃x46,rS h45 p0 x46/\∃x47,rI h45 ⟨p0.block,p0.off+1,none⟩ x47/\∃(x48 x49:Sl),atC h45 (aS h10 0) [vS x48,vS x49]/\∃(x50 x51:Int),atC h45 (aS h39 0) [vI x50,vI x51]/\(Fn Pz 55 #[vS x46,vI x47,.agg ⟨[vS x48,vS x49]⟩,.agg ⟨[vI x50,vI x51]⟩] h45 (fun v52 h56=>∃(x53 x54:Sl) (x55:Int),v52=.tuple ⟨[.agg ⟨[vS x53,vS x54]⟩,vI x55]⟩/\Wn h56 [vN,vN] 52 fun h57=>Sm [(aS h39 0),(aS h10 0),⟨p0.block,p0.off+1,none⟩,p0] h56 h57/\V42a h57 h56 x53 x54 p0 h39 h x_9 R m37 I35 x_38))/\Wn h45 [vN,vN] 52 fun h76=>Sm [(aS h39 0),(aS h10 0),⟨p0.block,p0.off+1,none⟩,p0] h45 h76/\Fn Pz 55 #[vS x46,vI x47,.agg ⟨[vS x48,vS x49]⟩,.agg ⟨[vI x50,vI x51]⟩] h76 (fun v77 h81=>∃(x78 x79:Sl) (x80:Int),v77=.tuple ⟨[.agg ⟨[vS x78,vS x79]⟩,vI x80]⟩/\V42a h81 h45 x78 x79 p0 h39 h x_9 R m37 I35 x_38)) (∃m100,m100<m8/\I6 (wrap .i64 (x_9+1)) h39 m100))))))) (Wp h10 (aS h 0) 4 [vI 0,vI 0,vI 0,vI 0] fun h101=>V42b h101 h R))
theorem vc42 (p0:Addr) (H:@W42 h R p0):Fn Pz 42 #[.pointer (some p0)] h R:=fnJ (A:=(.s .z (.s .z (.s (.s .z (.b (.l [(20,.one (.int .i64))] (.s .z (.s .z (.s (.b (.s .z (.s .z (.s .z (AI 48))))) .z)))))) .z)))) H
def W54 (pa pb:Sl):Prop:=
 Wn h [vS pa,vS pb] 52 fun h3=>
 ∃(x4 x5:Sl),atC h3 (aS h 0) [vS x4,vS x5] /\
 Fn Pz 61 #[.agg ⟨[vS x4,vS x5]⟩] h3
 (fun v6 h8=>∃x7,iS v6 x7 /\
 RunW Pz (Go.convert 54 9 (vS x7)) h8
 (fun v9 h11=>∃x10:ByteArray,v9=.string x10 /\
 R (.string x10) h11))
theorem vc54 (pa pb:Sl) (H:@W54 h R pa pb):Fn Pz 54 #[.agg ⟨[vS pa,vS pb]⟩] h R:=fnJ (A:=.z) H
def V15a (h33:Heap) (x29 x30 x31 x32:Int) (h3:Heap) (R:Value->Heap->Prop) (m21:Nat) (I19:Int->Heap->Nat->Prop) (x_22:Int):Prop:=
 Wn h33 [vI 0,vI 0,vI 0,vI 0] 45 fun h34=>Wp h34 ⟨h33.size,0,none⟩ 4 (L4 x29 x30 x31 x32) fun h35=>∃x36,rI h35 ⟨h33.size,0,none⟩ x36/\sB (x36 != 0) (∃x37 x38 x39 x40,aL4 h35 ⟨h33.size,0,none⟩ x37 x38 x39 x40/\Wp h35 ⟨h3.size,0,none⟩ 4 (L4 x37 x38 x39 x40) fun h41=>∃x42 x43 x44 x45,aL4 h41 ⟨h3.size,0,none⟩ x42 x43 x44 x45/\R (.tuple ⟨[.agg ⟨(L4 x42 x43 x44 x45)⟩,vI 23]⟩) h41) (∃m46,m46<m21/\I19 (wrap .i64 (x_22+1)) h35 m46)
def W15 (p0:Sl) (pa:Int) (pb:Sl):Prop:=
 Wn h [vI pa,vS pb] 31 fun h3=>Wn h3 [vI 0,vI 0,vI 0,vI 0] 45 fun h4=>Fn Pz 37 #[vS p0] h4 (fun v5 h7=>∃x6,iB v5 x6/\sB (!x6) (Wp h7 ⟨h3.size,0,none⟩ 4 [vI 0,vI 0,vI 0,vI 0] fun h8=>∃x9 x10 x11 x12,aL4 h8 ⟨h3.size,0,none⟩ x9 x10 x11 x12/\R (.tuple ⟨[.agg ⟨(L4 x9 x10 x11 x12)⟩,vI 1]⟩) h8) (∃(x13:Int) (x14:Sl),atC h7 ⟨h.size,0,none⟩ [vI x13,vS x14]/\RunW Pz (Instr.makeMap 104 (none)) h7 (fun v15 h17=>∃x16:Option Nat,v15=.map x16/\Wn h17 [vS p0,vI x13,vS x14,.map x16] 106 fun h18=>QI 0 h18 fun I19 x_22 h23 m21=>sB (decide (x_22<5)) (Ib x_22 5/\∃x24:Value,List.take 1 (List.drop (x_22.toNat*1) ([.func (.func 38) #[.pointer (some ⟨h17.size,0,none⟩)] #[],.func (.func 39) #[.pointer (some ⟨h17.size,0,none⟩)] #[],.func (.func 40) #[.pointer (some ⟨h17.size,0,none⟩)] #[],.func (.func 41) #[.pointer (some ⟨h17.size,0,none⟩)] #[],.func (.func 42) #[.pointer (some ⟨h17.size,0,none⟩)] #[]]:List Value))=[x24]/\match x24 with | .func (.func g25) fa26 fc27=>(bif callable Pz g25 then Fn Pz g25 (fa26 ++ #[]++fc27) h23 (fun v28 h33=>∃(x29 x30 x31 x32:Int),v28=.agg ⟨(L4 x29 x30 x31 x32)⟩/\V15a h33 x29 x30 x31 x32 h3 R m21 I19 x_22) else ExtW Pz g25 (fa26 ++ #[]++fc27) h23 (fun v28 h33=>∃(x29 x30 x31 x32:Int),v28=.agg ⟨(L4 x29 x30 x31 x32)⟩/\V15a h33 x29 x30 x31 x32 h3 R m21 I19 x_22)) | _=>False) (Wp h23 ⟨h3.size,0,none⟩ 4 [vI 0,vI 0,vI 0,vI 0] fun h47=>∃x48 x49 x50 x51,aL4 h47 ⟨h3.size,0,none⟩ x48 x49 x50 x51/\R (.tuple ⟨[.agg ⟨(L4 x48 x49 x50 x51)⟩,vI 0]⟩) h47))))
theorem vc15 (p0:Sl) (pa:Int) (pb:Sl) (H:@W15 h R p0 pa pb):Fn Pz 15 #[vS p0,.agg ⟨[vI pa,vS pb]⟩] h R:=fnJ (A:=(.s .z (.s .z (.s .z (.s (AI 30) .z))))) H
def W9 :Prop:=
 Fn Pz 34 #[.bool true] h
 (fun v1 h10=>∃(x2:ByteArray) (x3 x4:Sl) (x5 x6 x7:Int) (x8 x9:Sl),v1=.agg ⟨(L2 x2 x3 x4 x5 x6 x7 x8 x9)⟩ /\
 Fn Pz 33 #[.agg ⟨(L2 x2 x3 x4 x5 x6 x7 x8 x9)⟩] h10
 (fun v11 h14=>∃(x12:Sl) (x13:Int),v11=.tuple ⟨[vS x12,vI x13]⟩ /\
 Fn Pz 11 #[vS x12,vI 1,vI 1000] h14
 (fun v15 h19=>∃(x16:Int) (x17:Sl) (x18:Int),v15=.tuple ⟨[.agg ⟨[vI x16,vS x17]⟩,vI x18]⟩ /\
 Wn h19 [vI 0,vN] 31 fun h20=>
 Wp h20 (aS h19 0) 2 [vI x16,vS x17] fun h21=>
 ∃(x22:Int) (x23:Sl),atC h21 (aS h19 0) [vI x22,vS x23] /\
 Fn Pz 15 #[vS x12,.agg ⟨[vI x22,vS x23]⟩] h21
 (fun v24 h30=>∃(x25 x26 x27 x28 x29:Int),v24=.tuple ⟨[.agg ⟨(L4 x25 x26 x27 x28)⟩,vI x29]⟩ /\
 Wn h30 [vI 0,vI 0,vI 0,vI 0] 45 fun h31=>
 Wp h31 (aS h30 0) 4 (L4 x25 x26 x27 x28) fun h32=>
 sB (x13 != 0)
 (R (.bool false) h32)
 (sB (x18 != 0)
 (R (.bool false) h32)
 (sB (x29 != 0)
 (R (.bool false) h32)
 (∃x33,rI h32 (aS h30 0) x33 /\
 sB (x33 != 0)
 (R (.bool false) h32)
 (∃x34,rS h32 (aS h19 1) x34 /\
 sB (decide ((x34.n:Int)<2))
 (R (.bool false) h32)
 (∃x35,rS h32 (aS h19 1) x35 /\
 ∃x36,rS h32 (aS h19 1) x36 /\
 ((0:Int)<=(0:Int)/\(0:Int)<=((wrap .i64 ((x36.n:Int)-1)):Int)/\((wrap .i64 ((x36.n:Int)-1)):Int)<=(x35.c:Nat)) /\
 Wp h32 (aS h19 1) 1 [.slice (subA x35.a (Int.toNat 0) x35.c 2) (Int.toNat (wrap .i64 ((x36.n:Int)-1))-Int.toNat 0) (x35.c-Int.toNat 0)] fun h37=>
 ∃(x38:Int) (x39:Sl),atC h37 (aS h19 0) [vI x38,vS x39] /\
 Fn Pz 15 #[vS x12,.agg ⟨[vI x38,vS x39]⟩] h37
 (fun v40 h46=>∃(x41 x42 x43 x44 x45:Int),v40=.tuple ⟨[.agg ⟨(L4 x41 x42 x43 x44)⟩,vI x45]⟩ /\
 Wp h46 (aS h30 0) 4 (L4 x41 x42 x43 x44) fun h47=>
 sB (x45==23)
 (∃x48,rI h47 (aS h30 0) x48 /\
 R (.bool (x48==5)) h47)
 (R (.bool false) h47)))))))))))
theorem vc9  (H:@W9 h R ):Fn Pz 9 #[] h R:=fnJ (A:=.z) H
def W11 (p0:Sl) (p1 p2:Int):Prop:=
 Wn h [vI 0,vN] 31 fun h1=>
 Fn Pz 26 #[vS p0,vI p1,vI p2] h1
 (fun v2 h9=>∃(x3:Int) (x4 x5:Sl) (x6:Int) (x7:Sl) (x8:Int),v2=.tuple ⟨[.agg ⟨(L10 x3 x4 x5 x6 x7)⟩,vI x8]⟩ /\
 Wn h9 [vI 0,vN,vN,vI 0,vN] 74 fun h10=>
 Wp h10 (aS h9 0) 5 (L10 x3 x4 x5 x6 x7) fun h11=>
 sB (x8 != 0)
 (Wp h11 (aS h 0) 2 [vI 0,vN] fun h12=>
 ∃(x13:Int) (x14:Sl),atC h12 (aS h 0) [vI x13,vS x14] /\
 R (.tuple ⟨[.agg ⟨[vI x13,vS x14]⟩,vI x8]⟩) h12)
 (∃x15,rI h11 (aS h9 0) x15 /\
 sB (x15==2)
 (Wp h11 (aS h 0) 2 [vI 0,vN] fun h16=>
 ∃(x17:Int) (x18:Sl),atC h16 (aS h 0) [vI x17,vS x18] /\
 R (.tuple ⟨[.agg ⟨[vI x17,vS x18]⟩,vI 23]⟩) h16)
 (∃x19,rI h11 (aS h9 0) x19 /\
 sB (x19==3)
 (Wp h11 (aS h 0) 2 [vI 0,vN] fun h20=>
 ∃(x21:Int) (x22:Sl),atC h20 (aS h 0) [vI x21,vS x22] /\
 R (.tuple ⟨[.agg ⟨[vI x21,vS x22]⟩,vI 6]⟩) h20)
 (∃x23,rS h11 (aS h9 1) x23 /\
 Wp h11 (aS h 0) 2 [vI p1,vS x23] fun h24=>
 ∃(x25:Int) (x26:Sl),atC h24 (aS h 0) [vI x25,vS x26] /\
 R (.tuple ⟨[.agg ⟨[vI x25,vS x26]⟩,vI 0]⟩) h24))))
theorem vc11 (p0:Sl) (p1 p2:Int) (H:@W11 h R p0 p1 p2):Fn Pz 11 #[vS p0,vI p1,vI p2] h R:=fnJ (A:=.z) H
def W16 (p0:Sl) (pa:Int) (pb:Sl):Prop:=
 Wn h [vI pa,vS pb] 37 fun h3=>
 Fn Pz 10 #[vS p0,.agg ⟨[vN,vN]⟩] h3
 (fun v4 h6=>∃x5,iB v4 x5 /\
 sB x5
 (∃(x7:Int) (x8:Sl),atC h6 (aS h 0) [vI x7,vS x8] /\
 Fn Pz 21 #[.agg ⟨[vI x7,vS x8]⟩] h6
 (fun v9 h11=>∃x10,iB v9 x10 /\
 R (.bool x10) h11))
 (R (.bool false) h6))
theorem vc16 (p0:Sl) (pa:Int) (pb:Sl) (H:@W16 h R p0 pa pb):Fn Pz 16 #[vS p0,.agg ⟨[vI pa,vS pb]⟩] h R:=fnJ (A:=.z) H
def W17 (pa:Int) (pb:Sl):Prop:=
 Wn h [vI pa,vS pb] 37 fun h3=>
 Wn h3 [vI 0,vN] 31 fun h4=>
 ∃x5,rI h4 (aS h 0) x5 /\
 Wn h4 [vI 0,vN] 31 fun h6=>
 Wp h6 (aS h4 0) 2 [vI x5,vN] fun h7=>
 ∃x8,rS h7 (aS h 1) x8 /\
 QI 0 h7 fun I9 x_12 h13 m11=>
 sB (decide (x_12<(x8.n:Int)))
 (∃x14,rS h13 (aS h4 1) x14 /\
 ∃x15,rS h13 (aS h 1) x15 /\
 NB x15.a fun b16 o17=>Ib x_12 x15.n /\
 ∃(x18 x19:Sl),atC h13 ⟨b16,o17+x_12.toNat*2,none⟩ [vS x18,vS x19] /\
 Wn h13 [vS x18,vS x19] 52 fun h20=>
 Sm [(aS h4 1)] h13 h20 /\
 App Pz 29 29 (vS x14) (.slice (some (aS h13 0)) 1 1) h20 fun s21 h22=>
 Wp h22 (aS h4 1) 1 [vS s21] fun h23=>
 ∃m24,m24<m11/\I9 (wrap .i64 (x_12+1)) h23 m24)
 (∃(x25:Int) (x26:Sl),atC h13 (aS h4 0) [vI x25,vS x26] /\
 Wp h13 (aS h3 0) 2 [vI x25,vS x26] fun h27=>
 ∃(x28:Int) (x29:Sl),atC h27 (aS h3 0) [vI x28,vS x29] /\
 R (.agg ⟨[vI x28,vS x29]⟩) h27)
theorem vc17 (pa:Int) (pb:Sl) (H:@W17 h R pa pb):Fn Pz 17 #[.agg ⟨[vI pa,vS pb]⟩] h R:=fnJ (A:=(.s .z (.s .z (.s (AI 11) .z)))) H
def W21 (pa:Int) (pb:Sl):Prop:=
 Wn h [vI pa,vS pb] 37 fun h3=>
 QI 0 h3 fun I4 i_7 h8 m6=>
 ∃x9,rS h8 (aS h 1) x9 /\
 sB (decide (i_7<(x9.n:Int)))
 (∃x10,rS h8 (aS h 1) x10 /\
 NB x10.a fun b11 o12=>Ib i_7 x10.n /\
 ∃(x13 x14:Sl),atC h8 ⟨b11,o12+i_7.toNat*2,none⟩ [vS x13,vS x14] /\
 Fn Pz 10 #[vN,.agg ⟨[vS x13,vS x14]⟩] h8
 (fun v15 h17=>∃x16,iB v15 x16 /\
 sB (!x16)
 (R (.bool false) h17)
 (∃m18,m18<m6/\I4 (wrap .i64 (i_7+1)) h17 m18)))
 (∃x19,rS h8 (aS h 1) x19 /\
 R (.bool (decide ((x19.n:Int)<=120))) h8)
theorem vc21 (pa:Int) (pb:Sl) (H:@W21 h R pa pb):Fn Pz 21 #[.agg ⟨[vI pa,vS pb]⟩] h R:=fnJ (A:=(.s .z (.s (AI 3) .z))) H
def W3 (p0:Sl) (p1 p2:Int):Prop:=
 Fn Pz 9 #[] h
 (fun v1 h3=>∃x2,iB v1 x2 /\
 sB (!x2)
 (R (.bool false) h3)
 (Fn Pz 10 #[vS p0,.agg ⟨[vN,vN]⟩] h3
 (fun v4 h6=>∃x5,iB v4 x5 /\
 sB (!x5)
 (R (.bool true) h6)
 (sB (decide (p2>100))
 (R (.bool true) h6)
 (Fn Pz 11 #[vS p0,vI p1,vI p2] h6
 (fun v7 h11=>∃(x8:Int) (x9:Sl) (x10:Int),v7=.tuple ⟨[.agg ⟨[vI x8,vS x9]⟩,vI x10]⟩ /\
 Wn h11 [vI 0,vN] 31 fun h12=>
 Wp h12 (aS h11 0) 2 [vI x8,vS x9] fun h13=>
 Fn Pz 12 #[vS p0,vI p1,vI p2] h13
 (fun v14 h18=>∃(x15:Int) (x16:Sl) (x17:Int),v14=.tuple ⟨[.agg ⟨[vI x15,vS x16]⟩,vI x17]⟩ /\
 Wn h18 [vI 0,vN] 37 fun h19=>
 Wp h19 (aS h18 0) 2 [vI x15,vS x16] fun h20=>
 sB (x10 != x17)
 (R (.bool false) h20)
 (∃(x21:Int) (x22:Sl),atC h20 (aS h11 0) [vI x21,vS x22] /\
 ∃(x23:Int) (x24:Sl),atC h20 (aS h18 0) [vI x23,vS x24] /\
 Fn Pz 14 #[.agg ⟨[vI x21,vS x22]⟩] h20
 (fun v25 h28=>∃(x26:Int) (x27:Sl),v25=.agg ⟨[vI x26,vS x27]⟩ /\
 Sm [(aS h18 0)] h20 h28 /\
 Fn Pz 13 #[.agg ⟨[vI x26,vS x27]⟩,.agg ⟨[vI x23,vS x24]⟩] h28
 (fun v29 h31=>∃x30,iB v29 x30 /\
 sB (!x30)
 (R (.bool false) h31)
 (sB (x10 != 0)
 (R (.bool true) h31)
 (∃(x32:Int) (x33:Sl),atC h31 (aS h11 0) [vI x32,vS x33] /\
 Fn Pz 15 #[vS p0,.agg ⟨[vI x32,vS x33]⟩] h31
 (fun v34 h40=>∃(x35 x36 x37 x38 x39:Int),v34=.tuple ⟨[.agg ⟨(L4 x35 x36 x37 x38)⟩,vI x39]⟩ /\
 Wn h40 [vI 0,vI 0,vI 0,vI 0] 45 fun h41=>
 Wp h41 (aS h40 0) 4 (L4 x35 x36 x37 x38) fun h42=>
 sB (x39==0)
 (∃x43,rI h42 (aS h40 0) x43 /\
 R (.bool (x43==0)) h42)
 (R (.bool false) h42))))))))))))))
def V4a (h40 h37:Heap) (x27:Int) (x28:Sl) (h h38:Heap) (x31:Int) (x32:Sl) (h39:Heap) (x35:Int) (x36:Sl) (x18:Int) (x19:Sl) (x16:Int) (x17 p0:Sl) (R:Value->Heap->Prop):Prop:=
 Wp h40 (aS h37 0) 2 [vI x27,vS x28] fun h41=>Sm [(aS h 0),(aS h 0)] h40 h41/\Wp h41 (aS h38 0) 2 [vI x31,vS x32] fun h42=>Sm [(aS h 0)] h41 h42/\Wp h42 (aS h39 0) 2 [vI x35,vS x36] fun h43=>∃x44,rS h43 (aS h38 1) x44/\∃x45,rS h43 (aS h38 1) x45/\∃x46,rS h43 (aS h37 1) x46/\NB x46.a fun b47 o48=>(0<=((Int.tmod (wrap .i64 x18) (x19.n:Int)):Int)/\((Int.tmod (wrap .i64 x18) (x19.n:Int)):Int)<(x46.n:Nat))/\∃(x49 x50:Sl),atC h43 ⟨b47,o48+Int.toNat (Int.tmod (wrap .i64 x18) (x19.n:Int))*2,none⟩ [vS x49,vS x50]/\∃x51,rS h43 (aS h37 1) x51/\NB x51.a fun b52 o53=>(0<=((Int.tmod (wrap .i64 x16) (x17.n:Int)):Int)/\((Int.tmod (wrap .i64 x16) (x17.n:Int)):Int)<(x51.n:Nat))/\∃(x54 x55:Sl),atC h43 ⟨b52,o53+Int.toNat (Int.tmod (wrap .i64 x16) (x17.n:Int))*2,none⟩ [vS x54,vS x55]/\NB x44.a fun b56 o57=>(0<=((Int.tmod (wrap .i64 x16) (x17.n:Int)):Int)/\((Int.tmod (wrap .i64 x16) (x17.n:Int)):Int)<(x44.n:Nat))/\Wp h43 ⟨b56,o57+Int.toNat (Int.tmod (wrap .i64 x16) (x17.n:Int))*2,none⟩ 2 [vS x49,vS x50] fun h58=>Sm [(aS h37 1),(aS h38 1)] h43 h58/\NB x45.a fun b59 o60=>(0<=((Int.tmod (wrap .i64 x18) (x19.n:Int)):Int)/\((Int.tmod (wrap .i64 x18) (x19.n:Int)):Int)<(x45.n:Nat))/\Wp h58 ⟨b59,o60+Int.toNat (Int.tmod (wrap .i64 x18) (x19.n:Int))*2,none⟩ 2 [vS x54,vS x55] fun h61=>∃x62,rS h61 (aS h39 1) x62/\∃x63,rS h61 (aS h37 1) x63/\NB x63.a fun b64 o65=>(0<=((Int.tmod (wrap .i64 x16) (x17.n:Int)):Int)/\((Int.tmod (wrap .i64 x16) (x17.n:Int)):Int)<(x63.n:Nat))/\∃(x66 x67:Sl),atC h61 ⟨b64,o65+Int.toNat (Int.tmod (wrap .i64 x16) (x17.n:Int))*2,none⟩ [vS x66,vS x67]/\Wn h61 [vS x66,vS x67] 52 fun h68=>Sm [(aS h39 1)] h61 h68/\App Pz 29 29 (vS x62) (.slice (some (aS h61 0)) 1 1) h68 fun s69 h70=>Wp h70 (aS h39 1) 1 [vS s69] fun h71=>∃(x72:Int) (x73:Sl),atC h71 (aS h37 0) [vI x72,vS x73]/\Fn Pz 15 #[vS p0,.agg ⟨[vI x72,vS x73]⟩] h71 (fun v74 h80=>∃(x75 x76 x77 x78 x79:Int),v74=.tuple ⟨[.agg ⟨(L4 x75 x76 x77 x78)⟩,vI x79]⟩/\Wn h80 [vI 0,vI 0,vI 0,vI 0] 45 fun h81=>Wp h81 (aS h80 0) 4 (L4 x75 x76 x77 x78) fun h82=>∃(x83:Int) (x84:Sl),atC h82 (aS h38 0) [vI x83,vS x84]/\Fn Pz 15 #[vS p0,.agg ⟨[vI x83,vS x84]⟩] h82 (fun v85 h91=>∃(x86 x87 x88 x89 x90:Int),v85=.tuple ⟨[.agg ⟨(L4 x86 x87 x88 x89)⟩,vI x90]⟩/\Wn h91 [vI 0,vI 0,vI 0,vI 0] 45 fun h92=>Wp h92 (aS h91 0) 4 (L4 x86 x87 x88 x89) fun h93=>∃(x94:Int) (x95:Sl),atC h93 (aS h39 0) [vI x94,vS x95]/\Fn Pz 15 #[vS p0,.agg ⟨[vI x94,vS x95]⟩] h93 (fun v96 h102=>∃(x97 x98 x99 x100 x101:Int),v96=.tuple ⟨[.agg ⟨(L4 x97 x98 x99 x100)⟩,vI x101]⟩/\Wn h102 [vI 0,vI 0,vI 0,vI 0] 45 fun h103=>Wp h103 (aS h102 0) 4 (L4 x97 x98 x99 x100) fun h104=>sB (x79==x90) (R (.bool (x79==x101)) h104) (R (.bool false) h104))))
def V4x (h238 h:Heap) (x27:Int) (x28:Sl) (h37:Heap) (x31:Int) (x32:Sl) (h171:Heap) (x35:Int) (x36:Sl) (x18:Int) (x19:Sl) (x16:Int) (x17 p0:Sl) (R:Value->Heap->Prop):Prop:=
 Wn h238 [vI 0,vN] 31 fun h239=>Sm [(aS h 0),(aS h 0),(aS h 0)] h238 h239/\V4a h239 h238 x27 x28 h h37 x31 x32 h171 x35 x36 x18 x19 x16 x17 p0 R
def V4d (x24:Int) (x25:Sl) (h1128 h:Heap) (x27:Int) (x28:Sl) (h33:Heap) (x31:Int) (x32:Sl) (h852:Heap) (x18:Int) (x19:Sl) (x16:Int) (x17 p0:Sl) (R:Value->Heap->Prop):Prop:=
 Fn Pz 17 #[.agg ⟨[vI x24,vS x25]⟩] h1128 (fun v1129 h1132=>∃(x1130:Int) (x1131:Sl),v1129=.agg ⟨[vI x1130,vS x1131]⟩/\Sm [(aS h 0),(aS h 0)] h1128 h1132/\V4x h1132 h x27 x28 h33 x31 x32 h852 x1130 x1131 x18 x19 x16 x17 p0 R)
def V4y (h39 h h37:Heap) (x27:Int) (x28:Sl) (h38:Heap) (x31:Int) (x32:Sl) (x35:Int) (x36:Sl) (x18:Int) (x19:Sl) (x16:Int) (x17 p0:Sl) (R:Value->Heap->Prop):Prop:=
 Wn h39 [vI 0,vN] 31 fun h40=>Sm [(aS h 0),(aS h 0),(aS h 0)] h39 h40/\V4a h40 h37 x27 x28 h h38 x31 x32 h39 x35 x36 x18 x19 x16 x17 p0 R
def V4k (x24:Int) (x25:Sl) (h574 h h33:Heap) (x27:Int) (x28:Sl) (h437:Heap) (x31:Int) (x32:Sl) (x18:Int) (x19:Sl) (x16:Int) (x17 p0:Sl) (R:Value->Heap->Prop):Prop:=
 Fn Pz 17 #[.agg ⟨[vI x24,vS x25]⟩] h574 (fun v575 h578=>∃(x576:Int) (x577:Sl),v575=.agg ⟨[vI x576,vS x577]⟩/\Sm [(aS h 0),(aS h 0)] h574 h578/\V4y h578 h h33 x27 x28 h437 x31 x32 x576 x577 x18 x19 x16 x17 p0 R)
def V4b (x24:Int) (x25:Sl) (h644 h h33:Heap) (x27:Int) (x28:Sl) (h437:Heap) (x31:Int) (x32:Sl) (h574:Heap) (x18:Int) (x19:Sl) (x16:Int) (x17 p0:Sl) (R:Value->Heap->Prop):Prop:=
 Fn Pz 17 #[.agg ⟨[vI x24,vS x25]⟩] h644 (fun v645 h648=>∃(x646:Int) (x647:Sl),v645=.agg ⟨[vI x646,vS x647]⟩/\Sm [(aS h 0),(aS h 0)] h644 h648/\V4a h648 h33 x27 x28 h h437 x31 x32 h574 x646 x647 x18 x19 x16 x17 p0 R)
def V4u (h574 h:Heap) (x24:Int) (x25:Sl) (h33:Heap) (x27:Int) (x28:Sl) (h437:Heap) (x31:Int) (x32:Sl) (x18:Int) (x19:Sl) (x16:Int) (x17 p0:Sl) (R:Value->Heap->Prop):Prop:=
 Wn h574 [vI 0,vN] 31 fun h644=>Sm [(aS h 0),(aS h 0),(aS h 0)] h574 h644/\V4b x24 x25 h644 h h33 x27 x28 h437 x31 x32 h574 x18 x19 x16 x17 p0 R
def V4e (x22:Int) (x23:Sl) (h2101 h:Heap) (x24:Int) (x25:Sl) (h29:Heap) (x27:Int) (x28:Sl) (h1682:Heap) (x18:Int) (x19:Sl) (x16:Int) (x17 p0:Sl) (R:Value->Heap->Prop):Prop:=
 Fn Pz 17 #[.agg ⟨[vI x22,vS x23]⟩] h2101 (fun v2102 h2105=>∃(x2103:Int) (x2104:Sl),v2102=.agg ⟨[vI x2103,vS x2104]⟩/\Sm [(aS h 0),(aS h 0)] h2101 h2105/\(V4k x24 x25 h2105 h h29 x27 x28 h1682 x2103 x2104 x18 x19 x16 x17 p0 R)/\V4u h2105 h x24 x25 h29 x27 x28 h1682 x2103 x2104 x18 x19 x16 x17 p0 R)
def V4w (h105 h h37:Heap) (x27:Int) (x28:Sl) (x31:Int) (x32:Sl) (h38:Heap) (x35:Int) (x36:Sl) (x18:Int) (x19:Sl) (x16:Int) (x17 p0:Sl) (R:Value->Heap->Prop):Prop:=
 Wn h105 [vI 0,vN] 31 fun h106=>Sm [(aS h 0),(aS h 0),(aS h 0)] h105 h106/\V4a h106 h37 x27 x28 h h105 x31 x32 h38 x35 x36 x18 x19 x16 x17 p0 R
def V4l (x24:Int) (x25:Sl) (h713 h h33:Heap) (x27:Int) (x28:Sl) (x31:Int) (x32:Sl) (h437:Heap) (x18:Int) (x19:Sl) (x16:Int) (x17 p0:Sl) (R:Value->Heap->Prop):Prop:=
 Fn Pz 17 #[.agg ⟨[vI x24,vS x25]⟩] h713 (fun v714 h717=>∃(x715:Int) (x716:Sl),v714=.agg ⟨[vI x715,vS x716]⟩/\Sm [(aS h 0),(aS h 0)] h713 h717/\V4w h717 h h33 x27 x28 x31 x32 h437 x715 x716 x18 x19 x16 x17 p0 R)
def V4v (h713 h:Heap) (x24:Int) (x25:Sl) (h33:Heap) (x27:Int) (x28:Sl) (x31:Int) (x32:Sl) (h437:Heap) (x18:Int) (x19:Sl) (x16:Int) (x17 p0:Sl) (R:Value->Heap->Prop):Prop:=
 Wn h713 [vI 0,vN] 31 fun h783=>Sm [(aS h 0),(aS h 0),(aS h 0)] h713 h783/\V4b x24 x25 h783 h h33 x27 x28 h713 x31 x32 h437 x18 x19 x16 x17 p0 R
def V4f (x22:Int) (x23:Sl) (h2317 h:Heap) (x24:Int) (x25:Sl) (h29:Heap) (x27:Int) (x28:Sl) (h1682:Heap) (x18:Int) (x19:Sl) (x16:Int) (x17 p0:Sl) (R:Value->Heap->Prop):Prop:=
 Fn Pz 17 #[.agg ⟨[vI x22,vS x23]⟩] h2317 (fun v2318 h2321=>∃(x2319:Int) (x2320:Sl),v2318=.agg ⟨[vI x2319,vS x2320]⟩/\Sm [(aS h 0),(aS h 0)] h2317 h2321/\(V4l x24 x25 h2321 h h29 x27 x28 x2319 x2320 h1682 x18 x19 x16 x17 p0 R)/\V4v h2321 h x24 x25 h29 x27 x28 x2319 x2320 h1682 x18 x19 x16 x17 p0 R)
def V4o (x24:Int) (x25:Sl) (h437 h h33:Heap) (x27:Int) (x28:Sl) (x31:Int) (x32:Sl) (x18:Int) (x19:Sl) (x16:Int) (x17 p0:Sl) (R:Value->Heap->Prop):Prop:=
 Fn Pz 17 #[.agg ⟨[vI x24,vS x25]⟩] h437 (fun v438 h441=>∃(x439:Int) (x440:Sl),v438=.agg ⟨[vI x439,vS x440]⟩/\Sm [(aS h 0),(aS h 0)] h437 h441/\(Wn h441 [vI 0,vN] 31 fun h442=>Sm [(aS h 0),(aS h 0),(aS h 0)] h441 h442/\V4y h442 h h33 x27 x28 h441 x31 x32 x439 x440 x18 x19 x16 x17 p0 R)/\Wn h441 [vI 0,vN] 31 fun h508=>Sm [(aS h 0),(aS h 0),(aS h 0)] h441 h508/\V4w h508 h h33 x27 x28 x31 x32 h441 x439 x440 x18 x19 x16 x17 p0 R)
def V4g (x22:Int) (x23:Sl) (h1682 h:Heap) (x24:Int) (x25:Sl) (h29:Heap) (x27:Int) (x28:Sl) (x18:Int) (x19:Sl) (x16:Int) (x17 p0:Sl) (R:Value->Heap->Prop):Prop:=
 Fn Pz 17 #[.agg ⟨[vI x22,vS x23]⟩] h1682 (fun v1683 h1686=>∃(x1684:Int) (x1685:Sl),v1683=.agg ⟨[vI x1684,vS x1685]⟩/\Sm [(aS h 0),(aS h 0)] h1682 h1686/\(V4o x24 x25 h1686 h h29 x27 x28 x1684 x1685 x18 x19 x16 x17 p0 R)/\(Wn h1686 [vI 0,vN] 31 fun h1823=>Sm [(aS h 0),(aS h 0),(aS h 0)] h1686 h1823/\(V4k x24 x25 h1823 h h29 x27 x28 h1686 x1684 x1685 x18 x19 x16 x17 p0 R)/\V4u h1823 h x24 x25 h29 x27 x28 h1686 x1684 x1685 x18 x19 x16 x17 p0 R)/\Wn h1686 [vI 0,vN] 31 fun h1962=>Sm [(aS h 0),(aS h 0),(aS h 0)] h1686 h1962/\(V4l x24 x25 h1962 h h29 x27 x28 x1684 x1685 h1686 x18 x19 x16 x17 p0 R)/\V4v h1962 h x24 x25 h29 x27 x28 x1684 x1685 h1686 x18 x19 x16 x17 p0 R)
def V4p (x24:Int) (x25:Sl) (h852 h:Heap) (x27:Int) (x28:Sl) (h33:Heap) (x31:Int) (x32:Sl) (x18:Int) (x19:Sl) (x16:Int) (x17 p0:Sl) (R:Value->Heap->Prop):Prop:=
 Fn Pz 17 #[.agg ⟨[vI x24,vS x25]⟩] h852 (fun v853 h856=>∃(x854:Int) (x855:Sl),v853=.agg ⟨[vI x854,vS x855]⟩/\Sm [(aS h 0),(aS h 0)] h852 h856/\(Wn h856 [vI 0,vN] 31 fun h857=>Sm [(aS h 0),(aS h 0),(aS h 0)] h856 h857/\V4y h857 h h856 x27 x28 h33 x31 x32 x854 x855 x18 x19 x16 x17 p0 R)/\Wn h856 [vI 0,vN] 31 fun h923=>Sm [(aS h 0),(aS h 0),(aS h 0)] h856 h923/\V4x h923 h x27 x28 h33 x31 x32 h856 x854 x855 x18 x19 x16 x17 p0 R)
def V4t (h1128 h:Heap) (x24:Int) (x25:Sl) (x27:Int) (x28:Sl) (h33:Heap) (x31:Int) (x32:Sl) (h852:Heap) (x18:Int) (x19:Sl) (x16:Int) (x17 p0:Sl) (R:Value->Heap->Prop):Prop:=
 Wn h1128 [vI 0,vN] 31 fun h1198=>Sm [(aS h 0),(aS h 0),(aS h 0)] h1128 h1198/\V4b x24 x25 h1198 h h1128 x27 x28 h33 x31 x32 h852 x18 x19 x16 x17 p0 R
def V4h (x22:Int) (x23:Sl) (h2533 h:Heap) (x24:Int) (x25:Sl) (x27:Int) (x28:Sl) (h29:Heap) (x18:Int) (x19:Sl) (x16:Int) (x17 p0:Sl) (R:Value->Heap->Prop):Prop:=
 Fn Pz 17 #[.agg ⟨[vI x22,vS x23]⟩] h2533 (fun v2534 h2537=>∃(x2535:Int) (x2536:Sl),v2534=.agg ⟨[vI x2535,vS x2536]⟩/\Sm [(aS h 0),(aS h 0)] h2533 h2537/\(V4p x24 x25 h2537 h x27 x28 h29 x2535 x2536 x18 x19 x16 x17 p0 R)/\(Wn h2537 [vI 0,vN] 31 fun h2674=>Sm [(aS h 0),(aS h 0),(aS h 0)] h2537 h2674/\(V4k x24 x25 h2674 h h2537 x27 x28 h29 x2535 x2536 x18 x19 x16 x17 p0 R)/\V4u h2674 h x24 x25 h2537 x27 x28 h29 x2535 x2536 x18 x19 x16 x17 p0 R)/\Wn h2537 [vI 0,vN] 31 fun h2813=>Sm [(aS h 0),(aS h 0),(aS h 0)] h2537 h2813/\(V4d x24 x25 h2813 h x27 x28 h29 x2535 x2536 h2537 x18 x19 x16 x17 p0 R)/\V4t h2813 h x24 x25 x27 x28 h29 x2535 x2536 h2537 x18 x19 x16 x17 p0 R)
def V4n (x24:Int) (x25:Sl) (h1267 h:Heap) (x27:Int) (x28:Sl) (x31:Int) (x32:Sl) (h33:Heap) (x18:Int) (x19:Sl) (x16:Int) (x17 p0:Sl) (R:Value->Heap->Prop):Prop:=
 Fn Pz 17 #[.agg ⟨[vI x24,vS x25]⟩] h1267 (fun v1268 h1271=>∃(x1269:Int) (x1270:Sl),v1268=.agg ⟨[vI x1269,vS x1270]⟩/\Sm [(aS h 0),(aS h 0)] h1267 h1271/\(Wn h1271 [vI 0,vN] 31 fun h1272=>Sm [(aS h 0),(aS h 0),(aS h 0)] h1271 h1272/\V4w h1272 h h1271 x27 x28 x31 x32 h33 x1269 x1270 x18 x19 x16 x17 p0 R)/\Wn h1271 [vI 0,vN] 31 fun h1338=>Sm [(aS h 0),(aS h 0),(aS h 0)] h1271 h1338/\V4x h1338 h x27 x28 h1271 x31 x32 h33 x1269 x1270 x18 x19 x16 x17 p0 R)
def V4i (x22:Int) (x23:Sl) (h3384 h:Heap) (x24:Int) (x25:Sl) (x27:Int) (x28:Sl) (h29:Heap) (x18:Int) (x19:Sl) (x16:Int) (x17 p0:Sl) (R:Value->Heap->Prop):Prop:=
 Fn Pz 17 #[.agg ⟨[vI x22,vS x23]⟩] h3384 (fun v3385 h3388=>∃(x3386:Int) (x3387:Sl),v3385=.agg ⟨[vI x3386,vS x3387]⟩/\Sm [(aS h 0),(aS h 0)] h3384 h3388/\(V4n x24 x25 h3388 h x27 x28 x3386 x3387 h29 x18 x19 x16 x17 p0 R)/\(Wn h3388 [vI 0,vN] 31 fun h3525=>Sm [(aS h 0),(aS h 0),(aS h 0)] h3388 h3525/\(V4l x24 x25 h3525 h h3388 x27 x28 x3386 x3387 h29 x18 x19 x16 x17 p0 R)/\V4v h3525 h x24 x25 h3388 x27 x28 x3386 x3387 h29 x18 x19 x16 x17 p0 R)/\Wn h3388 [vI 0,vN] 31 fun h3664=>Sm [(aS h 0),(aS h 0),(aS h 0)] h3388 h3664/\(V4d x24 x25 h3664 h x27 x28 h3388 x3386 x3387 h29 x18 x19 x16 x17 p0 R)/\V4t h3664 h x24 x25 x27 x28 h3388 x3386 x3387 h29 x18 x19 x16 x17 p0 R)
def V4j (x22:Int) (x23:Sl) (h3168 h:Heap) (x24:Int) (x25:Sl) (x27:Int) (x28:Sl) (h29 h2533:Heap) (x18:Int) (x19:Sl) (x16:Int) (x17 p0:Sl) (R:Value->Heap->Prop):Prop:=
 Fn Pz 17 #[.agg ⟨[vI x22,vS x23]⟩] h3168 (fun v3169 h3172=>∃(x3170:Int) (x3171:Sl),v3169=.agg ⟨[vI x3170,vS x3171]⟩/\Sm [(aS h 0),(aS h 0)] h3168 h3172/\(V4d x24 x25 h3172 h x27 x28 h29 x3170 x3171 h2533 x18 x19 x16 x17 p0 R)/\V4t h3172 h x24 x25 x27 x28 h29 x3170 x3171 h2533 x18 x19 x16 x17 p0 R)
def V4c (x22:Int) (x23:Sl) (h2244 h:Heap) (x24:Int) (x25:Sl) (h29:Heap) (x27:Int) (x28:Sl) (h1682 h2101:Heap) (x18:Int) (x19:Sl) (x16:Int) (x17 p0:Sl) (R:Value->Heap->Prop):Prop:=
 Fn Pz 17 #[.agg ⟨[vI x22,vS x23]⟩] h2244 (fun v2245 h2248=>∃(x2246:Int) (x2247:Sl),v2245=.agg ⟨[vI x2246,vS x2247]⟩/\Sm [(aS h 0),(aS h 0)] h2244 h2248/\V4b x24 x25 h2248 h h29 x27 x28 h1682 x2246 x2247 h2101 x18 x19 x16 x17 p0 R)
def V4m (x20:Int) (x21:Sl) (h5310 h:Heap) (x22:Int) (x23:Sl) (x24:Int) (x25:Sl) (h14 h4235 h5090:Heap) (x18:Int) (x19:Sl) (x16:Int) (x17 p0:Sl) (R:Value->Heap->Prop):Prop:=
 Fn Pz 17 #[.agg ⟨[vI x20,vS x21]⟩] h5310 (fun v5311 h5314=>∃(x5312:Int) (x5313:Sl),v5311=.agg ⟨[vI x5312,vS x5313]⟩/\Sm [(aS h 0),(aS h 0)] h5310 h5314/\V4c x22 x23 h5314 h x24 x25 h14 x5312 x5313 h4235 h5090 x18 x19 x16 x17 p0 R)
def V4q (h2101 h:Heap) (x22:Int) (x23:Sl) (x24:Int) (x25:Sl) (h29:Heap) (x27:Int) (x28:Sl) (h1682:Heap) (x18:Int) (x19:Sl) (x16:Int) (x17 p0:Sl) (R:Value->Heap->Prop):Prop:=
 Wn h2101 [vI 0,vN] 31 fun h2244=>Sm [(aS h 0),(aS h 0),(aS h 0)] h2101 h2244/\V4c x22 x23 h2244 h x24 x25 h29 x27 x28 h1682 h2101 x18 x19 x16 x17 p0 R
def V4r (h2317 h:Heap) (x22:Int) (x23:Sl) (x24:Int) (x25:Sl) (h29:Heap) (x27:Int) (x28:Sl) (h1682:Heap) (x18:Int) (x19:Sl) (x16:Int) (x17 p0:Sl) (R:Value->Heap->Prop):Prop:=
 Wn h2317 [vI 0,vN] 31 fun h2460=>Sm [(aS h 0),(aS h 0),(aS h 0)] h2317 h2460/\V4c x22 x23 h2460 h x24 x25 h29 x27 x28 h2317 h1682 x18 x19 x16 x17 p0 R
def V4s (h3168 h:Heap) (x22:Int) (x23:Sl) (x24:Int) (x25:Sl) (x27:Int) (x28:Sl) (h29 h2533:Heap) (x18:Int) (x19:Sl) (x16:Int) (x17 p0:Sl) (R:Value->Heap->Prop):Prop:=
 Wn h3168 [vI 0,vN] 31 fun h3311=>Sm [(aS h 0),(aS h 0),(aS h 0)] h3168 h3311/\V4c x22 x23 h3311 h x24 x25 h3168 x27 x28 h29 h2533 x18 x19 x16 x17 p0 R
def V4z (x20:Int) (x21:Sl) (h5090 h:Heap) (x22:Int) (x23:Sl) (x24:Int) (x25:Sl) (h14 h4235:Heap) (x18:Int) (x19:Sl) (x16:Int) (x17 p0:Sl) (R:Value->Heap->Prop):Prop:=
 Fn Pz 17 #[.agg ⟨[vI x20,vS x21]⟩] h5090 (fun v5091 h5094=>∃(x5092:Int) (x5093:Sl),v5091=.agg ⟨[vI x5092,vS x5093]⟩/\Sm [(aS h 0),(aS h 0)] h5090 h5094/\(V4e x22 x23 h5094 h x24 x25 h14 x5092 x5093 h4235 x18 x19 x16 x17 p0 R)/\V4q h5094 h x22 x23 x24 x25 h14 x5092 x5093 h4235 x18 x19 x16 x17 p0 R)
def V4za (x20:Int) (x21:Sl) (h5387 h:Heap) (x22:Int) (x23:Sl) (x24:Int) (x25:Sl) (h14 h4235:Heap) (x18:Int) (x19:Sl) (x16:Int) (x17 p0:Sl) (R:Value->Heap->Prop):Prop:=
 Fn Pz 17 #[.agg ⟨[vI x20,vS x21]⟩] h5387 (fun v5388 h5391=>∃(x5389:Int) (x5390:Sl),v5388=.agg ⟨[vI x5389,vS x5390]⟩/\Sm [(aS h 0),(aS h 0)] h5387 h5391/\(V4f x22 x23 h5391 h x24 x25 h14 x5389 x5390 h4235 x18 x19 x16 x17 p0 R)/\V4r h5391 h x22 x23 x24 x25 h14 x5389 x5390 h4235 x18 x19 x16 x17 p0 R)
def V4zb (x20:Int) (x21:Sl) (h6836 h:Heap) (x22:Int) (x23:Sl) (x24:Int) (x25:Sl) (h14 h5684:Heap) (x18:Int) (x19:Sl) (x16:Int) (x17 p0:Sl) (R:Value->Heap->Prop):Prop:=
 Fn Pz 17 #[.agg ⟨[vI x20,vS x21]⟩] h6836 (fun v6837 h6840=>∃(x6838:Int) (x6839:Sl),v6837=.agg ⟨[vI x6838,vS x6839]⟩/\Sm [(aS h 0),(aS h 0)] h6836 h6840/\(V4j x22 x23 h6840 h x24 x25 x6838 x6839 h14 h5684 x18 x19 x16 x17 p0 R)/\V4s h6840 h x22 x23 x24 x25 x6838 x6839 h14 h5684 x18 x19 x16 x17 p0 R)
def W4 (p0:Sl) (pa:Int) (pb:Sl) (pc pd:Int):Prop:=
 Wn h [vI pa,vS pb] 37 fun h5=>Wn h5 [.int .u8 pc,.int .u8 pd] 49 fun h6=>Fn Pz 9 #[] h6 (fun v7 h9=>∃x8,iB v7 x8/\sB (!x8) (R (.bool false) h9) (∃(x10:Int) (x11:Sl),atC h9 (aS h 0) [vI x10,vS x11]/\Fn Pz 16 #[vS p0,.agg ⟨[vI x10,vS x11]⟩] h9 (fun v12 h14=>∃x13,iB v12 x13/\sB (!x13) (R (.bool true) h14) (∃x15,rS h14 (aS h 1) x15/\sB ((x15.n:Int)==0) (R (.bool true) h14) (Ib 0 2/\∃x16:Int,hc h14 (aS h5 (0+Int.toNat 0*1))=some (.int .u8 x16)/\∃x17,rS h14 (aS h 1) x17/\(x17.n:Int)≠0/\Ib 1 2/\∃x18:Int,hc h14 (aS h5 (0+Int.toNat 1*1))=some (.int .u8 x18)/\∃x19,rS h14 (aS h 1) x19/\(x19.n:Int)≠0/\∃(x20:Int) (x21:Sl),atC h14 (aS h 0) [vI x20,vS x21]/\∃(x22:Int) (x23:Sl),atC h14 (aS h 0) [vI x22,vS x23]/\∃(x24:Int) (x25:Sl),atC h14 (aS h 0) [vI x24,vS x25]/\(Fn Pz 17 #[.agg ⟨[vI x20,vS x21]⟩] h14 (fun v26 h29=>∃(x27:Int) (x28:Sl),v26=.agg ⟨[vI x27,vS x28]⟩/\Sm [(aS h 0),(aS h 0)] h14 h29/\(Fn Pz 17 #[.agg ⟨[vI x22,vS x23]⟩] h29 (fun v30 h33=>∃(x31:Int) (x32:Sl),v30=.agg ⟨[vI x31,vS x32]⟩/\Sm [(aS h 0),(aS h 0)] h29 h33/\(Fn Pz 17 #[.agg ⟨[vI x24,vS x25]⟩] h33 (fun v34 h37=>∃(x35:Int) (x36:Sl),v34=.agg ⟨[vI x35,vS x36]⟩/\Sm [(aS h 0),(aS h 0)] h33 h37/\(Wn h37 [vI 0,vN] 31 fun h38=>Sm [(aS h 0),(aS h 0),(aS h 0)] h37 h38/\(Wn h38 [vI 0,vN] 31 fun h39=>Sm [(aS h 0),(aS h 0),(aS h 0)] h38 h39/\V4y h39 h h37 x27 x28 h38 x31 x32 x35 x36 x18 x19 x16 x17 p0 R)/\Wn h38 [vI 0,vN] 31 fun h105=>Sm [(aS h 0),(aS h 0),(aS h 0)] h38 h105/\V4w h105 h h37 x27 x28 x31 x32 h38 x35 x36 x18 x19 x16 x17 p0 R)/\(Wn h37 [vI 0,vN] 31 fun h171=>Sm [(aS h 0),(aS h 0),(aS h 0)] h37 h171/\(Wn h171 [vI 0,vN] 31 fun h172=>Sm [(aS h 0),(aS h 0),(aS h 0)] h171 h172/\V4y h172 h h171 x27 x28 h37 x31 x32 x35 x36 x18 x19 x16 x17 p0 R)/\Wn h171 [vI 0,vN] 31 fun h238=>Sm [(aS h 0),(aS h 0),(aS h 0)] h171 h238/\V4x h238 h x27 x28 h37 x31 x32 h171 x35 x36 x18 x19 x16 x17 p0 R)/\Wn h37 [vI 0,vN] 31 fun h304=>Sm [(aS h 0),(aS h 0),(aS h 0)] h37 h304/\(Wn h304 [vI 0,vN] 31 fun h305=>Sm [(aS h 0),(aS h 0),(aS h 0)] h304 h305/\V4w h305 h h304 x27 x28 x31 x32 h37 x35 x36 x18 x19 x16 x17 p0 R)/\Wn h304 [vI 0,vN] 31 fun h371=>Sm [(aS h 0),(aS h 0),(aS h 0)] h304 h371/\V4x h371 h x27 x28 h304 x31 x32 h37 x35 x36 x18 x19 x16 x17 p0 R))/\(Wn h33 [vI 0,vN] 31 fun h437=>Sm [(aS h 0),(aS h 0),(aS h 0)] h33 h437/\(V4o x24 x25 h437 h h33 x27 x28 x31 x32 x18 x19 x16 x17 p0 R)/\(Wn h437 [vI 0,vN] 31 fun h574=>Sm [(aS h 0),(aS h 0),(aS h 0)] h437 h574/\(V4k x24 x25 h574 h h33 x27 x28 h437 x31 x32 x18 x19 x16 x17 p0 R)/\V4u h574 h x24 x25 h33 x27 x28 h437 x31 x32 x18 x19 x16 x17 p0 R)/\Wn h437 [vI 0,vN] 31 fun h713=>Sm [(aS h 0),(aS h 0),(aS h 0)] h437 h713/\(V4l x24 x25 h713 h h33 x27 x28 x31 x32 h437 x18 x19 x16 x17 p0 R)/\V4v h713 h x24 x25 h33 x27 x28 x31 x32 h437 x18 x19 x16 x17 p0 R)/\(Wn h33 [vI 0,vN] 31 fun h852=>Sm [(aS h 0),(aS h 0),(aS h 0)] h33 h852/\(V4p x24 x25 h852 h x27 x28 h33 x31 x32 x18 x19 x16 x17 p0 R)/\(Wn h852 [vI 0,vN] 31 fun h989=>Sm [(aS h 0),(aS h 0),(aS h 0)] h852 h989/\(V4k x24 x25 h989 h h852 x27 x28 h33 x31 x32 x18 x19 x16 x17 p0 R)/\V4u h989 h x24 x25 h852 x27 x28 h33 x31 x32 x18 x19 x16 x17 p0 R)/\Wn h852 [vI 0,vN] 31 fun h1128=>Sm [(aS h 0),(aS h 0),(aS h 0)] h852 h1128/\(V4d x24 x25 h1128 h x27 x28 h33 x31 x32 h852 x18 x19 x16 x17 p0 R)/\V4t h1128 h x24 x25 x27 x28 h33 x31 x32 h852 x18 x19 x16 x17 p0 R)/\Wn h33 [vI 0,vN] 31 fun h1267=>Sm [(aS h 0),(aS h 0),(aS h 0)] h33 h1267/\(V4n x24 x25 h1267 h x27 x28 x31 x32 h33 x18 x19 x16 x17 p0 R)/\(Wn h1267 [vI 0,vN] 31 fun h1404=>Sm [(aS h 0),(aS h 0),(aS h 0)] h1267 h1404/\(V4l x24 x25 h1404 h h1267 x27 x28 x31 x32 h33 x18 x19 x16 x17 p0 R)/\V4v h1404 h x24 x25 h1267 x27 x28 x31 x32 h33 x18 x19 x16 x17 p0 R)/\Wn h1267 [vI 0,vN] 31 fun h1543=>Sm [(aS h 0),(aS h 0),(aS h 0)] h1267 h1543/\(V4d x24 x25 h1543 h x27 x28 h1267 x31 x32 h33 x18 x19 x16 x17 p0 R)/\V4t h1543 h x24 x25 x27 x28 h1267 x31 x32 h33 x18 x19 x16 x17 p0 R))/\(Wn h29 [vI 0,vN] 31 fun h1682=>Sm [(aS h 0),(aS h 0),(aS h 0)] h29 h1682/\(V4g x22 x23 h1682 h x24 x25 h29 x27 x28 x18 x19 x16 x17 p0 R)/\(Wn h1682 [vI 0,vN] 31 fun h2101=>Sm [(aS h 0),(aS h 0),(aS h 0)] h1682 h2101/\(V4e x22 x23 h2101 h x24 x25 h29 x27 x28 h1682 x18 x19 x16 x17 p0 R)/\V4q h2101 h x22 x23 x24 x25 h29 x27 x28 h1682 x18 x19 x16 x17 p0 R)/\Wn h1682 [vI 0,vN] 31 fun h2317=>Sm [(aS h 0),(aS h 0),(aS h 0)] h1682 h2317/\(V4f x22 x23 h2317 h x24 x25 h29 x27 x28 h1682 x18 x19 x16 x17 p0 R)/\V4r h2317 h x22 x23 x24 x25 h29 x27 x28 h1682 x18 x19 x16 x17 p0 R)/\(Wn h29 [vI 0,vN] 31 fun h2533=>Sm [(aS h 0),(aS h 0),(aS h 0)] h29 h2533/\(V4h x22 x23 h2533 h x24 x25 x27 x28 h29 x18 x19 x16 x17 p0 R)/\(Wn h2533 [vI 0,vN] 31 fun h2952=>Sm [(aS h 0),(aS h 0),(aS h 0)] h2533 h2952/\(V4e x22 x23 h2952 h x24 x25 h2533 x27 x28 h29 x18 x19 x16 x17 p0 R)/\V4q h2952 h x22 x23 x24 x25 h2533 x27 x28 h29 x18 x19 x16 x17 p0 R)/\Wn h2533 [vI 0,vN] 31 fun h3168=>Sm [(aS h 0),(aS h 0),(aS h 0)] h2533 h3168/\(V4j x22 x23 h3168 h x24 x25 x27 x28 h29 h2533 x18 x19 x16 x17 p0 R)/\V4s h3168 h x22 x23 x24 x25 x27 x28 h29 h2533 x18 x19 x16 x17 p0 R)/\Wn h29 [vI 0,vN] 31 fun h3384=>Sm [(aS h 0),(aS h 0),(aS h 0)] h29 h3384/\(V4i x22 x23 h3384 h x24 x25 x27 x28 h29 x18 x19 x16 x17 p0 R)/\(Wn h3384 [vI 0,vN] 31 fun h3803=>Sm [(aS h 0),(aS h 0),(aS h 0)] h3384 h3803/\(V4f x22 x23 h3803 h x24 x25 h3384 x27 x28 h29 x18 x19 x16 x17 p0 R)/\V4r h3803 h x22 x23 x24 x25 h3384 x27 x28 h29 x18 x19 x16 x17 p0 R)/\Wn h3384 [vI 0,vN] 31 fun h4019=>Sm [(aS h 0),(aS h 0),(aS h 0)] h3384 h4019/\(V4j x22 x23 h4019 h x24 x25 x27 x28 h3384 h29 x18 x19 x16 x17 p0 R)/\V4s h4019 h x22 x23 x24 x25 x27 x28 h3384 h29 x18 x19 x16 x17 p0 R))/\(Wn h14 [vI 0,vN] 31 fun h4235=>Sm [(aS h 0),(aS h 0),(aS h 0)] h14 h4235/\(Fn Pz 17 #[.agg ⟨[vI x20,vS x21]⟩] h4235 (fun v4236 h4239=>∃(x4237:Int) (x4238:Sl),v4236=.agg ⟨[vI x4237,vS x4238]⟩/\Sm [(aS h 0),(aS h 0)] h4235 h4239/\(V4g x22 x23 h4239 h x24 x25 h14 x4237 x4238 x18 x19 x16 x17 p0 R)/\(Wn h4239 [vI 0,vN] 31 fun h4658=>Sm [(aS h 0),(aS h 0),(aS h 0)] h4239 h4658/\(V4e x22 x23 h4658 h x24 x25 h14 x4237 x4238 h4239 x18 x19 x16 x17 p0 R)/\V4q h4658 h x22 x23 x24 x25 h14 x4237 x4238 h4239 x18 x19 x16 x17 p0 R)/\Wn h4239 [vI 0,vN] 31 fun h4874=>Sm [(aS h 0),(aS h 0),(aS h 0)] h4239 h4874/\(V4f x22 x23 h4874 h x24 x25 h14 x4237 x4238 h4239 x18 x19 x16 x17 p0 R)/\V4r h4874 h x22 x23 x24 x25 h14 x4237 x4238 h4239 x18 x19 x16 x17 p0 R))/\(Wn h4235 [vI 0,vN] 31 fun h5090=>Sm [(aS h 0),(aS h 0),(aS h 0)] h4235 h5090/\(V4z x20 x21 h5090 h x22 x23 x24 x25 h14 h4235 x18 x19 x16 x17 p0 R)/\Wn h5090 [vI 0,vN] 31 fun h5310=>Sm [(aS h 0),(aS h 0),(aS h 0)] h5090 h5310/\V4m x20 x21 h5310 h x22 x23 x24 x25 h14 h4235 h5090 x18 x19 x16 x17 p0 R)/\Wn h4235 [vI 0,vN] 31 fun h5387=>Sm [(aS h 0),(aS h 0),(aS h 0)] h4235 h5387/\(V4za x20 x21 h5387 h x22 x23 x24 x25 h14 h4235 x18 x19 x16 x17 p0 R)/\Wn h5387 [vI 0,vN] 31 fun h5607=>Sm [(aS h 0),(aS h 0),(aS h 0)] h5387 h5607/\V4m x20 x21 h5607 h x22 x23 x24 x25 h14 h5387 h4235 x18 x19 x16 x17 p0 R)/\(Wn h14 [vI 0,vN] 31 fun h5684=>Sm [(aS h 0),(aS h 0),(aS h 0)] h14 h5684/\(Fn Pz 17 #[.agg ⟨[vI x20,vS x21]⟩] h5684 (fun v5685 h5688=>∃(x5686:Int) (x5687:Sl),v5685=.agg ⟨[vI x5686,vS x5687]⟩/\Sm [(aS h 0),(aS h 0)] h5684 h5688/\(V4h x22 x23 h5688 h x24 x25 x5686 x5687 h14 x18 x19 x16 x17 p0 R)/\(Wn h5688 [vI 0,vN] 31 fun h6107=>Sm [(aS h 0),(aS h 0),(aS h 0)] h5688 h6107/\(V4e x22 x23 h6107 h x24 x25 h5688 x5686 x5687 h14 x18 x19 x16 x17 p0 R)/\V4q h6107 h x22 x23 x24 x25 h5688 x5686 x5687 h14 x18 x19 x16 x17 p0 R)/\Wn h5688 [vI 0,vN] 31 fun h6323=>Sm [(aS h 0),(aS h 0),(aS h 0)] h5688 h6323/\(V4j x22 x23 h6323 h x24 x25 x5686 x5687 h14 h5688 x18 x19 x16 x17 p0 R)/\V4s h6323 h x22 x23 x24 x25 x5686 x5687 h14 h5688 x18 x19 x16 x17 p0 R))/\(Wn h5684 [vI 0,vN] 31 fun h6539=>Sm [(aS h 0),(aS h 0),(aS h 0)] h5684 h6539/\(V4z x20 x21 h6539 h x22 x23 x24 x25 h5684 h14 x18 x19 x16 x17 p0 R)/\Wn h6539 [vI 0,vN] 31 fun h6759=>Sm [(aS h 0),(aS h 0),(aS h 0)] h6539 h6759/\V4m x20 x21 h6759 h x22 x23 x24 x25 h5684 h14 h6539 x18 x19 x16 x17 p0 R)/\Wn h5684 [vI 0,vN] 31 fun h6836=>Sm [(aS h 0),(aS h 0),(aS h 0)] h5684 h6836/\(V4zb x20 x21 h6836 h x22 x23 x24 x25 h14 h5684 x18 x19 x16 x17 p0 R)/\Wn h6836 [vI 0,vN] 31 fun h7056=>Sm [(aS h 0),(aS h 0),(aS h 0)] h6836 h7056/\V4m x20 x21 h7056 h x22 x23 x24 x25 h6836 h14 h5684 x18 x19 x16 x17 p0 R)/\Wn h14 [vI 0,vN] 31 fun h7133=>Sm [(aS h 0),(aS h 0),(aS h 0)] h14 h7133/\(Fn Pz 17 #[.agg ⟨[vI x20,vS x21]⟩] h7133 (fun v7134 h7137=>∃(x7135:Int) (x7136:Sl),v7134=.agg ⟨[vI x7135,vS x7136]⟩/\Sm [(aS h 0),(aS h 0)] h7133 h7137/\(V4i x22 x23 h7137 h x24 x25 x7135 x7136 h14 x18 x19 x16 x17 p0 R)/\(Wn h7137 [vI 0,vN] 31 fun h7556=>Sm [(aS h 0),(aS h 0),(aS h 0)] h7137 h7556/\(V4f x22 x23 h7556 h x24 x25 h7137 x7135 x7136 h14 x18 x19 x16 x17 p0 R)/\V4r h7556 h x22 x23 x24 x25 h7137 x7135 x7136 h14 x18 x19 x16 x17 p0 R)/\Wn h7137 [vI 0,vN] 31 fun h7772=>Sm [(aS h 0),(aS h 0),(aS h 0)] h7137 h7772/\(V4j x22 x23 h7772 h x24 x25 x7135 x7136 h7137 h14 x18 x19 x16 x17 p0 R)/\V4s h7772 h x22 x23 x24 x25 x7135 x7136 h7137 h14 x18 x19 x16 x17 p0 R))/\(Wn h7133 [vI 0,vN] 31 fun h7988=>Sm [(aS h 0),(aS h 0),(aS h 0)] h7133 h7988/\(V4za x20 x21 h7988 h x22 x23 x24 x25 h7133 h14 x18 x19 x16 x17 p0 R)/\Wn h7988 [vI 0,vN] 31 fun h8208=>Sm [(aS h 0),(aS h 0),(aS h 0)] h7988 h8208/\V4m x20 x21 h8208 h x22 x23 x24 x25 h7133 h7988 h14 x18 x19 x16 x17 p0 R)/\Wn h7133 [vI 0,vN] 31 fun h8285=>Sm [(aS h 0),(aS h 0),(aS h 0)] h7133 h8285/\(V4zb x20 x21 h8285 h x22 x23 x24 x25 h7133 h14 x18 x19 x16 x17 p0 R)/\Wn h8285 [vI 0,vN] 31 fun h8505=>Sm [(aS h 0),(aS h 0),(aS h 0)] h8285 h8505/\V4m x20 x21 h8505 h x22 x23 x24 x25 h8285 h7133 h14 x18 x19 x16 x17 p0 R)))))
theorem vc4 (p0:Sl) (pa:Int) (pb:Sl) (pc pd:Int) (H:@W4 h R p0 pa pb pc pd):Fn Pz 4 #[vS p0,.agg ⟨[vI pa,vS pb]⟩,.agg ⟨[.int .u8 pc,.int .u8 pd]⟩] h R:=fnJ (A:=.z) H
end Go.VC
end

section
namespace Go.LexS
def isLetter (n:Int):Bool:=decide (97<=n)&&decide (n<=122)||decide (65<=n)&&decide (n<=90)
def isDigit (n:Int):Bool:=decide (48<=n)&&decide (n<=57)
def isInner (n:Int):Bool:=isLetter n||isDigit n||(n==95)
def isSpace (n:Int):Bool:=n==32||n==9||n==10||n==13
def lt (c:UInt8):Bool:=isLetter c.toNat
def dg (c:UInt8):Bool:=isDigit c.toNat
def inn (c:UInt8):Bool:=isInner c.toNat
def sp (c:UInt8):Bool:=isSpace c.toNat
structure T where
 kind:Nat
 text:List UInt8
 val:Nat
 deriving DecidableEq
def keywords:List (List UInt8):=[[97,103,97,105,110],[97,110,100],[97,115],[97,116],[99,97,108,108],[99,104,111,105,99,101],[101,108,115,101],[102,114,111,109],[105,102],[105,110,116],[108,101,110],[108,111,111,112],[109,101,115,115,97,103,101],[111,102],[111,102,102,101,114],[111,110],[111,114],[112,97,114],[112,108,97,121,115],[112,114,111,116,111,99,111,108],[115,101,114,118,105,99,101],[116,101,120,116],[116,105,109,101,115],[116,111],[118,97,114],[119,104,101,114,101],[119,104,105,108,101],[119,105,116,104,105,110]]
def isName (l:List UInt8):Bool:=match l with
 | []=>false
 | c::_=>decide (l.length<=16)&&lt c&&l.all inn
def isWord (l:List UInt8):Bool:=isName l && !decide (l∈keywords)
end Go.LexS
end

section
namespace Go.VC
open Go.LexS
abbrev Nm:=List UInt8
def i64 (n:Int):Value:=.int .i64 n
def slV (s:Sl):Value:=.slice s.a s.n s.c
structure Fld where
 nm:Nm
 k:Int
 lo:Int
 hi:Int
def Fld.cs (f:Fld):List Value:=[.string (bs f.nm),.int .i64 f.k,.int .i64 f.lo,.int .i64 f.hi]
structure Df where
 x:Int
 y:Int
 c:Int
def Df.cs (d:Df):List Value:=[.int .i64 d.x,.int .i64 d.y,.int .i64 d.c]
structure Eqs where
 x:Int
 y:Int
def Eqs.cs (d:Eqs):List Value:=[.int .i64 d.x,.int .i64 d.y]
structure Dc where
 nm:Nm
 hf:Sl
 first:Int
 hd:Sl
 he:Sl
 fs:List Fld
 ds:List Df
 es:List Eqs
def Dc.cs (d:Dc):List Value:=[.string (bs d.nm),.slice d.hf.a d.hf.n d.hf.c,.int .i64 d.first,.slice d.hd.a d.hd.n d.hd.c,.slice d.he.a d.he.n d.he.c]
structure Ed where
 f:Int
 a:Int
 b:Int
 l:Int
 t:Int
 ag:Bool
def Ed.cs (x:Ed):List Value:=[.int .i64 x.f,.int .i64 x.a,.int .i64 x.b,.int .i64 x.l,.int .i64 x.t,.bool x.ag]
structure To where
 s:Int
 k:Int
 e:Int
def To.cs (x:To):List Value:=[.int .i64 x.s,.int .i64 x.k,.int .i64 x.e]
structure Gl where
 nm:Nm
 hr:Sl
 hd:Sl
 n:Int
 s:Int
 e:Int
 he:Sl
 ht:Sl
 rs:List Nm
 ds:List Dc
 es:List Ed
 ts:List To
def Gl.cs (g:Gl):List Value:=[.string (bs g.nm),.slice g.hr.a g.hr.n g.hr.c,.slice g.hd.a g.hd.n g.hd.c,.int .i64 g.n,.int .i64 g.s,.int .i64 g.e,.slice g.he.a g.he.n g.he.c,.slice g.ht.a g.ht.n g.ht.c]
def Gl.v (g:Gl):Value:=.agg ⟨g.cs⟩
def nmC (x:Nm):List Value:=[.string (bs x)]
structure RL {α:Type} (h:Heap) (k:Nat) (s:Sl) (cs:α->List Value) (L:List α):Prop where
 rw:Rw h k s (L.map cs)
 cap:s.n<=s.c
 nil:s.a=none->s.n=0/\s.c=0
 sm:L.length<=1048576
theorem RL.ext {α:Type} {h h':Heap} {k:Nat} {s:Sl} {cs:α->List Value} {L:List α} (hr:RL h k s cs L) (E:Ext h h'):RL h' k s cs L:=⟨hr.rw.ext E,hr.cap,hr.nil,hr.sm⟩
theorem RL.ln {α:Type} {h:Heap} {k:Nat} {s:Sl} {cs:α->List Value} {L:List α} (hr:RL h k s cs L):s.n=L.length:=hr.rw.ln
structure DI (h:Heap) (d:Dc):Prop where
 pf:RL h 4 d.hf Fld.cs d.fs
 pd:RL h 3 d.hd Df.cs d.ds
 pe:RL h 2 d.he Eqs.cs d.es
theorem DI.ext {h h':Heap} {d:Dc} (hd:DI h d) (E:Ext h h'):DI h' d:=⟨hd.pf.ext E,hd.pd.ext E,hd.pe.ext E⟩
structure DL (h:Heap) (s:Sl) (L:List Dc):Prop where
 r:RL h 5 s Dc.cs L
 i:∀d∈L,DI h d
theorem DL.ext {h h':Heap} {s:Sl} {L:List Dc} (hd:DL h s L) (E:Ext h h'):DL h' s L:=⟨hd.r.ext E,fun d hm=>(hd.i d hm).ext E⟩
structure GI (h:Heap) (g:Gl):Prop where
 r:RL h 1 g.hr nmC g.rs
 d:DL h g.hd g.ds
 e:RL h 6 g.he Ed.cs g.es
 t:RL h 3 g.ht To.cs g.ts
theorem GI.ext {h h':Heap} {g:Gl} (hg:GI h g) (E:Ext h h'):GI h' g:=⟨hg.r.ext E,hg.d.ext E,hg.e.ext E,hg.t.ext E⟩
theorem RL.take {α:Type} {h:Heap} {k:Nat} {s:Sl} {cs:α->List Value} {L:List α} (hr:RL h k s cs L) {i:Nat} (hi:i<=s.n):RL h k ⟨subA s.a (Int.toNat 0) s.c k,Int.toNat (i:Int)-Int.toNat 0,s.c-Int.toNat 0⟩ cs (L.take i):=by
 have h1:=hr.rw.1;have e:subA s.a (Int.toNat 0) s.c k=s.a:=subA_zero _ _ _;rw[e];refine⟨⟨by rw[Yc,Yu];simp only[Yc] at h1;show i-0=_;omega,fun hp=>?_⟩,by have:=hr.cap;show i-0<=s.c-0;omega,fun ha=>?_,by have:=hr.sm;rw[Yu];omega⟩
 .rw[Yc,Yu] at hp;obtain⟨b,o,ha,hall⟩:=hr.rw.2 (by rw[Yc];omega);refine⟨b,o,ha,fun j row hj=>hall j row ?_⟩;rw[List.map_take,Yyf] at hj;split at hj
  .exact hj
  .cases hj
 .have:=hr.nil ha;exact⟨by show i-0=0;omega,by show s.c-0=0;omega⟩
end Go.VC
end

section
namespace Go.VC
open Go.Proofs Go.LexS
theorem letter221 (b:UInt8) (h:Heap):Fn Pz 240 #[.int .u8 b.toNat] h fun v h'=>v=.bool (lt b)/\h'=h:=by
 apply vc240;unfold W240;unfold lt isLetter;generalize (b.toNat:Int)=n
 repeat' first
  | refine sBi (fun _=>?_) (fun _=>?_)
 all_goals
  refine⟨?_,rfl⟩;congr 1;rw[Bool.eq_iff_iff];simp only[Bool.or_eq_true,Yt,decide_eq_true_eq,Bool.false_eq_true,true_iff,false_iff];omega
theorem digit253 (b:UInt8) (h:Heap):Fn Pz 270 #[.int .u8 b.toNat] h fun v h'=>v=.bool (dg b)/\h'=h:=by
 apply vc270;unfold W270;unfold dg isDigit;refine sBi (fun c=>⟨?_,rfl⟩) (fun c=>⟨?_,rfl⟩)
 .rw[decide_eq_true (p:=(48:Int)<=b.toNat) c,Bool.true_and]
 .rw[decide_eq_false (p:=(48:Int)<=b.toNat) c,Bool.false_and]
theorem inner222 (b:UInt8) (h:Heap):Fn Pz 241 #[.int .u8 b.toNat] h fun v h'=>v=.bool (inn b)/\h'=h:=by
 apply vc241;unfold W241;refine (letter221 b h).mono ?_;rintro _ h3 ⟨rfl,rfl⟩;refine⟨_,rfl,sB_intro (fun c=>?_) (fun c=>?_)⟩
 .exact⟨by rw[show inn b=(lt b||dg b||((b.toNat:Int)==95)) from rfl,c];rfl,rfl⟩
 .refine (digit253 b _).mono ?_;rintro _ h6 ⟨rfl,rfl⟩;refine⟨_,rfl,sB_intro (fun d=>?_) (fun d=>?_)⟩
  .exact⟨by rw[show inn b=(lt b||dg b||((b.toNat:Int)==95)) from rfl,c,d];rfl,rfl⟩
  .exact⟨by rw[show inn b=(lt b||dg b||((b.toNat:Int)==95)) from rfl,c,d];rfl,rfl⟩
theorem isname189 (s:ByteArray) (h:Heap):Fn Pz 207 #[.string s] h fun v h'=>v=.bool (isName s.data.toList)/\h'=h:=by
 apply vc207;unfold W207;have hsz:=size_len s;rw[strEq];generalize hL:s.data.toList=L at *;refine sB_intro (fun he=>?_) (fun he=>?_)
 .have:L=[]:=Yyn he;subst this;exact⟨rfl,rfl⟩
 .have hne:L≠[]:=Yyo he;have hpos:0<L.length:=List.length_pos_iff.2 hne;obtain⟨b,hb,hby⟩:=byte_get (s:=s) (i:=0) (by omega);rw[hL] at hb;have hcons:L=b::L.drop 1:=by have:=drop_cons hb;rwa [List.drop_zero] at this
  have hdef:isName L=(decide (L.length<=16)&&lt b&&L.all inn):=by
   conv=>lhs;rw[hcons]
   rw[isName,<-hcons]
  rw[hdef];refine sB_intro (fun hgt=>?_) (fun hgt=>?_)
  .refine⟨?_,rfl⟩;rw[decide_eq_false (by have:=Yyn hgt;omega)];rfl
  .have h16:L.length<=16:=by have:=Yyo hgt;omega
   rw[decide_eq_true h16];refine⟨⟨by omega,by omega⟩,?_⟩;rw[show Int.toNat 0=0 from rfl,hby];refine (letter221 _ _).mono ?_;rintro v h3 ⟨rfl,rfl⟩;refine⟨_,rfl,sB_intro (fun hlet=>?_) (fun hlet=>?_)⟩
   .refine⟨?_,rfl⟩;rw[show lt b=false from by rw[Bool.not_eq_true'] at hlet;exact hlet];rfl
   .rw[show lt b=true from by rw[Bool.not_eq_false'] at hlet;exact hlet];refine up_loop (n:=s.size) (fun i h'=>h'=h3/\∀(j:Nat) (b:UInt8),j<i->L[j]?=some b->(!inn b)=false) ⟨rfl,fun j b hj=>by omega⟩ ?_;rintro-i h8 hi ⟨rfl,hd⟩;refine sB_intro (fun hlt=>?_) (fun hge=>?_)
    .have hlt':=lt_t hlt;obtain⟨y,hy,hby2⟩:=byte_get hlt';rw[hL] at hy;refine⟨⟨by omega,by omega⟩,?_⟩;rw[show Int.toNat (i:Int)=i from rfl,hby2];refine (inner222 _ _).mono ?_;rintro v h11 ⟨rfl,rfl⟩;refine⟨_,rfl,sB_intro (fun hp=>?_) (fun hp=>?_)⟩
     .refine⟨?_,rfl⟩;have:L.all inn=false:=by
       rw[<-Bool.not_eq_true,all_split];intro hh;have:=hh y i hy;rw[Bool.not_eq_true'] at hp;rw[show inn y=false from hp] at this;cases this
      rw[this];rfl
     .exact Up.next hlt' (by omega) ⟨rfl,scan_next (p:=fun b=>!inn b) hy hp hd⟩
    .have hge':=lt_f hge;refine⟨?_,rfl⟩;rw[(all_split inn L).2 fun b j hb=>by simpa using hd j b (by have:=(Ya.1 hb).1;omega) hb];rfl
theorem index190 (L:List Nm) (x:ByteArray) (s:Sl) (h:Heap) (hr:RL h 1 s nmC L) :
  Fn Pz 208 #[.slice s.a s.n s.c,.string x] h fun v h'=>(∃k:Int,v=.int .i64 k/\decide (k>=0)=decide (x.data.toList∈L))/\h'=h:=by
 apply vc208;unfold W208;have hn:=hr.ln;have hm:=hr.sm;refine up_loop (n:=s.n) (fun i h'=>h'=h/\∀(j:Nat) (y:Nm),j<i->L[j]?=some y->decide (x.data.toList=y)=false) ⟨rfl,fun j y hj=>by omega⟩ ?_;rintro-i h5 hi ⟨rfl,hd⟩;refine sB_intro (fun l=>?_) (fun l=>?_)
 .replace l:=lt_t l;refine hr.rw.nbI (by omega) (by omega) fun b o d g t=>?_;replace g:L[i]?=some d:=g;refine⟨_,t.hd,?_⟩;rw[strEq,bs_list];refine sB_intro (fun he=>?_) (fun hne=>?_)
  .have:=Yyn he;exact⟨⟨_,rfl,by rw[decide_eq_true (show (i:Int)>=0 by omega),decide_eq_true (by rw[this];exact Yb g)]⟩,rfl⟩
  .exact Up.next l (by omega) ⟨rfl,scan_next (p:=fun y=>decide (x.data.toList=y)) g hne hd⟩
 .replace l:=lt_f l;refine⟨⟨_,rfl,?_⟩,rfl⟩;rw[decide_eq_false (show ¬((-1:Int)>=0) by omega),decide_eq_false];intro hm;obtain⟨j,hj⟩:=Yf.1 hm;exact Yyo (hd j _ (by have:=(Ya.1 hj).1;omega) hj) rfl
theorem has133 (L:List Nm) (x:ByteArray) (s:Sl) (h:Heap) (hr:RL h 1 s nmC L) :
  Fn Pz 170 #[.slice s.a s.n s.c,.string x] h fun v h'=>v=.bool (decide (x.data.toList∈L))/\h'=h:=by
 apply vc170;unfold W170;refine (index190 L x s h hr).mono ?_;rintro v h3 ⟨⟨k,rfl,hk⟩,rfl⟩;exact⟨_,rfl,by rw[hk],rfl⟩
theorem own_rl {α:Type} {h:Heap} {b:Nat} {e:TypeId} {k:Nat} {cs:α->List Value} {L:List α} {xs:List Value} (hx:xs=(L.map cs).flatten) (ho:Own h b xs e) (hk:∀x,(cs x).length=k) (hl:L.length<=1048576) {n c:Nat} (hn:n=L.length) (hc:n<=c):RL h k ⟨some ⟨b,0,none⟩,n,c⟩ cs L:=by
 subst hx;refine⟨⟨by rw[Yc];exact hn,fun _=>⟨b,0,rfl,fun i row hi j v hj=>?_⟩⟩,hc,fun e=>by (cases e),hl⟩;have hr:∀r∈L.map cs,r.length=k:=fun r hr=>by obtain⟨x,_,rfl⟩:=Yp.1 hr;exact hk x
 have hjl:=(Ya.1 hj).1;rw[hr row (Yb hi)] at hjl;rw[addk_at,Nat.zero_add,ho.hc,getElem?_flatten _ i j row hr hi hjl];exact hj
theorem isword132 (s:ByteArray) (h:Heap):Fn Pz 169 #[.string s] h fun v h'=>v=.bool (isWord s.data.toList)/\Ext h h':=by
 apply vc169;unfold W169;refine newput (vs:=(keywords.map nmC).flatten) rfl fun h2 E o=>?_;refine (isname189 s h2).mono ?_;rintro _ h5 ⟨rfl,rfl⟩;refine⟨_,rfl,sB_intro (fun c=>?_) (fun c=>?_)⟩
 .refine⟨by decide,?_⟩;refine (has133 keywords s ⟨subA (some ⟨h.size,0,none⟩) (Int.toNat 0) 28 1,Int.toNat (28:Nat)-Int.toNat 0,28-Int.toNat 0⟩ h5 (own_rl rfl o (fun _=>rfl) (by decide) rfl (by decide))).mono ?_;rintro _ h8 ⟨rfl,rfl⟩;exact⟨_,rfl,by rw[show isWord s.data.toList=(isName s.data.toList && !decide (s.data.toList∈keywords)) from rfl,c];rfl,E⟩
 .exact⟨by rw[show isWord s.data.toList=(isName s.data.toList && !decide (s.data.toList∈keywords)) from rfl,c];rfl,E⟩
end Go.VC
end

section
namespace Go.VC
theorem wu64 {n:Int} (h0:0<=n) (h1:n<=18446744073709551615):IntKind.wrap .u64 n=n:=by
 simp[IntKind.wrap,IntKind.signed,IntKind.bits];omega
def inC (n:Int):List Value:=[.int .i64 n]
def wC (w:Nat):List Value:=[.int .u64 w]
def memB (ws:List Nat) (k:Nat):Bool:=(ws.getD (k/64) 0).testBit (k%64)
theorem shr_nat {w k:Nat} (hk:k<64):shrI .u64 (w:Int) (k:Int)=((w/2^k:Nat):Int):=by
 unfold shrI;have e:min (Int.toNat (k:Int)) (IntKind.bits .u64)=k:=by simp[IntKind.bits];omega
 rw[e];show Int.fdiv (w:Int) ((2:Int)^k)=_;rw[show ((2:Int)^k)=((2^k:Nat):Int) by simp,Int.fdiv_eq_ediv_of_nonneg _ (Int.natCast_nonneg _)];rfl
theorem and_one {w:Nat} (hw:w<2^64):andI .u64 (w:Int) 1=((w%2:Nat):Int):=by
 unfold andI;have e:(BitVec.ofInt (IntKind.bits .u64) (w:Int)&&&BitVec.ofInt (IntKind.bits .u64) 1).toNat=w%2:=by
  show (BitVec.ofInt 64 (w:Int)&&&BitVec.ofInt 64 ((1:Nat):Int)).toNat=w%2;rw[BitVec.ofInt_natCast,BitVec.ofInt_natCast,BitVec.toNat_and,BitVec.toNat_ofNat,BitVec.toNat_ofNat,Nat.mod_eq_of_lt hw];exact Nat.and_one_is_mod w
 rw[e];exact wu64 (by omega) (by omega)
theorem bit_has {w k:Nat} (hw:w<2^64) (hk:k<64):(andI .u64 (shrI .u64 (w:Int) (k:Int)) 1==1)=w.testBit k:=by
 rw[shr_nat hk,and_one (Nat.lt_of_le_of_lt (Nat.div_le_self _ _) hw),Nat.testBit_eq_decide_div_mod_eq];by_cases h:w/2^k%2=1
 .rw[h,decide_eq_true rfl];rfl
 .rw[decide_eq_false h];exact beq_eq_false_iff_ne.2 (by omega)
theorem shl_one {k:Nat} (hk:k<64):shlI .u64 1 (k:Int)=((2^k:Nat):Int):=by
 unfold shlI;have e:min (Int.toNat (k:Int)) (IntKind.bits .u64)=k:=by simp[IntKind.bits];omega
 rw[e,Int.one_mul];have h2:2^k<2^64:=Nat.pow_lt_pow_right (by omega) hk;rw[show ((2:Int)^k)=((2^k:Nat):Int) by simp];generalize 2^k=m at *;exact wu64 (by omega) (by omega)
theorem or_nat {a b:Nat} (ha:a<2^64) (hb:b<2^64):orI .u64 (a:Int) (b:Int)=((a|||b:Nat):Int):=by
 unfold orI;have e:(BitVec.ofInt (IntKind.bits .u64) (a:Int)|||BitVec.ofInt (IntKind.bits .u64) (b:Int)).toNat=a|||b:=by
  show (BitVec.ofInt 64 (a:Int)|||BitVec.ofInt 64 (b:Int)).toNat=_;rw[BitVec.ofInt_natCast,BitVec.ofInt_natCast,BitVec.toNat_or,BitVec.toNat_ofNat,BitVec.toNat_ofNat,Nat.mod_eq_of_lt ha,Nat.mod_eq_of_lt hb]
 rw[e];have:=Nat.or_lt_two_pow ha hb;exact wu64 (by omega) (by omega)
theorem clr_zero {a b:Nat} (ha:a<2^64) (hb:b<2^64):clrI .u64 (a:Int) (b:Int)=0 ↔ ∀k,k<64->a.testBit k=true->b.testBit k=true:=by
 have hlt:(BitVec.ofNat 64 a &&& ~~~BitVec.ofNat 64 b).toNat<18446744073709551616:=(BitVec.ofNat 64 a &&& ~~~BitVec.ofNat 64 b).isLt;have key:clrI .u64 (a:Int) (b:Int)=((BitVec.ofNat 64 a &&& ~~~BitVec.ofNat 64 b).toNat:Int):=by
  unfold clrI;show IntKind.wrap .u64 ((BitVec.ofInt 64 (a:Int) &&& ~~~BitVec.ofInt 64 (b:Int)).toNat:Int)=_;rw[BitVec.ofInt_natCast,BitVec.ofInt_natCast];exact wu64 (by omega) (by omega)
 rw[key];have bitx:∀k,k<64->(BitVec.ofNat 64 a &&& ~~~BitVec.ofNat 64 b).getLsbD k=(a.testBit k && !b.testBit k):=fun k hk=>by
  rw[BitVec.getLsbD_and,BitVec.getLsbD_not,BitVec.getLsbD_ofNat,BitVec.getLsbD_ofNat];simp[hk]
 constructor
 .intro h k hk hak;have h0:(BitVec.ofNat 64 a &&& ~~~BitVec.ofNat 64 b)=0#64:=BitVec.eq_of_toNat_eq (by rw[show (BitVec.ofNat 64 a &&& ~~~BitVec.ofNat 64 b).toNat=0 by omega];rfl);have:=bitx k hk;rw[h0,BitVec.getLsbD_zero,hak] at this;cases hbk:b.testBit k
  .rw[hbk] at this;cases this
  .rfl
 .intro h;have h0:(BitVec.ofNat 64 a &&& ~~~BitVec.ofNat 64 b)=0#64:=by
   apply BitVec.eq_of_getLsbD_eq;intro k hk;rw[bitx k hk,BitVec.getLsbD_zero];cases hak:a.testBit k
   .rfl
   .rw[h k hk hak];rfl
  rw[h0];rfl
theorem memB_set {ws:List Nat} {n k:Nat} (hn:n/64<ws.length):memB (ws.set (n/64) (ws.getD (n/64) 0|||2^(n%64))) k=(decide (k=n)||memB ws k):=by
 unfold memB;by_cases h:k/64=n/64
 .rw[h,Yo,Yq hn];show Nat.testBit (ws.getD (n/64) 0|||2^(n%64)) (k%64)=_;rw[Nat.testBit_or,Nat.testBit_two_pow,Bool.or_comm];congr 1;by_cases h2:k=n
  .subst h2;simp
  .rw[decide_eq_false h2];simp only[decide_eq_false_iff_not];omega
 .rw[Yo,Yy (fun e=>h e.symm),<-Yo];have:k≠n:=fun e=>h (by rw[e]);simp[this]
theorem memB_zero (n k:Nat):memB (List.replicate n 0) k=false:=by
 unfold memB;rw[Yo,List.getElem?_replicate];split<;>simp
theorem memB_take {ws:List Nat} {n:Nat} (h:∀i w,n<=i->ws[i]?=some w->w=0) (k:Nat):memB (ws.take n) k=memB ws k:=by
 unfold memB;rw[Yo,Yo,Yyf];split
 .rfl
 .rename_i hn;cases hw:ws[k/64]? with
  | none=>rfl
  | some w=>rw[h _ w (by omega) hw];simp
structure SetV (h:Heap) (s:Sl) (p:Nat->Bool):Prop where
 ex:∃ws:List Nat,Rw h 1 s (ws.map wC)/\ws.length<=64/\(∀w∈ws,w<2^64)/\∀k,memB ws k=p k
theorem SetV.ext {h h':Heap} {s:Sl} {p:Nat->Bool} (hs:SetV h s p) (E:Ext h h'):SetV h' s p:=by
 obtain⟨ws,h1,h2⟩:=hs.ex;exact⟨ws,h1.ext E,h2⟩
end Go.VC
end

section
namespace Go.VC
open Go.RowKit
structure Ev where
 send:Bool
 peer:Int
 label:Int
 deriving DecidableEq
def Ev.cs (x:Ev):List Value:=[.bool x.send,.int .i64 x.peer,.int .i64 x.label]
structure Ar where
 x:Ev
 to:Int
def Ar.cs (a:Ar):List Value:=[.bool a.x.send,.int .i64 a.x.peer,.int .i64 a.x.label,.int .i64 a.to]
def slC (s:Sl):List Value:=[.slice s.a s.n s.c]
def vis1 (role:Int) (x:Ed):Option Ev:=if role=x.a then some ⟨true,x.b,x.l⟩ else if role=x.b then some ⟨false,x.a,x.l⟩ else none
def quietL (es:List Ed) (role:Int) (n:Nat):List Int:=es.filterMap fun x=>if x.f=(n:Int) then (match vis1 role x with | none=>some x.t | some _=>none) else none
def visL (es:List Ed) (role:Int) (n:Nat):List Ar:=es.filterMap fun x=>if x.f=(n:Int) then (vis1 role x).map fun e=>⟨e,x.t⟩ else none
theorem quietL_snoc (es:List Ed) (role:Int) (n:Nat) (x:Ed):quietL (es++[x]) role n=quietL es role n++(if x.f=(n:Int) then (match vis1 role x with | none=>[x.t] | some _=>[]) else []):=by
 unfold quietL;rw[List.filterMap_append];congr 1;by_cases h:x.f=(n:Int)
 .simp only[List.filterMap_cons,List.filterMap_nil,if_pos h];cases vis1 role x<;>rfl
 .simp only[List.filterMap_cons,List.filterMap_nil,if_neg h]
theorem visL_snoc (es:List Ed) (role:Int) (n:Nat) (x:Ed):visL (es++[x]) role n=visL es role n++(if x.f=(n:Int) then (match vis1 role x with | none=>[] | some e=>[⟨e,x.t⟩]) else []):=by
 unfold visL;rw[List.filterMap_append];congr 1;by_cases h:x.f=(n:Int)
 .simp only[List.filterMap_cons,List.filterMap_nil,if_pos h];cases vis1 role x<;>rfl
 .simp only[List.filterMap_cons,List.filterMap_nil,if_neg h]
def nest {α:Type} (e:TypeId) (k:Nat) (cs:α->List Value) (q:Sl × List α):It:=.sl q.1 e k (q.2.map cs)
theorem set_mid {α:Type} {P R:List α} {Q:List α} {i:Nat} (hi:i<Q.length) (x:α):(P++Q++R).set (P.length+i) x=P++Q.set i x++R:=by
 rw[Yz,List.set_append_right _ _ (by omega),Nat.add_sub_cancel_left,List.set_append_left _ _ hi,Yz]
theorem get_mid {α:Type} {P R:List α} {Q:List α} {i:Nat} (hi:i<Q.length):(P++Q++R)[P.length+i]?=Q[i]?:=by
 rw[Yz,Yyc (by omega),Nat.add_sub_cancel_left,Yyi hi]
theorem St.nestAt {α:Type} {P:Program} {h0 h:Heap} {A B:List It} {Q:List (Sl × List α)} {e:TypeId} {n:Nat} {cs:α->List Value} (hs:St h0 h (A++Q.map (nest e n cs)++B)) {i:Nat} {q:Sl × List α} (hi:Q[i]?=some q)
  {t bytes:Nat} (hT:appB P t e n bytes=true) (d:α) {a:Addr} (ha:atC h a (cs d)) (hn:(cs d).length=n) (h1:(cs d).all oneB=true) (hb:(q.1.n+1)*bytes<=140737488355328) (h63:q.1.n+1<=maxLen)
  {K:Sl->Heap->Prop} (hK:∀(r:Sl) (h':Heap),r.n=q.1.n+1->St h0 h' (A++(Q.set i (r,q.2++[d])).map (nest e n cs)++B)->K r h') :
  App P t t (.slice q.1.a q.1.n q.1.c) (.slice (some a) 1 1) h K:=by
 have hil:i<Q.length:=(Ya.1 hi).1;have hil':i<(Q.map (nest e n cs)).length:=by rw[Yc];exact hil
 refine hs.appended (A.length+i) (rows:=q.2.map cs) (by rw[get_mid hil',Yd,hi];rfl) hT (news:=[cs d]) (by simpa using ha) rfl (fun r hr=>by rw[Ye] at hr;rw[hr];exact hn) (by simpa using h1) hb h63 fun r h' hrn h3=>hK r h' hrn ?_;rw[set_mid hil'] at h3;have e1:(Q.map (nest e n cs)).set i (.sl r e n (q.2.map cs++[cs d]))=(Q.set i (r,q.2++[d])).map (nest e n cs):=by
  rw[List.map_set];congr 1;unfold nest;simp
 rw[e1] at h3;exact h3
theorem St.newbE {h0 h:Heap} {L:List It} (hs:St h0 h L) {xs:List Value} {e:TypeId} {K:Heap->Prop} (hK:∀h2,Ext h h2->St h0 h2 (.blk h.size xs e::L)->K h2):∀h2:Heap,h2=h.push (.cells ⟨xs⟩ e)->K h2:=
 VC.newb fun h2 E o=>hK h2 E (hs.more E (i:=.blk h.size xs e) o fun b hb=>by cases hb;exact Yyt _)
theorem St.perm {h0 h:Heap} {L L':List It} (hs:St h0 h L) (hp:L.Perm L'):St h0 h L':=
 ⟨hs.ext,fun i hi=>hs.ok i (hp.mem_iff.2 hi),(hp.pairwise_iff (fun {a b} hab x hx hy=>hab x hy hx)).1 hs.ap⟩
theorem St.nests {α:Type} {h0 h:Heap} {A B:List It} {e:TypeId} {k:Nat} {cs:α->List Value} (hs:St h0 h (A++B)):∀n:Nat,St h0 h (A++(List.replicate n ((⟨.none,0,0⟩,[]):Sl × List α)).map (nest e k cs)++B)
 | 0=>by simpa using hs
 | n+1=>by
  have h1:=(hs.nests (α:=α) (e:=e) (k:=k) (cs:=cs) n).nil_ e k;refine h1.perm ?_;rw[List.replicate_succ,Yyl,Yz,Yz];have:nest e k cs ((⟨.none,0,0⟩,[]):Sl × List α)=.sl ⟨.none,0,0⟩ e k []:=rfl;rw[this];exact List.perm_middle.symm
theorem sm_nil {h h':Heap}:Sm [] h h':=fun a ha=>by cases ha
theorem sm_cons {h h':Heap} {a:Addr} {al:List Addr} (hb:h'[a.block]?=h[a.block]?) (hr:Sm al h h'):Sm (a::al) h h':=by
 intro x hx k v hv;rcases Yr.1 hx with rfl | hx
 .rw[hc_of_block (h:=h) (by rw[addk_block'];exact hb)];exact hv
 .exact hr x hx k v hv
theorem St.same {h0 h h':Heap} {L L':List It} (hs:St h0 h L) (hs':St h0 h' L') (k k':Nat) {b:Nat} {xs:List Value} {e:TypeId} (hk:L[k]?=some (.blk b xs e)) (hk':L'[k']?=some (.blk b xs e)):h'[b]?=h[b]?:=(hs'.get hk').trans (hs.get hk).symm
structure LkI (h:Heap) (p:Addr) (g:Gl) (role:Int):Prop where
 ex:∃(hq hv:Sl) (qs vs:Nat->Sl),p.spot=none/\atC h p (g.cs++[.int .i64 role,.slice hq.a hq.n hq.c,.slice hv.a hv.n hv.c])/\hq.n=g.n.toNat/\hv.n=g.n.toNat /\
  Rw h 1 hq ((List.range g.n.toNat).map fun i=>slC (qs i))/\Rw h 1 hv ((List.range g.n.toNat).map fun i=>slC (vs i)) /\
  (∀i,i<g.n.toNat->Rw h 1 (qs i) ((quietL g.es role i).map inC))/\∀i,i<g.n.toNat->Rw h 4 (vs i) ((visL g.es role i).map Ar.cs)
theorem LkI.ext {h h':Heap} {p:Addr} {g:Gl} {role:Int} (hl:LkI h p g role) (E:Ext h h'):LkI h' p g role:=by
 obtain⟨hq,hv,qs,vs,h0,h1,h2,h3,h4,h5,h6,h7⟩:=hl.ex;exact⟨hq,hv,qs,vs,h0,atC_ext E h1,h2,h3,h4.ext E,h5.ext E,fun i hi=>(h6 i hi).ext E,fun i hi=>(h7 i hi).ext E⟩
end Go.VC
end

section
namespace Go.VC
theorem map_get {α β:Type} (f:α->β) (L:List α) (i:Nat):(L.map f)[i]?=(L[i]?).map f:=Yd
theorem map_splice {α:Type} (f:α->Value) {L:List α} {i:Nat} (hi:i<L.length) (y:α):splice (L.map f) i [f y]=(L.set i y).map f:=by
 unfold splice;rw[List.map_set,List.set_eq_take_append_cons_drop,if_pos (by rw[Yc];exact hi)];simp
inductive Qr (es:List Ed) (role:Int) (l:List Int):Int->Prop where
 | base {a:Int}:a∈l->Qr es role l a
 | step {a b:Int}:Qr es role l a->(∃x∈es,vis1 role x=none/\x.f=a/\x.t=b)->Qr es role l b
structure CL (es:List Ed) (role:Int) (n:Nat) (l:List Int) (D:List Bool) (T:List Int):Prop where
 len:D.length=n
 cnt:T.length=D.count true
 mem:∀v,v∈T ↔ 0<=v/\D[v.toNat]?=some true
 r:∀v∈T,Qr es role l v
theorem CL.start (es:List Ed) (role:Int) (n:Nat) (l:List Int):CL es role n l (List.replicate n false) []:=by
 refine⟨by rw[Yg],by rw[List.count_replicate];rfl,fun v=>⟨fun h=>(by cases h),fun ⟨_,h⟩=>?_⟩,fun v h=>by cases h⟩;have:=List.eq_of_mem_replicate (Yb h);cases this
theorem CL.push {es:List Ed} {role:Int} {n:Nat} {l:List Int} {D:List Bool} {T:List Int} (h:CL es role n l D T) {b:Int} (h0:0<=b) (hb:D[b.toNat]?=some false) (hr:Qr es role l b):CL es role n l (D.set b.toNat true) (T++[b]):=by
 have hbl:=(Ya.1 hb).1;have hbe:=(Ya.1 hb).2;refine⟨by rw[Yyh];exact h.len,?_,fun v=>?_,fun v hv=>?_⟩
 .rw[List.count_set hbl,hbe,Yh,h.cnt];rfl
 .rw[Yk,Ye,h.mem];constructor
  .rintro (⟨h1,h2⟩ | rfl)
   .refine⟨h1,?_⟩;by_cases e:b.toNat=v.toNat
    .rw[e,Yq (by omega)]
    .rw[Yy e];exact h2
   .exact⟨h0,by rw[Yq hbl]⟩
  .rintro⟨h1,h2⟩;by_cases e:b.toNat=v.toNat
   .right;omega
   .left;rw[Yy e] at h2;exact⟨h1,h2⟩
 .rcases Yk.1 hv with hv | hv
  .exact h.r v hv
  .rw[Ye] at hv;rw[hv];exact hr
theorem CL.le {es:List Ed} {role:Int} {n:Nat} {l:List Int} {D:List Bool} {T:List Int} (h:CL es role n l D T):T.length<=n:=by
 rw[h.cnt,<-h.len];exact List.count_le_length
theorem quietL_mem {es:List Ed} {role:Int} {n:Nat} {b:Int}:b∈quietL es role n ↔ ∃x∈es,vis1 role x=none/\x.f=n/\x.t=b:=by
 unfold quietL;rw[Yym];constructor
 .rintro⟨x,hx,h⟩;split at h
  .rename_i hf;cases hv:vis1 role x with
   | none=>rw[hv] at h;exact⟨x,hx,hv,hf,Yyp h⟩
   | some e=>rw[hv] at h;cases h
  .cases h
 .rintro⟨x,hx,hv,hf,rfl⟩;exact⟨x,hx,by rw[if_pos hf,hv]⟩
theorem CL.end_ {es:List Ed} {role:Int} {n:Nat} {l:List Int} {D:List Bool} {T:List Int} (h:CL es role n l D T) (hl:∀x∈l,x∈T) (hc:∀v∈T,∀b∈quietL es role v.toNat,b∈T) (v:Int):v∈T ↔ Qr es role l v:=by
 refine⟨h.r v,fun hq=>?_⟩
 induction hq with
 | base hm=>exact hl _ hm
 | @step a b _ hx ih=>
  obtain⟨x,hx,hv,hf,rfl⟩:=hx;exact hc _ ih _ (quietL_mem.2 ⟨x,hx,hv,by have:=((h.mem a).1 ih).1;omega,rfl⟩)
noncomputable def clo (es:List Ed) (role:Int) (l:List Int):Nat->Bool:=fun j=>by classical exact decide (Qr es role l (j:Int))
theorem clo_iff {es:List Ed} {role:Int} {l:List Int} {j:Nat}:clo es role l j=true ↔ Qr es role l (j:Int):=by unfold clo;simp
def cmpI (x y:Int):Int:=if x<y then -1 else if x>y then 1 else 0
def orI3 (x y:Int):Int:=if x≠0 then x else y
def cmpE (x y:Ev):Int:=if x.send≠y.send then (if x.send then -1 else 1) else orI3 (cmpI x.peer y.peer) (cmpI x.label y.label)
def evLt (x y:Ev):Prop:=(x.send=true/\y.send=false)\/(x.send=y.send/\(x.peer<y.peer\/(x.peer=y.peer/\x.label<y.label)))
instance (x y:Ev):Decidable (evLt x y):=by unfold evLt;infer_instance
theorem cmpE_neg {x y:Ev}:cmpE x y<0 ↔ evLt x y:=by
 unfold cmpE evLt orI3 cmpI;obtain⟨s,p,l⟩:=x;obtain⟨t,q,m⟩:=y;cases s<;>cases t<;>simp<;>(repeat' split)<;>omega
theorem ev_ext {x y:Ev} (h1:x.send=y.send) (h2:x.peer=y.peer) (h3:x.label=y.label):x=y:=by
 obtain⟨s,p,l⟩:=x;obtain⟨t,q,m⟩:=y
 simp_all
theorem evLt_irr (x:Ev):¬evLt x x:=by unfold evLt;intro h;rcases h with ⟨h1,h2⟩ | ⟨_,h | ⟨_,h⟩⟩<;>first | (rw[h1] at h2;cases h2) | omega
theorem evLt_trans {x y z:Ev} (h1:evLt x y) (h2:evLt y z):evLt x z:=by
 unfold evLt at *;obtain⟨s,p,l⟩:=x;obtain⟨t,q,m⟩:=y;obtain⟨u,r,n⟩:=z;cases s<;>cases t<;>cases u<;>simp_all<;>omega
theorem evLt_tri (x y:Ev):evLt x y\/x=y\/evLt y x:=by
 unfold evLt;obtain⟨s,p,l⟩:=x;obtain⟨t,q,m⟩:=y;cases s<;>cases t<;>simp<;>omega
def compactL:List Ev->List Ev
 | []=>[]
 | x::r=>match compactL r with
  | []=>[x]
  | y::t=>if x=y then y::t else x::y::t
theorem compactL_mem:∀(l:List Ev) (x:Ev),x∈compactL l ↔ x∈l
 | [],x=>by simp[compactL]
 | a::r,x=>by
  have ih:=compactL_mem r;rw[compactL];split
  .rename_i h;rw[h] at ih;have:=ih x
   simp_all
  .rename_i y t h;rw[h] at ih;have h1:=ih x;split
   .rename_i e;subst e;have h2:=(ih a).1 (by simp);rw[h1];simp only[Yr];constructor
    .exact .inr
    .rintro (rfl | h)
     .exact h2
     .exact h
   .rw[Yr,h1,Yr]
theorem compactL_sorted:∀(l:List Ev),l.Pairwise (fun a b=>¬evLt b a)->(compactL l).Pairwise evLt
 | [],_=>by simp[compactL]
 | a::r,h=>by
  obtain⟨h1,h2⟩:=List.pairwise_cons.1 h;have ih:=compactL_sorted r h2;rw[compactL];split
  .simp
  .rename_i y t hc;rw[hc] at ih;split
   .exact ih
   .rename_i hne;refine List.pairwise_cons.2 ⟨fun z hz=>?_,ih⟩;have hay:evLt a y:=by
     have hy:y∈r:=(compactL_mem r y).1 (by rw[hc];simp);rcases evLt_tri a y with h3 | h3 | h3
     .exact h3
     .exact absurd h3 hne
     .exact absurd h3 (h1 y hy)
    rcases Yr.1 hz with rfl | hz
    .exact hay
    .exact evLt_trans hay ((List.pairwise_cons.1 ih).1 z hz)
theorem sorted_ext:∀(l m:List Ev),l.Pairwise evLt->m.Pairwise evLt->(∀x,x∈l ↔ x∈m)->l=m
 | [],[],_,_,_=>rfl
 | [],b::m,_,_,h=>absurd ((h b).2 (by simp)) (by simp)
 | a::l,[],_,_,h=>absurd ((h a).1 (by simp)) (by simp)
 | a::l,b::m,hl,hm,h=>by
  obtain⟨h1,h2⟩:=List.pairwise_cons.1 hl;obtain⟨h3,h4⟩:=List.pairwise_cons.1 hm;have hab:a=b:=by
   rcases Yr.1 ((h a).1 (by simp)) with e | ha
   .exact e
   .rcases Yr.1 ((h b).2 (by simp)) with e | hb
    .exact e.symm
    .exact absurd (evLt_trans (h1 b hb) (h3 a ha)) (evLt_irr a)
  subst hab;congr 1;refine sorted_ext l m h2 h4 fun x=>?_;have hx:=h x;rw[Yr,Yr] at hx;constructor
  .intro hm';rcases hx.1 (.inr hm') with rfl | h5
   .exact absurd (h1 x hm') (evLt_irr x)
   .exact h5
  .intro hm';rcases hx.2 (.inr hm') with rfl | h5
   .exact absurd (h3 x hm') (evLt_irr x)
   .exact h5
def insE (x:Ev):List Ev->List Ev
 | []=>[x]
 | y::r=>if evLt y x then y::insE x r else if x=y then y::r else x::y::r
theorem insE_mem (x z:Ev):∀l:List Ev,z∈insE x l ↔ z=x\/z∈l
 | []=>by simp[insE]
 | y::r=>by
  rw[insE];split
  .rw[Yr,insE_mem x z r,Yr];constructor
   .rintro (h | h | h)
    .exact .inr (.inl h)
    .exact .inl h
    .exact .inr (.inr h)
   .rintro (h | h | h)
    .exact .inr (.inl h)
    .exact .inl h
    .exact .inr (.inr h)
  .split
   .rename_i e;subst e;simp
   .simp
theorem insE_sorted (x:Ev):∀l:List Ev,l.Pairwise evLt->(insE x l).Pairwise evLt
 | [],_=>by simp[insE]
 | y::r,h=>by
  obtain⟨h1,h2⟩:=List.pairwise_cons.1 h;rw[insE];split
  .rename_i hyx;refine List.pairwise_cons.2 ⟨fun z hz=>?_,insE_sorted x r h2⟩;rcases (insE_mem x z r).1 hz with rfl | hz
   .exact hyx
   .exact h1 z hz
  .split
   .exact h
   .rename_i hyx hne;have hxy:evLt x y:=by
     rcases evLt_tri x y with h3 | h3 | h3
     .exact h3
     .exact absurd h3 hne
     .exact absurd h3 hyx
    refine List.pairwise_cons.2 ⟨fun z hz=>?_,h⟩;rcases Yr.1 hz with rfl | hz
    .exact hxy
    .exact evLt_trans hxy (h1 z hz)
def sortE (l:List Ev):List Ev:=l.foldr insE []
theorem sortE_mem (l:List Ev) (x:Ev):x∈sortE l ↔ x∈l:=by
 unfold sortE
 induction l with
 | nil=>simp
 | cons a l ih=>rw[List.foldr_cons,insE_mem,ih,Yr]
theorem sortE_sorted (l:List Ev):(sortE l).Pairwise evLt:=by
 unfold sortE
 induction l with
 | nil=>simp
 | cons a l ih=>exact insE_sorted a _ ih
theorem compact_sortE {l l':List Ev} (hp:l'.Perm l) (hs:l'.Pairwise fun a b=>¬evLt b a):compactL l'=sortE l:=
 sorted_ext _ _ (compactL_sorted l' hs) (sortE_sorted l) fun x=>by rw[compactL_mem,sortE_mem,hp.mem_iff]
def elems (p:Nat->Bool):List Nat:=(List.range 4096).filter p
theorem elems_mem {p:Nat->Bool} {j:Nat}:j∈elems p ↔ j<4096/\p j=true:=by unfold elems;rw[List.mem_filter,List.mem_range]
def toL (es:List Ed) (role:Int) (p:Nat->Bool) (x:Ev):List Int:=(elems p).flatMap fun n=>(visL es role n).filterMap fun a=>if a.x=x then some a.to else none
def evL (es:List Ed) (role:Int) (p:Nat->Bool):List Ev:=(elems p).flatMap fun n=>(visL es role n).map (·.x)
def evs (es:List Ed) (role:Int) (p:Nat->Bool):List Ev:=sortE (evL es role p)
end Go.VC
end

section
namespace Go.VC
structure Mv where
 f:Int
 send:Bool
 peer:Int
 label:Int
 t:Int
 ag:Bool
 deriving DecidableEq
def Mv.cs (m:Mv):List Value:=[.int .i64 m.f,.bool m.send,.int .i64 m.peer,.int .i64 m.label,.int .i64 m.t,.bool m.ag]
abbrev PSet:=Nat->Bool
open Classical in
noncomputable def rowI:List PSet->PSet->Nat
 | [],_=>0
 | q::r,p=>if q=p then 0 else rowI r p+1
open Classical in
noncomputable def rowS (S:List PSet) (p:PSet):List PSet:=if p∈S then S else S++[p]
theorem rowI_lt {S:List PSet} {p:PSet}:rowI S p<S.length ↔ p∈S:=by
 induction S with
 | nil=>simp[rowI]
 | cons q r ih=>
  rw[rowI,Yr];split
  .rename_i h;simp[h]
  .rename_i h;rw[Yyj];constructor
   .intro h1;exact .inr (ih.1 (by omega))
   .rintro (h1 | h1)
    .exact absurd h1.symm h
    .have:=ih.2 h1;omega
theorem rowI_of_not {S:List PSet} {p:PSet} (h:p∉S):rowI S p=S.length:=by
 induction S with
 | nil=>rfl
 | cons q r ih=>
  rw[Yr,not_or] at h;rw[rowI,if_neg (fun e=>h.1 e.symm),ih h.2,Yyj]
theorem rowI_first {S:List PSet} {p:PSet} {i:Nat} (hi:S[i]?=some p) (h:∀(j:Nat) (q:PSet),j<i->S[j]?=some q->q≠p):rowI S p=i:=by
 induction S generalizing i with
 | nil=>simp at hi
 | cons q r ih=>
  cases i with
  | zero=>simp at hi;rw[rowI,if_pos hi]
  | succ i=>
   rw[rowI,if_neg (h 0 q (by omega) rfl),ih (by simpa using hi) fun j q' hj hq=>h (j+1) q' (by omega) (by simpa using hq)]
noncomputable def arcsF (es:List Ed) (role:Int) (i:Nat) (p:PSet):List Ev->List PSet->List Mv->List PSet × List Mv
 | [],S,M=>(S,M)
 | x::r,S,M=>arcsF es role i p r (rowS S (clo es role (toL es role p x))) (M++[⟨i,x.send,x.peer,x.label,rowI S (clo es role (toL es role p x)),false⟩])
noncomputable def viewsF (es:List Ed) (role:Int):Nat->Nat->List PSet->List Mv->Option (List PSet × List Mv)
 | 0,_,_,_=>none
 | f+1,i,S,M=>match S[i]? with
  | none=>some (S,M)
  | some p=>if (arcsF es role i p (evs es role p) S M).1.length>200 then none else viewsF es role f (i+1) (arcsF es role i p (evs es role p) S M).1 (arcsF es role i p (evs es role p) S M).2
noncomputable def views (g:Gl) (role:Int):Option (List PSet × List Mv):=viewsF g.es role 202 0 [clo g.es role [g.s]] []
end Go.VC
end

section
namespace Go.VC
structure Ti where
 ag:Bool
 k:Int
 x:Ev
 deriving DecidableEq
def Ti.cs (t:Ti):List Value:=[.bool t.ag,.int .i64 t.k,.bool t.x.send,.int .i64 t.x.peer,.int .i64 t.x.label]
def ti0:Ti:=⟨false,0,⟨false,0,0⟩⟩
def updT (T:List Ti) (n:Nat) (f:Ti->Ti):List Ti:=match T[n]? with | some t=>T.set n (f t) | none=>T
def own1 (role:Int) (s:List Bool × List Ti) (x:Ed):List Bool × List Ti:=
 if x.a=role then (s.1.set x.f.toNat true,updT s.2 x.f.toNat fun t=>{ t with ag:=x.ag }) else s
def own2 (es:List Ed) (O:List Bool) (T:List Ti) (t:To):List Ti:=
 match O[t.s.toNat]?,es[t.e.toNat]? with
 | some true,some x=>updT T t.s.toNat fun q=>⟨q.ag,t.k,⟨true,x.b,x.l⟩⟩
 | _,_=>T
theorem updT_len (T:List Ti) (n:Nat) (f:Ti->Ti):(updT T n f).length=T.length:=by
 unfold updT;split
 .rw[Yyh]
 .rfl
theorem own1_len (role:Int) (s:List Bool × List Ti) (x:Ed):(own1 role s x).1.length=s.1.length/\(own1 role s x).2.length=s.2.length:=by
 unfold own1;split
 .exact⟨Yyh,updT_len _ _ _⟩
 .exact⟨rfl,rfl⟩
theorem own2_len (es:List Ed) (O:List Bool) (T:List Ti) (t:To):(own2 es O T t).length=T.length:=by
 unfold own2;split
 .exact updT_len _ _ _
 .rfl
def ownE (es:List Ed) (role:Int) (n:Nat):List Bool × List Ti:=es.foldl (own1 role) (List.replicate n false,List.replicate n ti0)
def ownT (es:List Ed) (ts:List To) (role:Int) (n:Nat):List Ti:=ts.foldl (own2 es (ownE es role n).1) (ownE es role n).2
theorem ownE_len (es:List Ed) (role:Int) (n:Nat):(ownE es role n).1.length=n/\(ownE es role n).2.length=n:=by
 unfold ownE
 suffices h:∀(l:List Ed) (s:List Bool × List Ti),(l.foldl (own1 role) s).1.length=s.1.length/\(l.foldl (own1 role) s).2.length=s.2.length by
  have:=h es (List.replicate n false,List.replicate n ti0);simpa using this
 intro l
 induction l with
 | nil=>intro s;exact⟨rfl,rfl⟩
 | cons a l ih=>intro s;rw[List.foldl_cons];have h1:=ih (own1 role s a);have h2:=own1_len role s a;exact⟨h1.1.trans h2.1,h1.2.trans h2.2⟩
theorem ownT_len (es:List Ed) (ts:List To) (role:Int) (n:Nat):(ownT es ts role n).length=n:=by
 unfold ownT
 suffices h:∀(l:List To) (T:List Ti),(l.foldl (own2 es (ownE es role n).1) T).length=T.length from (h ts _).trans (ownE_len es role n).2
 intro l
 induction l with
 | nil=>intro s;rfl
 | cons a l ih=>intro s;rw[List.foldl_cons,ih,own2_len]
theorem foldl_snoc {α β:Type} {f:β->α->β} {b:β} {l:List α} {i:Nat} {x:α} (h:l[i]?=some x):(l.take (i+1)).foldl f b=f ((l.take i).foldl f b) x:=by
 rw[List.take_add_one,h,List.foldl_append];rfl
theorem St.setf {α:Type} {h0 h:Heap} {L:List It} (hs:St h0 h L) (k:Nat) {s:Sl} {e:TypeId} {n:Nat} {cs:α->List Value} {l:List α} (hk:L[k]?=some (.sl s e n (l.map cs))) (hn:0<n) {x:Int} (hx0:0<=x) (hx1:x<(s.n:Nat)) (j:Nat) {y:α} (hy:l[x.toNat]?=some y) (y':α) {vs:List Value} (hsp:splice (cs y) j vs=cs y')
  (hv:j+vs.length<=n) {m:Nat} (hm:m=vs.length) {K:Nat->Nat->Heap->Prop} (hK:∀b o h',St h0 h' (L.set k (.sl s e n ((l.set x.toNat y').map cs)))->K b o h') :
  NB s.a fun b o=>(0<=x/\x<(s.n:Nat))/\(okAt h ⟨b,o+x.toNat*n+j,none⟩ m/\∀h',h'=hputs h ⟨b,o+x.toNat*n+j,none⟩ 0 vs->K b o h'):=by
 refine hs.nbput k hk hn (i:=x.toNat) (row:=cs y) (by rw[Yd,hy];rfl) j hv (fun b o h' h1=>hK b o h' ?_) hm ⟨hx0,hx1⟩;rw[hsp] at h1;rw[List.map_set];exact h1
theorem updT_get {T:List Ti} {n:Nat} {f:Ti->Ti} {t:Ti} (h:T[n]?=some t):updT T n f=T.set n (f t):=by unfold updT;rw[h]
def sndAt (L:List Ev) (i:Nat):Bool:=match L[i]? with | some x=>x.send | none=>false
def badV (F:Nat->List Ev) (en:Nat->Bool) (l:List Nat) (n:Nat):Bool:=sndAt (F n) 0&&(en n || !sndAt (F n) ((F n).length-1)||l.any fun k=>en k||decide (F n≠F k))
def stepV (F:Nat->List Ev) (en:Nat->Bool) (O:List Bool) (T:List Ti) (l:List Nat) (st:Option (Bool × Ti)) (n:Nat):Option (Bool × Ti):=
 match st with
 | none=>none
 | some (k,o)=>if badV F en l n then none else match O[n]?,T[n]? with
  | some true,some t=>if k&&decide (t≠o) then none else some (true,t)
  | _,_=>some (k,o)
def viewV (F:Nat->List Ev) (en:Nat->Bool) (O:List Bool) (T:List Ti) (l:List Nat):Option Ti:=(l.foldl (stepV F en O T l) (some (false,ti0))).map Prod.snd
theorem stepV_none (F:Nat->List Ev) (en:Nat->Bool) (O:List Bool) (T:List Ti) (l m:List Nat):m.foldl (stepV F en O T l) none=none:=by
 induction m with
 | nil=>rfl
 | cons a m ih=>rw[List.foldl_cons];exact ih
theorem viewV_none {F:Nat->List Ev} {en:Nat->Bool} {O:List Bool} {T:List Ti} {l:List Nat} {i:Nat} {b:Option (Bool × Ti)} {n:Nat} (hb:(l.take i).foldl (stepV F en O T l) (some (false,ti0))=b) (hn:l[i]?=some n) (h:stepV F en O T l b n=none):viewV F en O T l=none:=by
 unfold viewV;have e:l=l.take i++(n::l.drop (i+1)):=by
  have:=List.take_append_drop i l;obtain⟨h1,h2⟩:=Ya.1 hn;rw[List.drop_eq_getElem_cons h1,h2] at this;exact this.symm
 have e2:l.foldl (stepV F en O T l) (some (false,ti0))=none:=by
  have:∀m,m=l->m.foldl (stepV F en O T l) (some (false,ti0))=none:=by
   intro m hm;rw[hm.trans e,List.foldl_append,hb,List.foldl_cons,h,stepV_none]
  exact this l rfl
 rw[e2];rfl
theorem ti_eqb (x y:Ti):(((x.ag==y.ag)&&((x.k==y.k)&&(((x.x.send==y.x.send)&&((x.x.peer==y.x.peer)&&((x.x.label==y.x.label)&&true)))&&true))):Bool)=decide (x=y):=by
 obtain⟨a,k,⟨s,p,l⟩⟩:=x;obtain⟨a',k',⟨s',p',l'⟩⟩:=y;simp[Bool.beq_eq_decide_eq,<-Bool.decide_and]
theorem Rw.atI {α:Type} {h:Heap} {k:Nat} {s:Sl} {cs:α->List Value} {L:List α} (hr:Rw h k s (L.map cs)) {b o:Nat} (ha:s.a=some ⟨b,o,none⟩) {i:Nat} {y:α} (hi:L[i]?=some y):atC h ⟨b,o+i*k,none⟩ (cs y):=by
 obtain⟨b',o',ha',hall⟩:=hr.2 (by rw[Yc];have:=(Ya.1 hi).1;omega);rw[ha] at ha';cases ha';exact hall i (cs y) (by rw[Yd,hi];rfl)
theorem St.nbw {α:Type} {h0 h:Heap} {L:List It} (hs:St h0 h L) (k:Nat) {s:Sl} {e:TypeId} {n:Nat} {cs:α->List Value} {l:List α} (hk:L[k]?=some (.sl s e n (l.map cs))) (hn:0<n) {x:Int} (hx0:0<=x) (hx1:x<(s.n:Nat)) {F:Nat->Nat->Prop}
  (hF:∀b o y,l[x.toNat]?=some y->s.a=some ⟨b,o,none⟩->atC h ⟨b,o+x.toNat*n,none⟩ (cs y)->(∀(j:Nat) (y':α) (vs:List Value),splice (cs y) j vs=cs y'->j+vs.length<=n->∀ {m:Nat} (_:m=vs.length) {K:Heap->Prop},(∀h',St h0 h' (L.set k (.sl s e n ((l.set x.toNat y').map cs)))->K h') ->
   okAt h ⟨b,o+x.toNat*n+j,none⟩ m/\∀h',h'=hputs h ⟨b,o+x.toNat*n+j,none⟩ 0 vs->K h')->F b o):NB s.a fun b o=>(0<=x/\x<(s.n:Nat))/\F b o:=by
 have hr:=hs.rows k hk hn;have hl:=hr.ln;have hlt:x.toNat<l.length:=by omega
 have hg:l[x.toNat]?=some l[x.toNat]:=Yi hlt;refine hr.nb (i:=x.toNat) (row:=cs l[x.toNat]) (by rw[Yd,hg];rfl) fun b o ha hat=>⟨⟨hx0,hx1⟩,hF b o _ hg ha hat ?_⟩;intro j y' vs hsp hv m hm K hK;have h1:=hs.setf k hk hn hx0 hx1 j hg y' hsp hv hm (K:=fun _ _ h'=>K h') (fun _ _ h' h2=>hK h' h2);rw[ha,NB_some] at h1;exact h1.2
structure Mch where
 role:Int
 n:Int
 s:Int
 fin:List Bool
 mv:List Mv
 li:List To
def updR (n:Nat) (x:Ti) (y:Mv):Mv:=if y.f=n/\y.send=true then { y with ag:=x.ag } else y
def limC (n:Nat) (x:Ti) (q:Mv × Nat):Option To:=if q.1.f=n/\q.1.send=true/\x.k>0/\x.x=⟨true,q.1.peer,q.1.label⟩ then some ⟨n,x.k,q.2⟩ else none
def limR (n:Nat) (x:Ti) (M:List Mv):List To:=M.zipIdx.filterMap (limC n x)
def rawL (vw:List Nat->Option Ti):Nat->List PSet->List Mv->List To->Option (List Mv × List To)
 | _,[],M,L=>some (M,L)
 | n,p::S,M,L=>match vw (elems p) with
  | none=>none
  | some x=>rawL vw (n+1) S (M.map (updR n x)) (L++limR n x M)
theorem updR_same (n:Nat) (x:Ti) (y:Mv):(updR n x y).f=y.f/\(updR n x y).send=y.send/\(updR n x y).peer=y.peer/\(updR n x y).label=y.label/\(updR n x y).t=y.t:=by
 unfold updR;split<;>exact⟨rfl,rfl,rfl,rfl,rfl⟩
theorem limR_len (n:Nat) (x:Ti) (M:List Mv):(limR n x M).length<=M.length:=by
 unfold limR;refine Yys (List.length_filterMap_le _ _) ?_;rw[List.length_zipIdx];exact Yyt _
theorem zip_snoc {α:Type} {l:List α} {i:Nat} {x:α} (h:l[i]?=some x):(l.take (i+1)).zipIdx=(l.take i).zipIdx++[(x,i)]:=by
 rw[take_snoc h,List.zipIdx_append,Yu,Nat.min_eq_left (Nat.le_of_lt (Ya.1 h).1)];simp
theorem set_split {α:Type} {i:Nat} {x y:α} (f:α->α) {M:List α} (h:M[i]?=some x) (hy:f x=y):((M.take i).map f++M.drop i).set i y=(M.take (i+1)).map f++M.drop (i+1):=by
 obtain⟨h1,h2⟩:=Ya.1 h;have hl:((M.take i).map f).length=i:=by rw[Yc,Yu];omega
 rw[take_snoc h,Ym,List.drop_eq_getElem_cons h1,List.set_append_right _ _ (by omega),hl,Nat.sub_self,List.set_cons_zero,Yz,<-hy];rfl
theorem get_split {α:Type} {i:Nat} {f:α->α} {M:List α}:((M.take i).map f++M.drop i)[i]?=M[i]?:=by
 by_cases hi:i<=M.length
 .have hl:((M.take i).map f).length=i:=by rw[Yc,Yu];omega
  rw[Yyc (by omega),hl,Nat.sub_self,List.getElem?_drop,Nat.add_zero]
 .rw[Yl (by rw[Yh,Yc,Yu,List.length_drop];omega),Yl (by omega)]
end Go.VC
end

section
namespace Go.VC
def dedF {K:Type} [DecidableEq K] (l:List K):List K:=l.foldl (fun a k=>if k∈a then a else a++[k]) []
def idxF {K:Type} [DecidableEq K]:List K->K->Nat
 | [],_=>0
 | x::r,k=>if x=k then 0 else idxF r k+1
def canonL {K:Type} [DecidableEq K] (l:List K):List Nat:=l.map (idxF (dedF l))
section
variable {K K':Type} [DecidableEq K] [DecidableEq K']
theorem dedF_snoc (l:List K) (k:K):dedF (l++[k])=if k∈dedF l then dedF l else dedF l++[k]:=by unfold dedF;rw[List.foldl_append];rfl
theorem dedF_take {l:List K} {i:Nat} {k:K} (h:l[i]?=some k):dedF (l.take (i+1))=if k∈dedF (l.take i) then dedF (l.take i) else dedF (l.take i)++[k]:=by rw[take_snoc h,dedF_snoc]
theorem dedF_mem (l:List K) (k:K):k∈dedF l ↔ k∈l:=by
 suffices h:∀(m a:List K),k∈m.foldl (fun a k=>if k∈a then a else a++[k]) a ↔ k∈a\/k∈m by have:=h l [];simpa [dedF] using this
 intro m
 induction m with
 | nil=>intro a;simp
 | cons x r ih=>
  intro a;rw[List.foldl_cons,ih];split
  .rename_i hx;rw[Yr];constructor
   .rintro (h | h)
    .exact .inl h
    .exact .inr (.inr h)
   .rintro (h | rfl | h)
    .exact .inl h
    .exact .inl hx
    .exact .inr h
  .rw[Yk,Ye,Yr];constructor
   .rintro ((h | h) | h)
    .exact .inl h
    .exact .inr (.inl h)
    .exact .inr (.inr h)
   .rintro (h | h | h)
    .exact .inl (.inl h)
    .exact .inl (.inr h)
    .exact .inr h
theorem idxF_mem {l:List K} {k:K} (h:k∈l) (m:List K):idxF (l++m) k=idxF l k:=by
 induction l with
 | nil=>cases h
 | cons x r ih=>
  rw[List.cons_append,idxF,idxF];split
  .rfl
  .rename_i hx;rw[ih (by rcases Yr.1 h with h | h;exact absurd h.symm hx;exact h)]
theorem idxF_not {l:List K} {k:K} (h:k∉l):idxF l k=l.length:=by
 induction l with
 | nil=>rfl
 | cons x r ih=>
  rw[Yr,not_or] at h;rw[idxF,if_neg (fun e=>h.1 e.symm),ih h.2,Yyj]
theorem idxF_lt {l:List K} {k:K} (h:k∈l):idxF l k<l.length:=by
 induction l with
 | nil=>cases h
 | cons x r ih=>
  rw[idxF,Yyj];split
  .omega
  .rename_i hx;have:=ih (by rcases Yr.1 h with h | h;exact absurd h.symm hx;exact h);omega
theorem idxF_inj {l:List K} {a b:K} (ha:a∈l) (h:idxF l a=idxF l b):a=b:=by
 induction l with
 | nil=>cases ha
 | cons x r ih=>
  rw[idxF,idxF] at h;split at h<;>split at h
  .rename_i h1 h2;rw[<-h1,<-h2]
  .omega
  .omega
  .rename_i h1 _;exact ih (by rcases Yr.1 ha with h | h;exact absurd h.symm h1;exact h) (by omega)
theorem canon_pat {l:List K} {l':List K'} (hl:l.length=l'.length) (hp:∀(i j:Nat) (a b:K) (a' b':K'),l[i]?=some a->l[j]?=some b->l'[i]?=some a'->l'[j]?=some b'->(a=b ↔ a'=b')) :
  ∀n,n<=l.length->(dedF (l.take n)).length=(dedF (l'.take n)).length/\∀(j:Nat) (a:K) (a':K'),j<n->l[j]?=some a->l'[j]?=some a'->idxF (dedF (l.take n)) a=idxF (dedF (l'.take n)) a'
 | 0,_=>⟨rfl,fun j _ _ hj=>by omega⟩
 | n+1,hn=>by
  obtain⟨h1,h2⟩:=canon_pat hl hp n (by omega);obtain⟨x,hx⟩:=get_some (l:=l) (i:=n) (by omega);obtain⟨x',hx'⟩:=get_some (l:=l') (i:=n) (by omega);have hmem:x∈dedF (l.take n) ↔ x'∈dedF (l'.take n):=by
   rw[dedF_mem,dedF_mem];constructor
   .intro h;obtain⟨j,hj⟩:=Yf.1 h;have hjn:j<n:=by have:=(Ya.1 hj).1;rw[Yu] at this;omega
    rw[Yyf,if_pos hjn] at hj;obtain⟨y',hy'⟩:=get_some (l:=l') (i:=j) (by omega);have:=(hp j n x x y' x' hj hx hy' hx').1 rfl;subst this;exact Yb (i:=j) (by rw[Yyf,if_pos hjn];exact hy')
   .intro h;obtain⟨j,hj⟩:=Yf.1 h;have hjn:j<n:=by have:=(Ya.1 hj).1;rw[Yu] at this;omega
    rw[Yyf,if_pos hjn] at hj;obtain⟨y,hy⟩:=get_some (l:=l) (i:=j) (by omega);have:=(hp j n y x x' x' hy hx hj hx').2 rfl;subst this;exact Yb (i:=j) (by rw[Yyf,if_pos hjn];exact hy)
  rw[dedF_take hx,dedF_take hx'];by_cases hm:x∈dedF (l.take n)
  .rw[if_pos hm,if_pos (hmem.1 hm)];refine⟨h1,fun j a a' hj ha ha'=>?_⟩;by_cases e:j=n
   .subst e;rw[hx] at ha;cases ha;rw[hx'] at ha';cases ha';obtain⟨i,hi⟩:=Yf.1 ((dedF_mem _ _).1 hm);have hin:i<j:=by have:=(Ya.1 hi).1;rw[Yu] at this;omega
    rw[Yyf,if_pos hin] at hi;obtain⟨y',hy'⟩:=get_some (l:=l') (i:=i) (by omega);have:=(hp i j x x y' x' hi hx hy' hx').1 rfl;rw[h2 i x y' hin hi hy',this]
   .exact h2 j a a' (by omega) ha ha'
  .rw[if_neg hm,if_neg (fun h=>hm (hmem.2 h))];refine⟨by rw[Yh,Yh,h1];rfl,fun j a a' hj ha ha'=>?_⟩;by_cases e:j=n
   .subst e;rw[hx] at ha;cases ha;rw[hx'] at ha';cases ha';have key:∀ {K:Type} [DecidableEq K] {l:List K} {k:K},k∉l->idxF (l++[k]) k=l.length:=by
     intro K _ l k h
     induction l with
     | nil=>rw[List.nil_append,idxF,if_pos rfl];rfl
     | cons x r ih=>
      rw[Yr,not_or] at h;rw[List.cons_append,idxF,if_neg (fun e=>h.1 e.symm),ih h.2,Yyj]
    rw[key hm,key (fun h=>hm (hmem.2 h)),h1]
   .have hmj:∀ {K:Type} [DecidableEq K] {l:List K} {a:K},l[j]?=some a->a∈dedF (l.take n):=fun h=>(dedF_mem _ _).2 (Yb (i:=j) (by rw[Yyf,if_pos (by omega)];exact h));rw[idxF_mem (hmj ha),idxF_mem (hmj ha')];exact h2 j a a' (by omega) ha ha'
theorem canon_eq {l:List K} {l':List K'} (hl:l.length=l'.length) (hp:∀(i j:Nat) (a b:K) (a' b':K'),l[i]?=some a->l[j]?=some b->l'[i]?=some a'->l'[j]?=some b'->(a=b ↔ a'=b')):canonL l=canonL l'/\(dedF l).length=(dedF l').length:=by
 have h:=canon_pat hl hp l.length (Yyt _);rw[Yye,hl,Yye] at h;refine⟨?_,h.1⟩;apply Yyr;intro j;unfold canonL;rw[Yd,Yd];by_cases hj:j<l.length
 .obtain⟨a,ha⟩:=get_some (l:=l) (i:=j) hj;obtain⟨a',ha'⟩:=get_some (l:=l') (i:=j) (by omega);rw[ha,ha',Option.map_some,Option.map_some,h.2 j a a' (by omega) ha ha']
 .rw[Yl (by omega),Yl (by omega)];rfl
theorem canonL_len (l:List K):(canonL l).length=l.length:=Yc _
theorem canonL_get {l:List K} {i:Nat} {k:K} (h:l[i]?=some k):(canonL l)[i]?=some (idxF (dedF l) k):=by unfold canonL;rw[Yd,h];rfl
theorem canonL_lt {l:List K} {c:Nat} (h:c∈canonL l):c<(dedF l).length:=by
 obtain⟨k,hk,rfl⟩:=Yp.1 h;exact idxF_lt ((dedF_mem _ _).2 hk)
theorem canonL_eq {l:List K} {i j:Nat} {a b:K} (ha:l[i]?=some a) (hb:l[j]?=some b):(canonL l)[i]?=(canonL l)[j]? ↔ a=b:=by
 rw[canonL_get ha,canonL_get hb];constructor
 .intro h;exact idxF_inj ((dedF_mem _ _).2 (Yb ha)) (Yyp h)
 .intro h;rw[h]
theorem dedF_canon (l:List K):(dedF (canonL l)).length=(dedF l).length:=by
 refine (canon_eq (canonL_len l) fun i j a b a' b' h1 h2 h3 h4=>?_).2;have:=canonL_eq h3 h4;rw[h1,h2] at this;rw[<-this];exact⟨fun h=>by rw[h],fun h=>Yyp h⟩
theorem dedF_map_le (f:K->K') (l:List K):(dedF (l.map f)).length<=(dedF l).length:=by
 have key:∀n,n<=l.length->(dedF ((l.map f).take n)).length<=(dedF (l.take n)).length:=by
  intro n
  induction n with
  | zero=>intro _;exact Yyt _
  | succ n ih=>
   intro hn;obtain⟨x,hx⟩:=get_some (l:=l) (i:=n) (by omega);rw[dedF_take hx,dedF_take (l:=l.map f) (k:=f x) (by rw[Yd,hx];rfl)];have:=ih (by omega);by_cases hm:x∈dedF (l.take n)
   .have:f x∈dedF ((l.map f).take n):=by
     rw[dedF_mem,<-List.map_take];exact Yp.2 ⟨x,(dedF_mem _ _).1 hm,rfl⟩
    rw[if_pos hm,if_pos this];omega
   .rw[if_neg hm,Yh];split
    .omega
    .rw[Yh];simp only[Yv];omega
 have:=key l.length (Yyt _)
 rwa [Yye,Yj (by rw[Yc];exact Yyt _)] at this
theorem dedF_len_le (l:List K):(dedF l).length<=l.length:=by
 have key:∀n,n<=l.length->(dedF (l.take n)).length<=n:=by
  intro n
  induction n with
  | zero=>intro _;exact Yyt _
  | succ n ih=>
   intro hn;obtain⟨x,hx⟩:=get_some (l:=l) (i:=n) (by omega);rw[dedF_take hx];have:=ih (by omega);split
   .omega
   .rw[Yh];simp only[Yv];omega
 have:=key l.length (Yyt _)
 rwa [Yye] at this
end
structure Sg where
 b:Int
 k:Int
 x:Ev
 ag:Bool
 num:Int
 deriving DecidableEq
def Sg.v (s:Sg):Value:=.agg ⟨[.int .i64 s.b,.int .i64 s.k,.bool s.x.send,.int .i64 s.x.peer,.int .i64 s.x.label,.bool s.ag,.int .i64 s.num]⟩
theorem Sg.v_inj (a b:Sg) (h:a.v=b.v):a=b:=by
 obtain⟨a1,a2,⟨a3,a4,a5⟩,a6,a7⟩:=a;obtain⟨b1,b2,⟨b3,b4,b5⟩,b6,b7⟩:=b;unfold Sg.v at h;simp at h;simp[h]
structure NOk (n:Int) (N:List (Sg × Int)):Prop where
 nd:(N.map Prod.fst).Nodup
 va:∀(j:Nat) (q:Sg × Int),N[j]?=some q->q.2=(j:Int)+n+2
theorem NOk.nil (n:Int):NOk n []:=⟨List.nodup_nil,fun j q h=>by simp at h⟩
theorem NOk.push {n:Int} {N:List (Sg × Int)} (h:NOk n N) {s:Sg} (hs:∀q∈N,q.1≠s):NOk n (N++[(s,(N.length:Int)+n+2)]):=by
 refine⟨?_,fun j q hq=>?_⟩
 .rw[Ym,List.nodup_append];refine⟨h.nd,by simp,fun a ha b hb=>?_⟩;simp only[Yyl,List.map_nil,Ye] at hb;subst hb;obtain⟨q,hq,rfl⟩:=Yp.1 ha;exact hs q hq
 .by_cases hj:j<N.length
  .rw[Yyi hj] at hq;exact h.va j q hq
  .have hjl:=(Ya.1 hq).1;rw[Yh,Yv] at hjl;have:j=N.length:=by omega
   subst this;rw[Yyc (Yyt _),Nat.sub_self] at hq;cases hq;rfl
theorem NOk.keyv {n:Int} {N:List (Sg × Int)} (h:NOk n N) {s s':Sg} {v:Int} (h1:(s,v)∈N) (h2:(s',v)∈N):s=s':=by
 obtain⟨i,hi⟩:=Yf.1 h1;obtain⟨j,hj⟩:=Yf.1 h2;have e1:=h.va i _ hi;have e2:=h.va j _ hj;have:i=j:=by simp only at e1 e2;omega
 subst this;rw[hi] at hj;cases hj;rfl
theorem NOk.val {n:Int} {N:List (Sg × Int)} (h:NOk n N) {s:Sg} {v v':Int} (h1:(s,v)∈N) (h2:(s,v')∈N):v=v':=by
 obtain⟨i,hi⟩:=Yf.1 h1;obtain⟨j,hj⟩:=Yf.1 h2;have hi':(N.map Prod.fst)[i]?=some s:=by rw[Yd,hi];rfl
 have hj':(N.map Prod.fst)[j]?=some s:=by rw[Yd,hj];rfl
 have:i=j:=(List.getElem?_inj (Ya.1 hi').1 h.nd).1 (hi'.trans hj'.symm);subst this;rw[hi] at hj;cases hj;rfl
inductive HsN (N:List (Sg × Int)):Int->List Sg->Prop
 | base {s:Sg} {v:Int} (hm:(s,v)∈N) (hk:s.k=0):HsN N v [s]
 | step {s:Sg} {v:Int} {l:List Sg} (hm:(s,v)∈N) (hk:s.k≠0) (hh:HsN N s.b l):HsN N v ({ s with b:=0 }::l)
theorem HsN.mono {N N':List (Sg × Int)} (hsub:∀q∈N,q∈N') {v:Int} {l:List Sg} (h:HsN N v l):HsN N' v l:=by
 induction h with
 | base hm hk=>exact .base (hsub _ hm) hk
 | step hm hk _ ih=>exact .step (hsub _ hm) hk ih
theorem HsN.ne {N:List (Sg × Int)} {v:Int} (h:HsN N v []):False:=by cases h
theorem HsN.inj {n:Int} {N:List (Sg × Int)} (hN:NOk n N):∀ {l:List Sg} {v v':Int},HsN N v l->HsN N v' l->v=v'
 | [],_,_,h,_=>h.ne.elim
 | a::l,v,v',h,h'=>by
  cases h with
  | base hm hk=>
   cases h' with
   | base hm' hk'=>exact hN.val hm hm'
   | @step s' _ _ hm' hk' hh=>exact hh.ne.elim
  | @step s _ _ hm hk hh=>
   generalize hq:({ s with b:=0 }:Sg)=q at h';cases h' with
   | base hm' hk'=>exact hh.ne.elim
   | @step s' _ _ hm' hk' hh'=>
    have hb:=HsN.inj hN hh hh';have:s=s':=by
     obtain⟨a1,a2,a3,a4,a5⟩:=s;obtain⟨b1,b2,b3,b4,b5⟩:=s';simp only[Sg.mk.injEq] at hq ⊢;exact⟨hb,hq.2⟩
    subst this;exact hN.val hm hm'
theorem HsN.func {n:Int} {N:List (Sg × Int)} (hN:NOk n N) {v:Int} {l l':List Sg} (h:HsN N v l):HsN N v l'->l=l':=by
 intro h'
 induction h generalizing l' with
 | base hm hk=>
  cases h' with
  | base hm' hk'=>rw[hN.keyv hm hm']
  | step hm' hk' hh=>have:=hN.keyv hm hm';subst this;exact absurd hk hk'
 | step hm hk hh ih=>
  cases h' with
  | base hm' hk'=>have:=hN.keyv hm hm';subst this;exact absurd hk' hk
  | step hm' hk' hh'=>have:=hN.keyv hm hm';subst this;rw[ih hh']
def nextF (n:Int) (N:List (Sg × Int)) (s:Sg):Int × List (Sg × Int):=match mget N s with
 | some v=>(v,N)
 | none=>((N.length:Int)+n+2,N++[(s,(N.length:Int)+n+2)])
theorem mget_mem {α β:Type} [DecidableEq α] {a:α} {y:β}:∀ {l:List (α × β)},mget l a=some y->(a,y)∈l
 | [],h=>by cases h
 | (x,z)::r,h=>by
  rw[mget] at h;split at h
  .rename_i e;cases h;subst e;simp
  .exact Yn _ (mget_mem h)
theorem mget_not {α β:Type} [DecidableEq α] {a:α}:∀ {l:List (α × β)},mget l a=none->∀q∈l,q.1≠a
 | [],_,q,hq=>by cases hq
 | (x,z)::r,h,q,hq=>by
  rw[mget] at h;split at h
  .cases h
  .rename_i e;rcases Yr.1 hq with rfl | hq
   .exact e
   .exact mget_not h q hq
theorem nextF_spec {n:Int} {N:List (Sg × Int)} (hN:NOk n N) (s:Sg):NOk n (nextF n N s).2/\(∀q∈N,q∈(nextF n N s).2)/\(s,(nextF n N s).1)∈(nextF n N s).2/\(nextF n N s).2.length<=N.length+1/\∀q∈(nextF n N s).2,q∈N\/q.1=s:=by
 unfold nextF;cases h:mget N s with
 | some v=>exact⟨hN,fun q hq=>hq,mget_mem h,by simp,fun q hq=>.inl hq⟩
 | none=>
  refine⟨hN.push (mget_not h),fun q hq=>Yk.2 (.inl hq),Yk.2 (.inr (by simp)),by simp,fun q hq=>?_⟩;rcases Yk.1 hq with hq | hq
  .exact .inl hq
  .rw[Ye] at hq;subst hq;exact .inr rfl
theorem NOk.bound {n:Int} {N:List (Sg × Int)} (h:NOk n N) {s:Sg} {v:Int} (hm:(s,v)∈N):n+2<=v/\v<(N.length:Int)+n+2:=by
 obtain⟨j,hj⟩:=Yf.1 hm;have:=h.va j _ hj;have:=(Ya.1 hj).1;simp only at *;omega
def ev0:Ev:=⟨false,0,0⟩
def Mv.ev (x:Mv):Ev:=⟨x.send,x.peer,x.label⟩
def sgB (C:List Nat) (fin:List Bool) (s:Nat):Sg:=⟨(C.getD s 0:Nat),0,ev0,fin.getD s false,0⟩
def sgL (mv:List Mv) (t:To):Sg:=⟨0,1,match mv[t.e.toNat]? with | some x=>x.ev | none=>ev0,false,t.k⟩
def sgM (C:List Nat) (x:Mv):Sg:=⟨0,2,x.ev,x.ag,(C.getD x.t.toNat 0:Nat)⟩
def keyH (m:Mch) (C:List Nat) (li:List To) (mv:List Mv) (s:Nat):List Sg:=
 ((mv.filter fun x=>x.f=(s:Int)).map (sgM C)).reverse++(((li.filter fun t=>t.s=(s:Int)).map (sgL m.mv)).reverse++[sgB C m.fin s])
def keyS (m:Mch) (C:List Nat) (s:Nat):List Sg:=keyH m C m.li m.mv s
theorem keyH_li {m:Mch} {C:List Nat} {li:List To} {j:Nat} {t:To} (h:li[j]?=some t) (s:Nat):keyH m C (li.take (j+1)) [] s=if t.s=(s:Int) then sgL m.mv t::keyH m C (li.take j) [] s else keyH m C (li.take j) [] s:=by
 unfold keyH;rw[take_snoc h,List.filter_append];by_cases e:t.s=(s:Int)
 .rw[if_pos e,List.filter_cons_of_pos (by simpa using e)];simp
 .rw[if_neg e,List.filter_cons_of_neg (by simpa using e)];simp
theorem keyH_mv {m:Mch} {C:List Nat} {li:List To} {mv:List Mv} {j:Nat} {x:Mv} (h:mv[j]?=some x) (s:Nat):keyH m C li (mv.take (j+1)) s=if x.f=(s:Int) then sgM C x::keyH m C li (mv.take j) s else keyH m C li (mv.take j) s:=by
 unfold keyH;rw[take_snoc h,List.filter_append];by_cases e:x.f=(s:Int)
 .rw[if_pos e,List.filter_cons_of_pos (by simpa using e)];simp
 .rw[if_neg e,List.filter_cons_of_neg (by simpa using e)];simp
def clsK (m:Mch) (C:List Nat):List (List Sg):=(List.range m.n.toNat).map (keyS m C)
def clsN (m:Mch):Nat->List Nat->Nat->List Nat × Nat
 | 0,C,c=>(C,c)
 | f+1,C,c=>if (dedF (clsK m C)).length=c then (canonL (clsK m C),c) else clsN m f (canonL (clsK m C)) (dedF (clsK m C)).length
def cls (m:Mch):List Nat × Nat:=clsN m 202 (List.replicate m.n.toNat 0) 0
theorem clsK_len (m:Mch) (C:List Nat):(clsK m C).length=m.n.toNat:=by unfold clsK;rw[Yc,Yyd]
theorem clsK_ge {m:Mch} {C:List Nat} (hC:C.length=m.n.toNat):(dedF C).length<=(dedF (clsK m C)).length:=by
 have e:C=(clsK m C).map fun k=>match k.getLast? with | some s=>s.b.toNat | none=>0:=by
  apply Yyr;intro i;unfold clsK;rw[List.map_map,Yd];by_cases hi:i<m.n.toNat
  .rw[Yyb hi];obtain⟨c,hc⟩:=get_some (l:=C) (i:=i) (by omega);rw[hc];show _=some (match (keyS m C i).getLast? with | some s=>s.b.toNat | none=>0);have:(keyS m C i).getLast?=some (sgB C m.fin i):=by
    unfold keyS keyH;rw[<-Yz,List.getLast?_append];rfl
   rw[this];unfold sgB;simp[Yo,hc]
  .rw[Yl (by omega),Yl (by rw[Yyd];omega)];rfl
 have:=dedF_map_le (fun k:List Sg=>match k.getLast? with | some s=>s.b.toNat | none=>0) (clsK m C)
 rwa [<-e] at this
theorem dedF_nodup {K:Type} [DecidableEq K] (l:List K):(dedF l).Nodup:=by
 suffices h:∀(m a:List K),a.Nodup->(m.foldl (fun a k=>if k∈a then a else a++[k]) a).Nodup from h l [] List.nodup_nil
 intro m
 induction m with
 | nil=>intro a h;exact h
 | cons x r ih=>
  intro a h;rw[List.foldl_cons];refine ih _ ?_;split
  .exact h
  .rename_i hx;rw[List.nodup_append];exact⟨h,by simp,fun a ha b hb=>by rw[Ye] at hb;subst hb;exact fun e=>hx (e ▸ ha)⟩
def zipI {K:Type} (D:List K) (k:Nat):List (K × Int):=(D.zipIdx k).map fun q=>(q.1,(q.2:Int))
theorem zipI_fst {K:Type} (D:List K) (k:Nat):(zipI D k).map Prod.fst=D:=by
 unfold zipI;rw[List.map_map];exact List.zipIdx_map_fst k D
theorem zipI_snoc {K:Type} (D:List K) (a:K):zipI (D++[a]) 0=zipI D 0++[(a,(D.length:Int))]:=by
 unfold zipI;rw[List.zipIdx_append,Ym];simp
theorem zipI_len {K:Type} (D:List K) (k:Nat):(zipI D k).length=D.length:=by unfold zipI;rw[Yc,List.length_zipIdx]
theorem mget_zipI {K:Type} [DecidableEq K] (a:K):∀(D:List K) (k:Nat),mget (zipI D k) a=if a∈D then some ((idxF D a:Int)+k) else none
 | [],k=>rfl
 | x::r,k=>by
  have e:zipI (x::r) k=(x,(k:Int))::zipI r (k+1):=rfl;rw[e,mget,idxF];by_cases h:x=a
  .rw[if_pos h,if_pos (by simp[h]),if_pos h];simp
  .rw[if_neg h,mget_zipI a r (k+1),if_neg h];by_cases hm:a∈r
   .rw[if_pos hm,if_pos (Yn _ hm)];congr 1;omega
   .rw[if_neg hm,if_neg (fun hc=>by rcases Yr.1 hc with hc | hc;exact h hc.symm;exact hm hc)]
structure MOk (m:Mch):Prop where
 n:1<=m.n/\m.n<=200
 s:0<=m.s/\m.s<m.n
 fl:m.fin.length=m.n.toNat
 ml:m.mv.length<=400
 ll:m.li.length<=80000
 mv:∀x∈m.mv,0<=x.f/\x.f<m.n/\0<=x.t/\x.t<m.n/\(-9223372036854775808<=x.peer/\x.peer<=9223372036854775807)/\(-9223372036854775808<=x.label/\x.label<=9223372036854775807)
 li:∀t∈m.li,0<=t.s/\t.s<m.n/\0<=t.e/\t.e<m.mv.length/\(-9223372036854775808<=t.k/\t.k<=9223372036854775807)
def mvLt (a b:Mv):Prop:=a.f<b.f\/(a.f=b.f/\evLt a.ev b.ev)
theorem mvLt_irr (a:Mv):¬mvLt a a:=by
 rintro (h | ⟨_,h⟩)
 .omega
 .exact evLt_irr _ h
theorem mvLt_trans {a b c:Mv} (h1:mvLt a b) (h2:mvLt b c):mvLt a c:=by
 rcases h1 with h1 | ⟨h1,h1'⟩<;>rcases h2 with h2 | ⟨h2,h2'⟩
 .exact .inl (by omega)
 .exact .inl (by omega)
 .exact .inl (by omega)
 .exact .inr ⟨by omega,evLt_trans h1' h2'⟩
theorem mvSorted_same:∀ {l l':List Mv},l'.Perm l->l.Pairwise mvLt->l'.Pairwise (fun a b=>¬mvLt b a)->l'=l
 | [],l',hp,_,_=>List.perm_nil.1 hp
 | a::l,[],hp,_,_=>by have:=hp.length_eq;simp at this
 | a::l,b::l',hp,hs,hs'=>by
  rw[List.pairwise_cons] at hs hs';have hb:b=a:=by
   have hbm:b∈a::l:=hp.subset (Yx ..);have ham:a∈b::l':=hp.symm.subset (Yx ..);rcases Yr.1 hbm with h | h
   .exact h
   .rcases Yr.1 ham with h' | h'
    .exact h'.symm
    .exact absurd (hs.1 b h) (hs'.1 a h')
  subst hb;rw[mvSorted_same ((List.perm_cons b).1 hp) hs.2 hs'.2]
end Go.VC
end

section
namespace Go.VC
open Go.Proofs Go.LexS
def sideM (x:Mv):Int:=if x.send then 0 else 1
def cmpM (x y:Mv):Int:=orI3 (cmpI x.f y.f) (orI3 (cmpI (sideM x) (sideM y)) (orI3 (cmpI x.peer y.peer) (cmpI x.label y.label)))
theorem cmpM_neg {x y:Mv}:cmpM x y<0 ↔ mvLt x y:=by
 unfold cmpM mvLt evLt orI3 cmpI sideM Mv.ev;obtain⟨f,s,p,l,t,a⟩:=x;obtain⟨f',s',p',l',t',a'⟩:=y;cases s<;>cases s'<;>simp<;>(repeat' split)<;>omega
namespace M
theorem inrows (L:List Int):∀r∈L.map inC,r.length=1:=fun r hr=>by obtain⟨x,_,rfl⟩:=Yp.1 hr;rfl
end M
variable [Mono]
namespace M
theorem nan151 (x:Int) (h:Heap):Fn Pz 198 #[.int .i64 x] h fun v h'=>v=.bool false/\h'=h:=by
 apply vc198;unfold W198;exact⟨by rw[bne_self_eq_false],rfl⟩
theorem cmp110 (x y:Int) (h:Heap):Fn Pz 163 #[.int .i64 x,.int .i64 y] h fun v h'=>v=.int .i64 (cmpI x y)/\h'=h:=by
 apply vc163;unfold W163;refine (nan151 x h).mono ?_;rintro _ _ ⟨rfl,rfl⟩;refine⟨_,rfl,?_⟩;refine (nan151 y _).mono ?_;rintro _ _ ⟨rfl,rfl⟩;refine⟨_,rfl,?_⟩;refine sB_f rfl (sB_f rfl ?_);unfold cmpI;refine sBi (fun c=>?_) (fun c=>sBi (fun d=>?_) (fun d=>?_))
 .exact⟨by rw[if_pos c],rfl⟩
 .exact⟨by rw[if_neg c,if_pos d],rfl⟩
 .exact⟨by rw[if_neg c,if_neg d],rfl⟩
theorem or109 (l:List Int) (s:Sl) (h:Heap) (hr:Rw h 1 s (l.map inC)) (hm:l.length<=1048576) :
  Fn Pz 162 #[.slice s.a s.n s.c] h fun v h'=>v=.int .i64 (l.foldr orI3 0)/\h'=h:=by
 apply vc162;unfold W162;have hn:=hr.ln;refine up_loop (n:=s.n) (fun i h'=>h'=h/\l.foldr orI3 0=(l.drop i).foldr orI3 0) ⟨rfl,rfl⟩ ?_;rintro-i h5 hi ⟨rfl,hq⟩;refine sB_intro (fun l2=>?_) (fun l2=>?_)
 .replace l2:=lt_t l2;refine hr.nbI (by omega) (by omega) fun b o d g t=>?_;replace g:l[i]?=some d:=g;have hd:l.drop i=d::l.drop (i+1):=by
   obtain⟨hl,he⟩:=Ya.1 g;rw[List.drop_eq_getElem_cons hl,he]
  rw[hd,List.foldr_cons] at hq;refine⟨_,t.hd,?_⟩;refine sBn (fun c=>?_) (fun c=>?_)
  .refine⟨?_,rfl⟩;rw[hq];unfold orI3;rw[if_pos c]
  .refine Up.next l2 (by omega) ⟨rfl,?_⟩;rw[hq];unfold orI3;rw[if_neg (by omega)]
 .replace l2:=lt_f l2;rw[List.drop_eq_nil_of_le (by omega)] at hq;exact⟨by rw[hq];rfl,rfl⟩
theorem compare138 (x y:Ev) (h:Heap):Fn Pz 256 #[.agg ⟨x.cs⟩,.agg ⟨y.cs⟩] h fun v h'=>v=.int .i64 (cmpE x y)/\Ext h h':=by
 apply vc256 x.send x.peer x.label y.send y.peer y.label;unfold W256;have hs:=St.refl h;refine hs.newb fun h7 hs=>?_;refine hs.newb fun h8 hs=>?_;refine⟨_,hs.rd 1 rfl rfl,?_⟩;refine⟨_,hs.rd 0 rfl rfl,?_⟩;refine sB_intro (fun c=>?_) (fun c=>?_)
 .have hne:x.send≠y.send:=by simpa using c
  refine⟨_,hs.rd 1 rfl rfl,?_⟩;unfold cmpE;rw[if_pos hne];refine sB_intro (fun d=>?_) (fun d=>?_)
  .exact⟨by rw[if_pos d],hs.ext⟩
  .exact⟨by rw[if_neg (by rw[d];simp)],hs.ext⟩
 .have he:x.send=y.send:=by simpa using c
  refine⟨_,hs.rd 1 rfl rfl,_,hs.rd 0 rfl rfl,_,hs.rd 1 rfl rfl,_,hs.rd 0 rfl rfl,?_⟩;refine (cmp110 _ _ _).mono ?_;rintro _ _ ⟨rfl,rfl⟩;refine⟨_,rfl,fun _ _ _ _ hv=>hv,?_⟩;refine (cmp110 _ _ _).mono ?_;rintro _ _ ⟨rfl,rfl⟩;refine⟨_,rfl,fun _ _ _ _ hv=>hv,?_⟩;refine hs.newb fun h22 hs=>?_;have hs2:=hs.blkS 2 1 ([cmpI x.peer y.peer,cmpI x.label y.label].map inC) rfl (inrows _) rfl (by decide);refine (or109 [cmpI x.peer y.peer,cmpI x.label y.label] _ h22 (hs2.rows 0 rfl (by omega)) (show 2<=1048576 by decide)).mono ?_;rintro _ _ ⟨rfl,rfl⟩;refine⟨_,rfl,?_,hs.ext⟩;unfold cmpE;rw[if_neg (by simpa using he)];show Value.int .i64 (orI3 _ (orI3 _ 0))=_;congr 1;unfold orI3;split
  .rfl
  .split<;>omega
theorem side129 (x:Mv) (h:Heap):Fn Pz 227 #[.agg ⟨x.cs⟩] h fun v h'=>v=.int .i64 (sideM x)/\Ext h h':=by
 apply vc227 x.f x.send x.peer x.label x.t x.ag;unfold W227;have hs:=St.refl h;refine hs.newb fun h7 hs=>?_;refine⟨_,hs.rd 0 rfl rfl,?_⟩;unfold sideM;refine sB_intro (fun c=>?_) (fun c=>?_)
 .exact⟨by rw[if_pos c],hs.ext⟩
 .exact⟨by rw[if_neg (by rw[c];simp)],hs.ext⟩
theorem Sm_ext {al:List Addr} {h h':Heap} (E:Ext h h'):Sm al h h':=fun _ _ _ _ hv=>hc_ext E hv
theorem order73 (x y:Mv) (h:Heap):Fn Pz 180 #[.agg ⟨x.cs⟩,.agg ⟨y.cs⟩] h fun v h'=>v=.int .i64 (cmpM x y)/\Ext h h':=by
 apply vc180 x.f x.send x.peer x.label x.t x.ag y.f y.send y.peer y.label y.t y.ag;unfold W180;have hs:=St.refl h;refine hs.newb fun h13 hs=>?_;refine hs.newb fun h14 hs=>?_;refine⟨_,hs.rd 1 rfl rfl,_,hs.rd 0 rfl rfl,_,_,_,_,_,_,hs.at 1 rfl (o:=0) (n:=6) rfl,_,_,_,_,_,_,hs.at 0 rfl (o:=0) (n:=6) rfl,_,hs.rd 1 rfl rfl,_,hs.rd 0 rfl rfl,_,hs.rd 1 rfl rfl,_,hs.rd 0 rfl rfl,?_⟩;refine (cmp110 _ _ _).mono ?_;rintro _ _ ⟨rfl,rfl⟩;refine⟨_,rfl,fun _ _ _ _ hv=>hv,?_⟩;refine (side129 x _).mono ?_;rintro _ h38 ⟨rfl,E1⟩;refine⟨_,rfl,Sm_ext E1,?_⟩;have hs:=hs.step E1;refine (side129 y _).mono ?_;rintro _ h41 ⟨rfl,E2⟩;refine⟨_,rfl,Sm_ext E2,?_⟩;have hs:=hs.step E2;refine (cmp110 _ _ _).mono ?_;rintro _ _ ⟨rfl,rfl⟩;refine⟨_,rfl,fun _ _ _ _ hv=>hv,?_⟩;refine (cmp110 _ _ _).mono ?_;rintro _ _ ⟨rfl,rfl⟩;refine⟨_,rfl,fun _ _ _ _ hv=>hv,?_⟩;refine (cmp110 _ _ _).mono ?_;rintro _ _ ⟨rfl,rfl⟩;refine⟨_,rfl,fun _ _ _ _ hv=>hv,?_⟩;refine hs.newb fun h51 hs=>?_;have hs2:=hs.blkS 4 1 ([cmpI x.f y.f,cmpI (sideM x) (sideM y),cmpI x.peer y.peer,cmpI x.label y.label].map inC) rfl (inrows _) rfl (by decide);refine (or109 [cmpI x.f y.f,cmpI (sideM x) (sideM y),cmpI x.peer y.peer,cmpI x.label y.label] _ h51 (hs2.rows 0 rfl (by omega)) (show 4<=1048576 by decide)).mono ?_;rintro _ _ ⟨rfl,rfl⟩;refine⟨_,rfl,?_,hs.ext⟩;unfold cmpM;show Value.int .i64 (orI3 _ (orI3 _ (orI3 _ (orI3 _ 0))))=_;congr 3;unfold orI3;split
 .rfl
 .omega
end M
end Go.VC
end

section
namespace Go.VC
open Go.Proofs Go.LexS
variable [Mono]
namespace M
theorem of63 (x:Mv) (h:Heap):Fn Pz 230 #[.agg ⟨x.cs⟩] h fun v h'=>v=.agg ⟨x.ev.cs⟩/\Ext h h':=by
 apply vc230 x.f x.send x.peer x.label x.t x.ag;unfold W230;refine (St.refl h).newb fun h7 hs=>?_;refine hs.newb fun h8 hs=>?_;refine⟨_,hs.rd 1 rfl rfl,_,hs.rd 1 rfl rfl,_,hs.rd 1 rfl rfl,?_⟩;refine hs.put 0 rfl (o:=0) (vs:=x.ev.cs) rfl (show 3<=3 by decide) fun h12 hs=>?_;exact⟨_,_,_,hs.at 0 rfl (o:=0) (n:=3) rfl,rfl,hs.ext⟩
theorem compare104 (x y:Ev) (h:Heap):Fn Pz 231 #[.agg ⟨x.cs⟩,.agg ⟨y.cs⟩] h fun v h'=>v=.int .i64 (cmpE x y)/\Ext h h':=by
 apply vc231 x.send x.peer x.label y.send y.peer y.label;unfold W231;have hs:=St.refl h;refine hs.newb fun h7 hs=>?_;refine hs.newb fun h8 hs=>?_;refine⟨_,hs.rd 1 rfl rfl,?_⟩;refine⟨_,hs.rd 0 rfl rfl,?_⟩;refine sB_intro (fun c=>?_) (fun c=>?_)
 .have hne:x.send≠y.send:=by simpa using c
  refine⟨_,hs.rd 1 rfl rfl,?_⟩;unfold cmpE;rw[if_pos hne];refine sB_intro (fun d=>?_) (fun d=>?_)
  .exact⟨by rw[if_pos d],hs.ext⟩
  .exact⟨by rw[if_neg (by rw[d];simp)],hs.ext⟩
 .have he:x.send=y.send:=by simpa using c
  refine⟨_,hs.rd 1 rfl rfl,_,hs.rd 0 rfl rfl,_,hs.rd 1 rfl rfl,_,hs.rd 0 rfl rfl,?_⟩;refine (cmp110 _ _ _).mono ?_;rintro _ _ ⟨rfl,rfl⟩;refine⟨_,rfl,fun _ _ _ _ hv=>hv,?_⟩;refine (cmp110 _ _ _).mono ?_;rintro _ _ ⟨rfl,rfl⟩;refine⟨_,rfl,fun _ _ _ _ hv=>hv,?_⟩;refine hs.newb fun h22 hs=>?_;have hs2:=hs.blkS 2 1 ([cmpI x.peer y.peer,cmpI x.label y.label].map inC) rfl (inrows _) rfl (by decide);refine (or109 [cmpI x.peer y.peer,cmpI x.label y.label] _ h22 (hs2.rows 0 rfl (by omega)) (show 2<=1048576 by decide)).mono ?_;rintro _ _ ⟨rfl,rfl⟩;refine⟨_,rfl,?_,hs.ext⟩;unfold cmpE;rw[if_neg (by simpa using he)];show Value.int .i64 (orI3 _ (orI3 _ 0))=_;congr 1;unfold orI3;split
  .rfl
  .split<;>omega
theorem order153 (mv:List Mv) (sm:Sl) (a:Addr) (i k:Nat) (x y:Mv) (h:Heap) (ha:hc h ⟨a.block,a.off+4,none⟩=some (.slice sm.a sm.n sm.c)) (hr:Rw h 6 sm (mv.map Mv.cs)) (hx:mv[i]?=some x) (hy:mv[k]?=some y) :
  Fn Pz 229 #[.int .i64 (i:Nat),.int .i64 (k:Nat),.pointer (some a)] h fun v h'=>v=.int .i64 (cmpE x.ev y.ev)/\Ext h h':=by
 apply vc229;unfold W229;have hn:=hr.ln;have hxl:=(Ya.1 hx).1;have hyl:=(Ya.1 hy).1;refine⟨sm,ha,?_⟩;refine hr.nbI (by omega) (by omega) fun b o x' gx t=>?_;replace gx:mv[i]?=some x':=gx;rw[hx] at gx;cases gx;refine⟨_,_,_,_,_,_,t,sm,ha,?_⟩;refine hr.nbI (by omega) (by omega) fun b2 o2 y' gy t2=>?_;replace gy:mv[k]?=some y':=gy;rw[hy] at gy;cases gy;refine⟨_,_,_,_,_,_,t2,?_⟩;refine (of63 x h).mono ?_;rintro _ h23 ⟨rfl,E⟩;refine⟨_,_,_,rfl,fun _ _ _ _ hv=>hc_ext E hv,?_⟩;refine (of63 y h23).mono ?_;rintro _ h28 ⟨rfl,E2⟩;refine⟨_,_,_,rfl,fun _ _ _ _ hv=>hc_ext E2 hv,?_⟩;refine (compare104 x.ev y.ev h28).mono ?_;rintro _ h31 ⟨rfl,E3⟩;exact⟨_,rfl,rfl,(E.trans E2).trans E3⟩
end M
end Go.VC
end
