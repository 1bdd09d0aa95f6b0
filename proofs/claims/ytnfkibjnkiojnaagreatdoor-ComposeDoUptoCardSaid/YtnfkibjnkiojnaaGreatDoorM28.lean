/- WkW WkVcP WkX WkAf WkY WkVcH WkZ WkVcR WkAg WkArgs. -/
import Derived.Test.YtnfkibjnkiojnaaGreatDoorM27
import Derived.Test.YtnfkibjnkiojnaaGreatDoorM01
import Derived.Test.YtnfkibjnkiojnaaGreatDoorM02
import Derived.Test.YtnfkibjnkiojnaaGreatDoorProg
import Derived.KernelRfl
import Derived.Test.YtnfkibjnkiojnaaGreatDoorM22
import Derived.Test.YtnfkibjnkiojnaaGreatDoorM19
import Derived.Test.YtnfkibjnkiojnaaGreatDoorRows
set_option linter.unusedVariables false
set_option linter.unusedSimpArgs false
set_option maxRecDepth 100000

section
/- Contract: the reference's Do. (Numbers of layer 27's development dump.) -/
namespace Go.VC
open Go.Proofs Go.LexS
theorem posS_eq (L:List Mch) (k:Int) (S:List Int) (BL:List (List Int)) (r i:Int):posS L k S BL r i=match mvO L r i with
  | none=>2
  | some x=>canS L.length k S BL r.toNat x:=by
 unfold posS mvO
 by_cases c:r<0\/(L.length:Int)<=r
 ·
  rw [if_pos c,if_pos c]
 ·
  rw [if_neg c,if_neg c]
  cases hL:L[r.toNat]? with
  | none=>rfl
  | some m=>
   dsimp only
   by_cases c2:i<0\/(m.mv.length:Int)<=i
   ·
    rw [if_pos c2,if_pos c2]
   ·
    rw [if_neg c2,if_neg c2]
    cases m.mv[i.toNat]? <;> rfl
structure CfR (h0:Heap) (A:List It) (ss sb:Sl) (S:List Int) (B:List Bx):Prop where
 s:It.sl ss 3 1 (S.map inC) ∈ A
 b:It.sl sb 23 1 (B.map Bx.cs) ∈ A
 i:∀ q ∈ B,q.it ∈ A\/RL h0 1 q.s inC q.l
 n:S.length<=1048576/\B.length<=1048576/\∀ q ∈ B,q.l.length<=1048576
theorem CfR.mono {h0:Heap} {A A':List It} {ss sb:Sl} {S:List Int} {B:List Bx} (h:CfR h0 A ss sb S B) (hA:∀ i ∈ A,i ∈ A'):CfR h0 A' ss sb S B:=⟨hA _ h.s,hA _ h.b,fun q hq=>(h.i q hq).imp (hA _) id,h.n⟩
theorem CfR.cfi {h0 h1 h:Heap} {A:List It} {ss sb:Sl} {S:List Int} {B:List Bx} (hs:St h1 h A) (E:Ext h0 h) (hM:CfR h0 A ss sb S B):CfI h ss sb S B:=by
 obtain ⟨k,hk⟩:=Yf.1 hM.s
 obtain ⟨k',hk'⟩:=Yf.1 hM.b
 refine ⟨hs.rl k hk (by omega) hM.n.1,hs.rl k' hk' (by omega) hM.n.2.1,fun q hq=>?_⟩
 rcases hM.i q hq with hi | hi
 ·
  obtain ⟨j,hj⟩:=Yf.1 hi
  exact hs.rl j hj (by omega) (hM.n.2.2 q hq)
 ·
  exact hi.ext E
theorem CfR.none_ {h0:Heap}:CfR h0 [.sl ⟨none,0,0⟩ 3 1 [],.sl ⟨none,0,0⟩ 23 1 []] ⟨none,0,0⟩ ⟨none,0,0⟩ [] []:=⟨Yx,Yn _ Yx,fun q hq=>(by cases hq),Nat.zero_le _,Nat.zero_le _,fun q hq=>(by cases hq)⟩
def DrV (o:Int × List Int × List (List Int)) (hb h:Heap) (v:Value) (h':Heap):Prop:=∃ (ts tb:Sl) (T:List Bx) (A:List It),v=.tuple ⟨[cfA ts tb,.int .i64 o.1]⟩/\T.map Bx.l=o.2.2/\St h h' A/\CfR hb A ts tb o.2.1 T
theorem DrV.none_ {o:Int × List Int × List (List Int)} {hb h h':Heap} {A:List It} {e:Int} (hs:St h h' A) (ho:o=(e,[],[])):DrV o hb h (.tuple ⟨[.agg ⟨[.slice none 0 0,.slice none 0 0]⟩,.int .i64 e]⟩) h':=by
 subst ho; exact ⟨⟨none,0,0⟩,⟨none,0,0⟩,[],_,rfl,rfl,hs.nil2,CfR.none_.mono fun i hi=>List.mem_append_left _ hi⟩
theorem mvO_get {L:List Mch} {r i:Int} {x:Mv} (h:mvO L r i=some x):∃ p j:Nat,r=(p:Int)/\i=(j:Int)/\∃ m,L[p]?=some m/\m.mv[j]?=some x:=by
 unfold mvO at h
 split at h
 ·
  cases h
 ·
  rename_i c
  split at h
  ·
   cases h
  ·
   rename_i m gm
   split at h
   ·
    cases h
   ·
    rename_i c2
    exact ⟨r.toNat,i.toNat,by omega,by omega,m,gm,h⟩
set_option maxHeartbeats 3200000 in
theorem refDo28 (L:List MR) (s:Sl) (k:Int) (ss sb:Sl) (S:List Int) (B:List Bx) (r i:Int) (hb0 h:Heap) (hS:SyI h s L) (hC:CfI hb0 ss sb S B) (E0:Ext hb0 h) :
  Fn Pz 28 #[.slice s.a s.n s.c,.int .i64 k,.agg ⟨[.slice ss.a ss.n ss.c,.slice sb.a sb.n sb.c]⟩,.agg ⟨[.int .i64 r,.int .i64 i]⟩] h (DrV (doS (L.map MR.m) k S (B.map Bx.l) r i) hb0 h):=by
 apply vc28 s k ss sb r i; unfold W28
 have hlm:(L.map MR.m).length=L.length:=Yc _
 have hbm:(B.map Bx.l).length=B.length:=Yc _
 refine (St.refl h).newb fun h5 hs=>?_
 refine hs.newb fun h6 hs=>?_
 refine hs.newb fun h7 hs=>?_
 refine ⟨ss,sb,hs.at 2 rfl (o:=0) (n:=2) rfl,?_⟩
 refine (refProper25 L s k ss sb S B h7 (hS.ext hs.ext) ((hC.ext E0).ext hs.ext)).mono ?_
 rintro _ h12 ⟨⟨b,rfl,hb⟩,E⟩
 have hs:=hs.step E
 refine ⟨_,rfl,sB_intro (fun c=>?_) (fun c=>?_)⟩
 ·
  have hnp:¬ ProS (L.map MR.m) k S (B.map Bx.l):=fun hp=>by rw [hb.2 hp] at c; cases c
  refine hs.put 0 rfl (o:=0) (vs:=[.slice none 0 0,.slice none 0 0]) rfl (show 2<=2 by decide) fun h13 hs=>?_
  exact ⟨⟨none,0,0⟩,⟨none,0,0⟩,hs.at 0 rfl (o:=0) (n:=2) rfl,DrV.none_ hs (by unfold doS; rw [if_neg hnp])⟩
 have hP:=hb.1 (bT c)
 have hSl:S.length=L.length:=by rw [hP.p.s,hlm]
 have hBl:B.length=L.length*L.length:=by rw [<- hbm,hP.p.b,hlm]
 have hV6:=hP.v.n
 rw [hlm] at hV6
 have h36:=sq6 hV6.2
 refine ⟨ss,sb,hs.at 2 rfl (o:=0) (n:=2) rfl,r,i,hs.at 1 rfl (o:=0) (n:=2) rfl,?_⟩
 refine (possible61 L s k ss sb S B r i h12 (hS.ext hs.ext) hP.v ((hC.ext E0).ext hs.ext) hSl hBl).mono ?_
 rintro _ h22 ⟨rfl,E⟩
 have hs:=hs.step E
 have hpe:=posS_eq (L.map MR.m) k S (B.map Bx.l) r i
 refine ⟨_,rfl,sBn (fun c=>?_) (fun c=>?_)⟩
 ·
  refine hs.put 0 rfl (o:=0) (vs:=[.slice none 0 0,.slice none 0 0]) rfl (show 2<=2 by decide) fun h13 hs=>?_
  refine ⟨⟨none,0,0⟩,⟨none,0,0⟩,hs.at 0 rfl (o:=0) (n:=2) rfl,DrV.none_ hs ?_⟩
  unfold doS
  rw [if_pos hP]
  cases hmo:mvO (L.map MR.m) r i with
  | none=>rw [hmo] at hpe; rw [hpe]
  | some x=>rw [hmo] at hpe; rw [hpe] at c ⊢; dsimp only at c ⊢; rw [if_neg c]
 ·
  cases hmo:mvO (L.map MR.m) r i with
  | none=>rw [hmo] at hpe; rw [hpe] at c; exact absurd c (show ¬ ((2:Int)=0) by decide)
  | some x=>
   rw [hmo] at hpe; rw [hpe] at c; dsimp only at c
   have hdo:doS (L.map MR.m) k S (B.map Bx.l) r i=(0,S.set r.toNat x.t,doB L.length r.toNat x (B.map Bx.l)):=by
    unfold doS; rw [if_pos hP,hmo]; dsimp only; rw [if_pos c,hlm]
   rw [hlm] at c
   rw [hdo]
   obtain ⟨p,j,rfl,rfl,m,gm,gx⟩:=mvO_get hmo
   rw [Yd] at gm
   cases gy:L[p]? with
   | none=>rw [gy] at gm; cases gm
   | some y=>
    have gmm:=gm
    rw [gy] at gm; cases gm
    have hxm:=Yb gx
    have hp:=(Ya.1 gy).1
    have hvm:=hP.v.m p y.m (by rw [Yd,gy]; rfl)
    have hx0:0<=x.peer:=(hvm.2.1.n.mv x hxm).2.2.2.2.1
    have hx1:x.peer<(L.length:Int):=by have:=hvm.2.2 x hxm; rw [hlm] at this; exact this
    have hj:=bxI_lt (n:=L.length) (x:=x) hp hx0 hx1
    obtain ⟨q,gq⟩:=get_some (l:=B) (i:=bxI L.length p x) (by omega)
    have hk4:=hP.c.2
    have hall:∀ z ∈ B,z.l.length<=4:=fun z hz=>by
     obtain ⟨j',gj⟩:=Yf.1 hz
     have:=(hP.p.bx j' z.l (by rw [Yd,gj]; rfl)).1
     omega
    have hqm:=Yb gq
    have hql:(B.map Bx.l).getD (bxI L.length p x) []=q.l:=getD_map gq
    rw [Ys] at c ⊢
    refine ⟨ss,sb,hs.at 2 rfl (o:=0) (n:=2) rfl,(p:Int),(j:Int),hs.at 1 rfl (o:=0) (n:=2) rfl,?_⟩
    refine (next56 L L.length s ss sb S B p j y x q (if x.send=true then q.l++[x.label] else q.l.tail) h22 (hS.ext hs.ext) ((hC.ext E0).ext hs.ext) rfl hV6.2 gy gx hx0 hx1 hSl hBl gq (hall q hqm) rfl (fun d=>?_)).mono ?_
    ·
     unfold canS at c
     rw [hql] at c
     split at c
     ·
      exact absurd c (by decide)
     ·
      rw [if_neg (by rw [d]; decide)] at c
      cases hq:q.l with
      | nil=>rw [hq] at c; exact absurd c (show ¬ ((23:Int)=0) by decide)
      | cons a b=>rw [Yyj]; omega
    ·
     rintro _ h33 ⟨ts,tb,u,rfl,hs2⟩
     have hs:=hs.join hs2
     refine ⟨ts,tb,rfl,?_⟩
     refine hs.put 0 rfl (o:=0) (vs:=[.slice ts.a ts.n ts.c,.slice tb.a tb.n tb.c]) rfl (show 2<=2 by decide) fun h34 hs=>?_
     refine ⟨ts,tb,hs.at 0 rfl (o:=0) (n:=2) rfl,ts,tb,_,_,rfl,?_,hs,Yb (i:=3) rfl,Yb (i:=4) rfl,fun z hz=>?_,by rw [Yyh]; omega,by rw [Yyh]; omega,fun z hz=>?_⟩
     ·
      rw [List.map_set]; unfold doB; rw [hql]
     ·
      rcases List.mem_or_eq_of_mem_set hz with hz | rfl
      ·
       exact .inr (hC.i z hz)
      ·
       exact .inl (Yb (i:=5) rfl)
     ·
      rcases List.mem_or_eq_of_mem_set hz with hz | rfl
      ·
       have:=hall z hz; omega
      ·
       have:=hall q hqm
       dsimp only
       split
       ·
        rw [Yh,Yv]; omega
       ·
        rw [List.length_tail]; omega
end Go.VC
end

section
namespace Go.VC
open Go.Proofs

def W5 (p0:Sl) (p1_1:Int) (p1_2 p1_3:Sl) (p1_4 p1_5:Int) (h:Heap) (R:Value->Heap->Prop):Prop:=
 (Wn h [vI p1_1,vS p1_2,vS p1_3,vI p1_4,vI p1_5] 62 fun h6=>
 (Fn Pz 12 #[] h6
 (fun v7 h9=>∃ x8,iB v7 x8 /\
 (sB (!x8)
 (R (.bool false) h9)
 ((∃ (x10 x11:Sl),atC h9 (aS h 1) [vS x10,vS x11] /\
 (Fn Pz 13 #[vS p0,.agg ⟨[vS x10,vS x11]⟩] h9
 (fun v12 h14=>∃ x13,iB v12 x13 /\
 (sB (!x13)
 (R (.bool true) h14)
 ((∃ x15,rI h14 (aS h 0) x15 /\
 (∃ (x16 x17:Sl),atC h14 (aS h 1) [vS x16,vS x17] /\
 (∃ (x18 x19:Int),atC h14 (aS h 3) [vI x18,vI x19] /\
 ((Fn Pz 17 #[.agg ⟨[vS x16,vS x17]⟩] h14
 (fun v20 h23=>∃ (x21 x22:Sl),v20=.agg ⟨[vS x21,vS x22]⟩ /\
 (Sm [(aS h 3),(aS h 0)] h14 h23 /\
 ((Fn Pz 27 #[vS p0,vI x15,.agg ⟨[vS x21,vS x22]⟩,.agg ⟨[vI x18,vI x19]⟩] h23
 (fun v24 h28=>∃ (x25 x26:Sl) (x27:Int),v24=.tuple ⟨[.agg ⟨[vS x25,vS x26]⟩,vI x27]⟩ /\
 (Wn h28 [.slice none 0 0,.slice none 0 0] 29 fun h29=>
 (Sm [(aS h 3),(aS h 1),(aS h 0)] h28 h29 /\
 (Wp h29 (aS h28 0) 2 [vS x25,vS x26] fun h30=>
 (∃ x31,rI h30 (aS h 0) x31 /\
 (∃ (x32 x33:Sl),atC h30 (aS h 1) [vS x32,vS x33] /\
 (∃ (x34 x35:Int),atC h30 (aS h 3) [vI x34,vI x35] /\
 (Fn Pz 28 #[vS p0,vI x31,.agg ⟨[vS x32,vS x33]⟩,.agg ⟨[vI x34,vI x35]⟩] h30
 (fun v36 h40=>∃ (x37 x38:Sl) (x39:Int),v36=.tuple ⟨[.agg ⟨[vS x37,vS x38]⟩,vI x39]⟩ /\
 (Wn h40 [.slice none 0 0,.slice none 0 0] 26 fun h41=>
 (Wp h41 (aS h40 0) 2 [vS x37,vS x38] fun h42=>
 (∃ (x43 x44:Int),atC h42 (aS h 3) [vI x43,vI x44] /\
 (Fn Pz 29 #[vS p0,.agg ⟨[vI x43,vI x44]⟩] h42
 (fun v45 h52=>∃ (x46:Int) (x47:Bool) (x48 x49:Int) (x50:Sl) (x51:Int),v45=.tuple ⟨[.agg ⟨(L4 x46 x47 x48 x49 x50)⟩,vI x51]⟩ /\
 (Wn h52 [vI 0,.bool false,vI 0,vI 0,.slice none 0 0] 66 fun h53=>
 (Wp h53 (aS h52 0) 5 (L4 x46 x47 x48 x49 x50) fun h54=>
 (∃ (x55 x56:Int),atC h54 (aS h 3) [vI x55,vI x56] /\
 (Fn Pz 30 #[vS p0,.agg ⟨[vI x55,vI x56]⟩] h54
 (fun v57 h64=>∃ (x58:Int) (x59:Bool) (x60 x61:Int) (x62:Sl) (x63:Int),v57=.tuple ⟨[.agg ⟨(L4 x58 x59 x60 x61 x62)⟩,vI x63]⟩ /\
 (Wn h64 [vI 0,.bool false,vI 0,vI 0,.slice none 0 0] 66 fun h65=>
 (Wp h65 (aS h64 0) 5 (L4 x58 x59 x60 x61 x62) fun h66=>
 (sB (x27 == x39)
 ((sB (x51 == x63)
 ((∃ (x67 x68:Sl),atC h66 (aS h28 0) [vS x67,vS x68] /\
 (∃ (x69 x70:Sl),atC h66 (aS h40 0) [vS x69,vS x70] /\
 (Fn Pz 19 #[.agg ⟨[vS x67,vS x68]⟩,.agg ⟨[vS x69,vS x70]⟩] h66
 (fun v71 h73=>∃ x72,iB v71 x72 /\
 (sB x72
 ((∃ x74 x75 x76 x77 x78,aL4 h73 (aS h52 0) x74 x75 x76 x77 x78 /\
 (∃ x79 x80 x81 x82 x83,aL4 h73 (aS h64 0) x79 x80 x81 x82 x83 /\
 (Fn Pz 31 #[.agg ⟨(L4 x74 x75 x76 x77 x78)⟩,.agg ⟨(L4 x79 x80 x81 x82 x83)⟩] h73
 (fun v84 h86=>∃ x85,iB v84 x85 /\
 R (.bool x85) h86)))))
 (R (.bool false) h73)))))))
 (R (.bool false) h66)))
 (R (.bool false) h66)))))))))))))))))))))))))/\((Wn h23 [.slice none 0 0,.slice none 0 0] 29 fun h87=>
 (Sm [(aS h 3),(aS h 1),(aS h 0)] h23 h87 /\
 (Fn Pz 27 #[vS p0,vI x15,.agg ⟨[vS x21,vS x22]⟩,.agg ⟨[vI x18,vI x19]⟩] h87
 (fun v88 h92=>∃ (x89 x90:Sl) (x91:Int),v88=.tuple ⟨[.agg ⟨[vS x89,vS x90]⟩,vI x91]⟩ /\
 (Wp h92 (aS h23 0) 2 [vS x89,vS x90] fun h93=>
 (∃ x94,rI h93 (aS h 0) x94 /\
 (∃ (x95 x96:Sl),atC h93 (aS h 1) [vS x95,vS x96] /\
 (∃ (x97 x98:Int),atC h93 (aS h 3) [vI x97,vI x98] /\
 (Fn Pz 28 #[vS p0,vI x94,.agg ⟨[vS x95,vS x96]⟩,.agg ⟨[vI x97,vI x98]⟩] h93
 (fun v99 h103=>∃ (x100 x101:Sl) (x102:Int),v99=.tuple ⟨[.agg ⟨[vS x100,vS x101]⟩,vI x102]⟩ /\
 (Wn h103 [.slice none 0 0,.slice none 0 0] 26 fun h104=>
 (Wp h104 (aS h103 0) 2 [vS x100,vS x101] fun h105=>
 (∃ (x106 x107:Int),atC h105 (aS h 3) [vI x106,vI x107] /\
 (Fn Pz 29 #[vS p0,.agg ⟨[vI x106,vI x107]⟩] h105
 (fun v108 h115=>∃ (x109:Int) (x110:Bool) (x111 x112:Int) (x113:Sl) (x114:Int),v108=.tuple ⟨[.agg ⟨(L4 x109 x110 x111 x112 x113)⟩,vI x114]⟩ /\
 (Wn h115 [vI 0,.bool false,vI 0,vI 0,.slice none 0 0] 66 fun h116=>
 (Wp h116 (aS h115 0) 5 (L4 x109 x110 x111 x112 x113) fun h117=>
 (∃ (x118 x119:Int),atC h117 (aS h 3) [vI x118,vI x119] /\
 (Fn Pz 30 #[vS p0,.agg ⟨[vI x118,vI x119]⟩] h117
 (fun v120 h127=>∃ (x121:Int) (x122:Bool) (x123 x124:Int) (x125:Sl) (x126:Int),v120=.tuple ⟨[.agg ⟨(L4 x121 x122 x123 x124 x125)⟩,vI x126]⟩ /\
 (Wn h127 [vI 0,.bool false,vI 0,vI 0,.slice none 0 0] 66 fun h128=>
 (Wp h128 (aS h127 0) 5 (L4 x121 x122 x123 x124 x125) fun h129=>
 (sB (x91 == x102)
 ((sB (x114 == x126)
 ((∃ (x130 x131:Sl),atC h129 (aS h23 0) [vS x130,vS x131] /\
 (∃ (x132 x133:Sl),atC h129 (aS h103 0) [vS x132,vS x133] /\
 (Fn Pz 19 #[.agg ⟨[vS x130,vS x131]⟩,.agg ⟨[vS x132,vS x133]⟩] h129
 (fun v134 h136=>∃ x135,iB v134 x135 /\
 (sB x135
 ((∃ x137 x138 x139 x140 x141,aL4 h136 (aS h115 0) x137 x138 x139 x140 x141 /\
 (∃ x142 x143 x144 x145 x146,aL4 h136 (aS h127 0) x142 x143 x144 x145 x146 /\
 (Fn Pz 31 #[.agg ⟨(L4 x137 x138 x139 x140 x141)⟩,.agg ⟨(L4 x142 x143 x144 x145 x146)⟩] h136
 (fun v147 h149=>∃ x148,iB v147 x148 /\
 R (.bool x148) h149)))))
 (R (.bool false) h136)))))))
 (R (.bool false) h129)))
 (R (.bool false) h129)))))))))))))))))))))))))))))/\((Wn h14 [.slice none 0 0,.slice none 0 0] 29 fun h150=>
 (Sm [(aS h 3),(aS h 1),(aS h 0)] h14 h150 /\
 (Fn Pz 17 #[.agg ⟨[vS x16,vS x17]⟩] h150
 (fun v151 h154=>∃ (x152 x153:Sl),v151=.agg ⟨[vS x152,vS x153]⟩ /\
 (Sm [(aS h 3),(aS h 0)] h150 h154 /\
 (Fn Pz 27 #[vS p0,vI x15,.agg ⟨[vS x152,vS x153]⟩,.agg ⟨[vI x18,vI x19]⟩] h154
 (fun v155 h159=>∃ (x156 x157:Sl) (x158:Int),v155=.tuple ⟨[.agg ⟨[vS x156,vS x157]⟩,vI x158]⟩ /\
 (Wp h159 (aS h14 0) 2 [vS x156,vS x157] fun h160=>
 (∃ x161,rI h160 (aS h 0) x161 /\
 (∃ (x162 x163:Sl),atC h160 (aS h 1) [vS x162,vS x163] /\
 (∃ (x164 x165:Int),atC h160 (aS h 3) [vI x164,vI x165] /\
 (Fn Pz 28 #[vS p0,vI x161,.agg ⟨[vS x162,vS x163]⟩,.agg ⟨[vI x164,vI x165]⟩] h160
 (fun v166 h170=>∃ (x167 x168:Sl) (x169:Int),v166=.tuple ⟨[.agg ⟨[vS x167,vS x168]⟩,vI x169]⟩ /\
 (Wn h170 [.slice none 0 0,.slice none 0 0] 26 fun h171=>
 (Wp h171 (aS h170 0) 2 [vS x167,vS x168] fun h172=>
 (∃ (x173 x174:Int),atC h172 (aS h 3) [vI x173,vI x174] /\
 (Fn Pz 29 #[vS p0,.agg ⟨[vI x173,vI x174]⟩] h172
 (fun v175 h182=>∃ (x176:Int) (x177:Bool) (x178 x179:Int) (x180:Sl) (x181:Int),v175=.tuple ⟨[.agg ⟨(L4 x176 x177 x178 x179 x180)⟩,vI x181]⟩ /\
 (Wn h182 [vI 0,.bool false,vI 0,vI 0,.slice none 0 0] 66 fun h183=>
 (Wp h183 (aS h182 0) 5 (L4 x176 x177 x178 x179 x180) fun h184=>
 (∃ (x185 x186:Int),atC h184 (aS h 3) [vI x185,vI x186] /\
 (Fn Pz 30 #[vS p0,.agg ⟨[vI x185,vI x186]⟩] h184
 (fun v187 h194=>∃ (x188:Int) (x189:Bool) (x190 x191:Int) (x192:Sl) (x193:Int),v187=.tuple ⟨[.agg ⟨(L4 x188 x189 x190 x191 x192)⟩,vI x193]⟩ /\
 (Wn h194 [vI 0,.bool false,vI 0,vI 0,.slice none 0 0] 66 fun h195=>
 (Wp h195 (aS h194 0) 5 (L4 x188 x189 x190 x191 x192) fun h196=>
 (sB (x158 == x169)
 ((sB (x181 == x193)
 ((∃ (x197 x198:Sl),atC h196 (aS h14 0) [vS x197,vS x198] /\
 (∃ (x199 x200:Sl),atC h196 (aS h170 0) [vS x199,vS x200] /\
 (Fn Pz 19 #[.agg ⟨[vS x197,vS x198]⟩,.agg ⟨[vS x199,vS x200]⟩] h196
 (fun v201 h203=>∃ x202,iB v201 x202 /\
 (sB x202
 ((∃ x204 x205 x206 x207 x208,aL4 h203 (aS h182 0) x204 x205 x206 x207 x208 /\
 (∃ x209 x210 x211 x212 x213,aL4 h203 (aS h194 0) x209 x210 x211 x212 x213 /\
 (Fn Pz 31 #[.agg ⟨(L4 x204 x205 x206 x207 x208)⟩,.agg ⟨(L4 x209 x210 x211 x212 x213)⟩] h203
 (fun v214 h216=>∃ x215,iB v214 x215 /\
 R (.bool x215) h216)))))
 (R (.bool false) h203)))))))
 (R (.bool false) h196)))
 (R (.bool false) h196)))))))))))))))))))))))))))))))))))))))))
theorem vc5 (p0:Sl) (p1_1:Int) (p1_2 p1_3:Sl) (p1_4 p1_5:Int) (h:Heap) (R:Value->Heap->Prop) (H:W5 p0 p1_1 p1_2 p1_3 p1_4 p1_5 h R):Fn Pz 5 #[vS p0,.agg ⟨[vI p1_1,vS p1_2,vS p1_3,vI p1_4,vI p1_5]⟩] h R:=fnI (A:=.z) (by kernel_rfl) H

end Go.VC
end

section
/- The law ComposeDo (printed by mkwjx.py). -/
namespace Go.VC
open Go.Proofs Go.LexS
def doTail (p0:Sl) (ob b0:Nat) (e0:Int) (h0:Heap) (R:Value->Heap->Prop):Prop:=
 (∃ x31:Int,hc h0 ⟨b0,0,none⟩=some (.int .i64 x31) /\ 
  (∃ x32:Sl,∃ x33:Sl,atC h0 ⟨b0,1,none⟩ [.slice x32.a x32.n x32.c,.slice x33.a x33.n x33.c] /\ 
  (∃ x34:Int,∃ x35:Int,atC h0 ⟨b0,3,none⟩ [.int .i64 x34,.int .i64 x35] /\ 
  (Fn Pz 28 #[.slice p0.a p0.n p0.c,.int .i64 x31,.agg ⟨[.slice x32.a x32.n x32.c,.slice x33.a x33.n x33.c]⟩,.agg ⟨[.int .i64 x34,.int .i64 x35]⟩] h0 
  (fun v36 h40=>∃ x37:Sl,∃ x38:Sl,∃ x39:Int,v36=.tuple ⟨[.agg ⟨[.slice x37.a x37.n x37.c,.slice x38.a x38.n x38.c]⟩,.int .i64 x39]⟩ /\ 
  (∀ h41:Heap,h41=h40.push (.cells ⟨[.slice none 0 0,.slice none 0 0]⟩ 26) -> 
  (okAt h41 ⟨h40.size,0,none⟩ 2/\∀ h42:Heap,h42=hputs h41 ⟨h40.size,0,none⟩ 0 [.slice x37.a x37.n x37.c,.slice x38.a x38.n x38.c] -> 
  (∃ x43:Int,∃ x44:Int,atC h42 ⟨b0,3,none⟩ [.int .i64 x43,.int .i64 x44] /\ 
  (Fn Pz 29 #[.slice p0.a p0.n p0.c,.agg ⟨[.int .i64 x43,.int .i64 x44]⟩] h42 
  (fun v45 h52=>∃ x46:Int,∃ x47:Bool,∃ x48:Int,∃ x49:Int,∃ x50:Sl,∃ x51:Int,v45=.tuple ⟨[.agg ⟨[.int .i64 x46,.bool x47,.int .i64 x48,.int .i64 x49,.slice x50.a x50.n x50.c]⟩,.int .i64 x51]⟩ /\ 
  (∀ h53:Heap,h53=h52.push (.cells ⟨[.int .i64 0,.bool false,.int .i64 0,.int .i64 0,.slice none 0 0]⟩ 66) -> 
  (okAt h53 ⟨h52.size,0,none⟩ 5/\∀ h54:Heap,h54=hputs h53 ⟨h52.size,0,none⟩ 0 [.int .i64 x46,.bool x47,.int .i64 x48,.int .i64 x49,.slice x50.a x50.n x50.c] -> 
  (∃ x55:Int,∃ x56:Int,atC h54 ⟨b0,3,none⟩ [.int .i64 x55,.int .i64 x56] /\ 
  (Fn Pz 30 #[.slice p0.a p0.n p0.c,.agg ⟨[.int .i64 x55,.int .i64 x56]⟩] h54 
  (fun v57 h64=>∃ x58:Int,∃ x59:Bool,∃ x60:Int,∃ x61:Int,∃ x62:Sl,∃ x63:Int,v57=.tuple ⟨[.agg ⟨[.int .i64 x58,.bool x59,.int .i64 x60,.int .i64 x61,.slice x62.a x62.n x62.c]⟩,.int .i64 x63]⟩ /\ 
  (∀ h65:Heap,h65=h64.push (.cells ⟨[.int .i64 0,.bool false,.int .i64 0,.int .i64 0,.slice none 0 0]⟩ 66) -> 
  (okAt h65 ⟨h64.size,0,none⟩ 5/\∀ h66:Heap,h66=hputs h65 ⟨h64.size,0,none⟩ 0 [.int .i64 x58,.bool x59,.int .i64 x60,.int .i64 x61,.slice x62.a x62.n x62.c] -> 
  (sB (e0 == x39) 
   ((sB (x51 == x63) 
   ((∃ x67:Sl,∃ x68:Sl,atC h66 ⟨ob,0,none⟩ [.slice x67.a x67.n x67.c,.slice x68.a x68.n x68.c] /\ 
   (∃ x69:Sl,∃ x70:Sl,atC h66 ⟨h40.size,0,none⟩ [.slice x69.a x69.n x69.c,.slice x70.a x70.n x70.c] /\ 
   (Fn Pz 19 #[.agg ⟨[.slice x67.a x67.n x67.c,.slice x68.a x68.n x68.c]⟩,.agg ⟨[.slice x69.a x69.n x69.c,.slice x70.a x70.n x70.c]⟩] h66 
   (fun v71 h73=>∃ x72:Bool,v71=.bool x72 /\ 
   (sB x72 
    ((∃ x74:Int,∃ x75:Bool,∃ x76:Int,∃ x77:Int,∃ x78:Sl,atC h73 ⟨h52.size,0,none⟩ [.int .i64 x74,.bool x75,.int .i64 x76,.int .i64 x77,.slice x78.a x78.n x78.c] /\ 
    (∃ x79:Int,∃ x80:Bool,∃ x81:Int,∃ x82:Int,∃ x83:Sl,atC h73 ⟨h64.size,0,none⟩ [.int .i64 x79,.bool x80,.int .i64 x81,.int .i64 x82,.slice x83.a x83.n x83.c] /\ 
    (Fn Pz 31 #[.agg ⟨[.int .i64 x74,.bool x75,.int .i64 x76,.int .i64 x77,.slice x78.a x78.n x78.c]⟩,.agg ⟨[.int .i64 x79,.bool x80,.int .i64 x81,.int .i64 x82,.slice x83.a x83.n x83.c]⟩] h73 
    (fun v84 h86=>∃ x85:Bool,v84=.bool x85 /\ 
    R (.bool x85) h86))))) 
    (R (.bool false) h73))))))) 
   (R (.bool false) h66))) 
   (R (.bool false) h66)))))))))))))))))))
set_option maxHeartbeats 3200000 in
theorem doTail_ok (L:List MR) (s:Sl) (k:Int) (ss sb:Sl) (S:List Int) (B:List Bx) (r i:Int) (ts tb:Sl) (T:List Bx) (A:List It) (ob b0:Nat) (h h0:Heap) (hS:SyI h s L) (hC:CfI h ss sb S B)
  (hT:T.map Bx.l=(doS (L.map MR.m) k S (B.map Bx.l) r i).2.2) (hM:CfM A ts tb (doS (L.map MR.m) k S (B.map Bx.l) r i).2.1 T)
  (hs:St h h0 (.blk ob [.slice ts.a ts.n ts.c,.slice tb.a tb.n tb.c] 29 :: .blk b0 [.int .i64 k,.slice ss.a ss.n ss.c,.slice sb.a sb.n sb.c,.int .i64 r,.int .i64 i] 62::A)) :
  doTail s ob b0 (doS (L.map MR.m) k S (B.map Bx.l) r i).1 h0 (fun v h'=>v=.bool true/\Ext h h'):=by
 unfold doTail
 refine ⟨k,hs.rd 1 rfl (i:=0) rfl,ss,sb,hs.at 1 rfl (o:=1) (n:=2) rfl,r,i,hs.at 1 rfl (o:=3) (n:=2) rfl,?_⟩
 refine (refDo28 L s k ss sb S B r i h h0 (hS.ext hs.ext) hC hs.ext).mono ?_
 rintro _ h40 ⟨t2,b2,T2,A2,rfl,hT2,hs2,M2⟩
 have hs:=hs.join hs2
 refine ⟨t2,b2,_,rfl,?_⟩
 refine hs.newput (vs:=[.slice t2.a t2.n t2.c,.slice b2.a b2.n b2.c]) rfl rfl fun h42 hs=>?_
 refine ⟨r,i,hs.at 2 rfl (o:=3) (n:=2) rfl,?_⟩
 refine (event29 L s r i h42 (hS.ext hs.ext)).mono ?_
 rintro _ h52 ⟨rfl,E⟩
 have hs:=hs.step E
 refine ⟨_,_,_,_,⟨none,0,0⟩,_,rfl,?_⟩
 refine hs.newput (vs:=evC (evS (L.map MR.m) r i).2) rfl rfl fun h54 hs=>?_
 refine ⟨r,i,hs.at 3 rfl (o:=3) (n:=2) rfl,?_⟩
 refine (refEvent30 L s r i h54 (hS.ext hs.ext)).mono ?_
 rintro _ h64 ⟨rfl,E⟩
 have hs:=hs.step E
 refine ⟨_,_,_,_,⟨none,0,0⟩,_,rfl,?_⟩
 refine hs.newput (vs:=evC (evS (L.map MR.m) r i).2) rfl rfl fun h66 hs=>?_
 refine sB_t (beq_self_eq_true _) (sB_t (beq_self_eq_true _) ?_)
 refine ⟨ts,tb,hs.at 3 rfl (o:=0) (n:=2) rfl,t2,b2,hs.at 2 rfl (o:=0) (n:=2) rfl,?_⟩
 have C1:=(hM.mono fun i hi=>Yn _ (Yn _ (Yn _ (List.mem_append_left _ (Yn _ (Yn _ hi)))))).cfi hs
 have C2:=(M2.mono fun i hi=>Yn _ (Yn _ (Yn _ (List.mem_append_right _ hi)))).cfi hs hs.ext
 refine (sameC19 ts tb t2 b2 _ _ _ _ h66 C1 C2).mono ?_
 rintro _ h73 ⟨⟨b,rfl,hb⟩,E⟩
 have hs:=hs.step E
 rw [hb.2 ⟨rfl,by rw [hT,hT2]⟩]
 refine ⟨true,rfl,sB_t rfl ?_⟩
 refine ⟨_,_,_,_,⟨none,0,0⟩,hs.at 1 rfl (o:=0) (n:=5) rfl,_,_,_,_,⟨none,0,0⟩,hs.at 0 rfl (o:=0) (n:=5) rfl,?_⟩
 refine (sameEv31 (evS (L.map MR.m) r i).2 (evS (L.map MR.m) r i).2 h73).mono ?_
 rintro _ h86 ⟨⟨b,rfl,hb⟩,E⟩
 exact ⟨b,rfl,by rw [hb.2 rfl],hs.ext.trans E⟩
set_option maxHeartbeats 3200000 in
theorem composeDo5 (L:List MR) (s:Sl) (k:Int) (ss sb:Sl) (S:List Int) (B:List Bx) (r i:Int) (h:Heap) (hx:Gx h) (hS:SyI h s L) (hC:CfI h ss sb S B) :
  Fn Pz 5 #[.slice s.a s.n s.c,.agg ⟨[.int .i64 k,.slice ss.a ss.n ss.c,.slice sb.a sb.n sb.c,.int .i64 r,.int .i64 i]⟩] h fun v h'=>v=.bool true/\Ext h h':=by
 apply vc5 s k ss sb r i; unfold W5
 refine (St.refl h).newb fun h6 hs=>?_
 refine (awake12 h6 (hx.ext hs.ext)).mono ?_
 rintro _ h9 ⟨rfl,E⟩
 have hs:=hs.step E
 refine ⟨true,rfl,sB_f rfl ?_⟩
 refine ⟨ss,sb,hs.at 0 rfl (o:=1) (n:=2) rfl,?_⟩
 refine (fewC13 L s ss sb S B h9 (hS.ext hs.ext) (hC.ext hs.ext)).mono ?_
 rintro _ h14 ⟨⟨b,rfl,-⟩,E⟩
 have hs:=hs.step E
 refine ⟨b,rfl,sB_intro (fun c=>⟨rfl,hs.ext⟩) (fun c=>?_)⟩
 refine ⟨k,hs.rd 0 rfl (i:=0) rfl,ss,sb,hs.at 0 rfl (o:=1) (n:=2) rfl,r,i,hs.at 0 rfl (o:=3) (n:=2) rfl,And.intro ?_ ?_⟩
 ·
  refine (own17 ss sb h14).mono ?_
  rintro _ h23 ⟨rfl,E⟩
  have hs:=hs.step E
  refine ⟨ss,sb,rfl,E.sm,And.intro ?_ ?_⟩
  ·
   refine (do27 L s k ss sb S B r i h23 (hS.ext hs.ext) (hC.ext hs.ext)).mono ?_
   rintro _ h28 ⟨ts,tb,T,A,rfl,hT,hs2,hM⟩
   have hs:=hs.join hs2
   refine ⟨ts,tb,_,rfl,?_⟩
   refine hs.newbE fun h29 E29 hs=>⟨E29.sm,?_⟩
   refine hs.put 0 rfl (o:=0) (vs:=[.slice ts.a ts.n ts.c,.slice tb.a tb.n tb.c]) rfl (show 2<=2 by decide) fun h30 hs=>?_
   exact doTail_ok L s k ss sb S B r i ts tb T A _ _ h h30 hS hC hT hM hs
  ·
   refine hs.newbE fun h29 E29 hs=>⟨E29.sm,?_⟩
   refine (do27 L s k ss sb S B r i h29 (hS.ext hs.ext) (hC.ext hs.ext)).mono ?_
   rintro _ h28 ⟨ts,tb,T,A,rfl,hT,hs2,hM⟩
   have hs:=hs.join hs2
   refine ⟨ts,tb,_,rfl,?_⟩
   refine hs.put 0 rfl (o:=0) (vs:=[.slice ts.a ts.n ts.c,.slice tb.a tb.n tb.c]) rfl (show 2<=2 by decide) fun h30 hs=>?_
   exact doTail_ok L s k ss sb S B r i ts tb T A _ _ h h30 hS hC hT hM hs
 ·
  refine hs.newbE fun h29 E29 hs=>⟨E29.sm,?_⟩
  refine (own17 ss sb h29).mono ?_
  rintro _ h23 ⟨rfl,E⟩
  have hs:=hs.step E
  refine ⟨ss,sb,rfl,E.sm,?_⟩
  refine (do27 L s k ss sb S B r i h23 (hS.ext hs.ext) (hC.ext hs.ext)).mono ?_
  rintro _ h28 ⟨ts,tb,T,A,rfl,hT,hs2,hM⟩
  have hs:=hs.join hs2
  refine ⟨ts,tb,_,rfl,?_⟩
  refine hs.put 0 rfl (o:=0) (vs:=[.slice ts.a ts.n ts.c,.slice tb.a tb.n tb.c]) rfl (show 2<=2 by decide) fun h30 hs=>?_
  exact doTail_ok L s k ss sb S B r i ts tb T A _ _ h h30 hS hC hT hM hs
end Go.VC
end

section
/- Plain: the encoding of integers, lists and configurations; it is injective. -/
namespace Go.VC
open Go.Proofs Go.LexS
def I64 (n:Int):Prop:=-9223372036854775808<=n/\n<=9223372036854775807
/-! ### What the words of bits are -/
end Go.VC
end

section
/- Plain: a possible step leads from a proper configuration to a proper one. (Numbers of layer 27's development dump.) -/
namespace Go.VC
open Go.Proofs Go.LexS
end Go.VC
end

section
namespace Go.VC
open Go.Proofs

end Go.VC
end

section
/- Contract: Walk. (Numbers of layer 27's development dump.) -/
namespace Go.VC
open Go.Proofs Go.LexS
def u8C (b:Int):List Value:=[.int .u8 b]
end Go.VC
end

section
namespace Go.VC
open Go.Proofs

end Go.VC
end

section
/- Contracts: the encodings, on both sides. (Numbers of layer 27's development dump.) -/
namespace Go.VC
open Go.Proofs Go.LexS
end Go.VC
end

section
/- What systems of machines, configurations and lists of bytes look like in memory where all that is read is of bulk at most 1048576. -/
namespace Go.VC
open Go.Proofs Go.LexS Go.RowKit Go.ChangeShapes Go.WideShapes Go.Proofs.YtnfkibjnkiojnaaGreatDoor
theorem bulk_pos {H:Type} (d:DataW H):1<=Rows.uptoBulk d:=by
 cases d with
 | lit l=>cases l <;> simp [Rows.uptoBulk]
 | _=>simp [Rows.uptoBulk]
theorem bulk_part {H:Type}:∀ {l:List (DataW H)} {d:DataW H},d ∈ l->Rows.uptoBulk d<=Rows.uptoBulkAll l
 | [],_,h=>by cases h
 | x::r,d,h=>by
  rw [Rows.uptoBulkAll]
  rcases Yr.1 h with rfl | h
  ·
   omega
  ·
   have:=bulk_part h; omega
theorem bulk_len {H:Type}:∀ l:List (DataW H),l.length<=Rows.uptoBulkAll l
 | []=>by simp
 | x::r=>by
  have h1:=bulk_pos x
  have h2:=bulk_len r
  rw [Rows.uptoBulkAll,Yyj]; omega
def Rdb (P:Program) (W:World) (t:TypeId) (cs:List Value):Prop:=
 ∃ (H:Type) (enc:TypeId × Value->H) (n:Nat) (x:DataW H × List MemPlace),DataW.trod enc P W 0 (fun _=>true) true n t cs=some x/\Rows.uptoBulk x.1<=1048576
theorem Rdb.rdt {P:Program} {W:World} {t:TypeId} {cs:List Value} (h:Rdb P W t cs):Rdt P W t cs:=by
 obtain ⟨H,enc,n,x,h1,_⟩:=h; exact ⟨H,enc,n,x,h1⟩
theorem rdb_of_trod {H:Type} {enc:TypeId × Value->H} {P:Program} {W:World} {t:TypeId} {v:Value} {d:DataW H} {p:List MemPlace} (h:DataW.Trod enc P W 0 (fun _=>true) true t v d p) (hw:Rows.uptoBulk d<=1048576):Rdb P W t v.cells.toList:=by
 obtain ⟨n,h⟩:=h
 exact ⟨H,enc,n,_,h,hw⟩
theorem Rdb.field {P:Program} {W:World} {t ft:TypeId} {cs:List Value} {i off:Nat} (h:Rdb P W t cs) (hf:fieldAt P t i=some (ft,off)):Rdb P W ft ((cs.drop off).take (P.cellsOf ft)):=by
 unfold fieldAt at hf
 split at hf
 ·
  rename_i fs hu
  obtain ⟨f,h1,h2⟩:=Yya.1 hf
  cases h2
  obtain ⟨H,enc,n,x,h,hw⟩:=h
  obtain ⟨xs,m,_,hx,hl,hxl,hfi⟩:=DataW.trod_struct hu h
  have hlt:i<xs.length:=by rw [hxl]; exact (Yyg.1 h1).1
  refine ⟨H,enc,m,xs[i],by rw [hfi i f h1,Yi hlt],?_⟩
  rw [hx,Rows.uptoBulk] at hw
  have:=bulk_part (l:=xs.map (·.1)) (d:=xs[i].1) (Yp.2 ⟨xs[i],List.getElem_mem hlt,rfl⟩)
  omega
 ·
  cases hf
theorem Rdb.rows {P:Program} {W:World} {t e:TypeId} {cs:List Value} (ht:P.underlying t=some (.slice e)) (h:Rdb P W t cs) (hpos:0<P.cellsOf e) :
  ∃ (s:Sl) (rows:List (List Value)),cs=[.slice s.a s.n s.c]/\s.n<=s.c/\s.n<=1048576/\(s.a=none->s.n=0/\s.c=0)/\Rw W.heap (P.cellsOf e) s rows/\∀ r ∈ rows,r.length=P.cellsOf e/\Rdb P W e r:=by
 obtain ⟨H,enc,n,x,h,hw⟩:=h
 rcases DataW.trod_slice ht h with ⟨rfl,_⟩ | ⟨a,len,cap,elems,rest,m,_,rfl,hx,_,hlc,hcm,hel,helem,_,_⟩
 ·
  exact ⟨⟨none,0,0⟩,[],rfl,Yyt _,Nat.zero_le _,fun _=>⟨rfl,rfl⟩,Rw.nil,fun r hr=>by cases hr⟩
 ·
  rw [hx,Rows.uptoBulk] at hw
  have hle:len<=1048576:=by
   have:=bulk_len (elems.map (·.1))
   rw [Yc] at this; omega
  have hwe:∀ (i:Nat) (hi:i<elems.length),Rows.uptoBulk elems[i].1<=1048576:=fun i hi=>by
   have:=bulk_part (l:=elems.map (·.1)) (d:=elems[i].1) (Yp.2 ⟨elems[i],List.getElem_mem hi,rfl⟩)
   omega
  by_cases h0:len=0
  ·
   subst h0
   exact ⟨⟨some a,0,cap⟩,[],rfl,hlc,hle,fun e=>(by cases e),Rw.empty rfl,fun r hr=>by cases hr⟩
  ·
   have hrow:∀ i,i<len->∃ r,W.cells? 0 (a.add (i*P.cellsOf e)) (P.cellsOf e)=some r/\Rdb P W e r:=by
    intro i hi
    have h1:=helem i hi
    rw [Yi (by omega)] at h1
    obtain ⟨r,hr,hx2⟩:=Option.bind_eq_some_iff.1 h1
    exact ⟨r,hr,H,enc,m,_,hx2,hwe i (by omega)⟩
   let row:Nat->List Value:=fun i=>(W.cells? 0 (a.add (i*P.cellsOf e)) (P.cellsOf e)).getD []
   have hrow':∀ i,i<len->W.cells? 0 (a.add (i*P.cellsOf e)) (P.cellsOf e)=some (row i)/\Rdb P W e (row i):=fun i hi=>by
    obtain ⟨r,hr,hx⟩:=hrow i hi
    have:row i=r:=by show (W.cells? 0 _ _).getD []=r; rw [hr]; rfl
    rw [this]; exact ⟨hr,hx⟩
   have hget:∀ i,i<len->((List.range len).map row)[i]?=some (row i):=fun i hi=>by
    rw [Yd,Yyb hi]; rfl
   have hspot:a=⟨a.block,a.off,none⟩:=by
    have hc:=(cells_at (hrow' 0 (by omega)).1)
    have hl0:0<(row 0).length:=by rw [hc.1]; exact hpos
    have:=hc.2 0 _ (Yi hl0)
    rw [Nat.zero_mul,show (a.add 0).add 0=a from rfl] at this
    unfold World.cell? at this
    split at this
    ·
     split at this
     ·
      cases this
     ·
      rename_i hs
      cases a with
      | mk b o s=>
       cases s with
       | none=>rfl
       | some s=>exact absurd rfl hs
    ·
     cases this
   refine ⟨⟨some a,len,cap⟩,(List.range len).map row,rfl,hlc,hle,fun e=>(by cases e),⟨by simp,fun _=>⟨a.block,a.off,by rw [<- hspot],fun i r hi j v hj=>?_⟩⟩,fun r hr=>?_⟩
   ·
    have hil:i<len:=by have:=(Ya.1 hi).1; simpa using this
    rw [hget i hil] at hi; cases hi
    have h4:=(cells_at (hrow' i hil).1).2 _ _ hj
    rw [hspot] at h4
    have e:((⟨a.block,a.off,none⟩:Addr).add (i*P.cellsOf e)).add j=addk ⟨a.block,a.off+i*P.cellsOf e,none⟩ j:=by
     rw [addk_at,add_n,add_n]
    rw [e] at h4
    exact h4
   ·
    obtain ⟨i,hi,rfl⟩:=Yp.1 hr
    have:=hrow' i (List.mem_range.1 hi)
    exact ⟨(cells_at this.1).1,this.2⟩
theorem Rdb.list {α:Type} {P:Program} {W:World} {t e:TypeId} {k:Nat} {v:Value} {cs:α->List Value} {Q:α->Prop} (ht:P.underlying t=some (.slice e)) (hk:P.cellsOf e=k) (hpos:0<k)
  (ho:∀ r,Rdb P W e r->∃ x,r=cs x/\Q x) (h:Rdb P W t [v]):∃ (s:Sl) (L:List α),v=.slice s.a s.n s.c/\RL W.heap k s cs L/\∀ x ∈ L,Q x:=by
 subst hk
 obtain ⟨s,rows,e1,hc,hm,hna,hrw,hr⟩:=h.rows ht hpos
 have key:∀ rows:List (List Value),(∀ r ∈ rows,r.length=P.cellsOf e/\Rdb P W e r)->∃ L:List α,rows=L.map cs/\∀ x ∈ L,Q x:=by
  intro rows
  induction rows with
  | nil=>intro _; exact ⟨[],rfl,fun x hx=>by cases hx⟩
  | cons r rows ih=>
   intro h
   obtain ⟨x,hx,hq⟩:=ho r (h r (by simp)).2
   obtain ⟨L,hL,hQ⟩:=ih fun y hy=>h y (Yn _ hy)
   exact ⟨x::L,by rw [hx,hL]; rfl,fun y hy=>by rcases Yr.1 hy with rfl | hy; exact hq; exact hQ y hy⟩
 obtain ⟨L,rfl,hQ⟩:=key rows hr
 have hn:=hrw.ln
 exact ⟨s,L,by simpa using e1,⟨hrw,hc,hna,by omega⟩,hQ⟩
theorem v3:Pz.underlying 3=some (.int .i64):=by kernel_rfl
theorem v4b:Pz.underlying 4=some .bool:=by kernel_rfl
theorem cz3:Pz.cellsOf 3=1:=by kernel_rfl
theorem cz4:Pz.cellsOf 4=1:=by kernel_rfl
theorem cz51:Pz.cellsOf 51=1:=by kernel_rfl
theorem cz52:Pz.cellsOf 52=1:=by kernel_rfl
theorem cz53:Pz.cellsOf 53=1:=by kernel_rfl
theorem cz55:Pz.cellsOf 55=6:=by kernel_rfl
theorem cz190:Pz.cellsOf 190=3:=by kernel_rfl
theorem cz108:Pz.cellsOf 108=6:=by kernel_rfl
theorem vs51:Pz.underlying 51=some (.slice 4):=by kernel_rfl
theorem vs52:Pz.underlying 52=some (.slice 108):=by kernel_rfl
theorem vs53:Pz.underlying 53=some (.slice 190):=by kernel_rfl
theorem Rdb.sl {P:Program} {W:World} {t e:TypeId} {cs:List Value} (ht:P.underlying t=some (.slice e)) (h:Rdb P W t cs):∃ s:Sl,cs=[.slice s.a s.n s.c]:=by
 obtain ⟨H,enc,n,x,h,_⟩:=h
 rcases DataW.trod_slice ht h with ⟨rfl,_⟩ | ⟨a,len,cap,elems,rest,m,_,rfl,_⟩
 ·
  exact ⟨⟨none,0,0⟩,rfl⟩
 ·
  exact ⟨⟨some a,len,cap⟩,rfl⟩
theorem open_three {W:World} {t:TypeId} {r:List Value} (hc:Pz.cellsOf t=3) (h0:fieldAt Pz t 0=some (3,0)) (h1:fieldAt Pz t 1=some (3,1)) (h2:fieldAt Pz t 2=some (3,2)) (h:Rdt Pz W t r) :
  ∃ a b c:Int,r=[.int .i64 a,.int .i64 b,.int .i64 c]:=by
 have hl:=h.flen h0
 rw [hc] at hl
 match r,hl with
 | [x0,x1,x2],_=>
  have f0:=h.field h0
  have f1:=h.field h1
  have f2:=h.field h2
  rw [cz3] at f0 f1 f2
  obtain ⟨k0,e0,_⟩:=f0.int v3
  obtain ⟨k1,e1,_⟩:=f1.int v3
  obtain ⟨k2,e2,_⟩:=f2.int v3
  simp only [List.drop_zero,List.take_succ_cons,Yyk,List.drop_succ_cons,List.cons.injEq,and_true] at e0 e1 e2
  subst e0 e1 e2
  exact ⟨k0,k1,k2,rfl⟩
theorem open_boolv {W:World} {r:List Value} (h:Rdb Pz W 4 r):∃ x:Bool,r=bC x/\True:=by
 obtain ⟨k,e⟩:=h.rdt.bool v4b
 exact ⟨k,e,trivial⟩
theorem open_limit {W:World} {r:List Value} (h:Rdb Pz W 190 r):∃ x:To,r=x.cs/\True:=by
 obtain ⟨a,b,c,e⟩:=open_three cz190 (by kernel_rfl) (by kernel_rfl) (by kernel_rfl) h.rdt
 exact ⟨⟨a,b,c⟩,e,trivial⟩
theorem open_move {W:World} {r:List Value} (h:Rdb Pz W 108 r):∃ x:Mv,r=x.cs/\True:=by
 have hl:=h.rdt.flen (i:=0) (ft:=3) (off:=0) (by kernel_rfl)
 rw [cz108] at hl
 match r,hl with
 | [x0,x1,x2,x3,x4,x5],_=>
  have f0:=h.rdt.field (i:=0) (ft:=3) (off:=0) (by kernel_rfl)
  have f1:=h.rdt.field (i:=1) (ft:=4) (off:=1) (by kernel_rfl)
  have f2:=h.rdt.field (i:=2) (ft:=3) (off:=2) (by kernel_rfl)
  have f3:=h.rdt.field (i:=3) (ft:=3) (off:=3) (by kernel_rfl)
  have f4:=h.rdt.field (i:=4) (ft:=3) (off:=4) (by kernel_rfl)
  have f5:=h.rdt.field (i:=5) (ft:=4) (off:=5) (by kernel_rfl)
  rw [cz3] at f0 f2 f3 f4
  rw [cz4] at f1 f5
  obtain ⟨k0,e0,_⟩:=f0.int v3
  obtain ⟨k1,e1⟩:=f1.bool v4b
  obtain ⟨k2,e2,_⟩:=f2.int v3
  obtain ⟨k3,e3,_⟩:=f3.int v3
  obtain ⟨k4,e4,_⟩:=f4.int v3
  obtain ⟨k5,e5⟩:=f5.bool v4b
  simp only [List.drop_zero,List.take_succ_cons,Yyk,List.drop_succ_cons,List.cons.injEq,and_true] at e0 e1 e2 e3 e4 e5
  subst e0 e1 e2 e3 e4 e5
  exact ⟨⟨k0,k1,k2,k3,k4,k5⟩,rfl,trivial⟩
theorem open_machine {W:World} {r:List Value} (h:Rdb Pz W 55 r):∃ (m:Mch) (sf sm sl:Sl),r=mC m sf sm sl/\MI W.heap m sf sm sl:=by
 have hl:=h.rdt.flen (i:=0) (ft:=3) (off:=0) (by kernel_rfl)
 rw [cz55] at hl
 match r,hl with
 | [x0,x1,x2,x3,x4,x5],_=>
  have f0:=h.rdt.field (i:=0) (ft:=3) (off:=0) (by kernel_rfl)
  have f1:=h.rdt.field (i:=1) (ft:=3) (off:=1) (by kernel_rfl)
  have f2:=h.rdt.field (i:=2) (ft:=3) (off:=2) (by kernel_rfl)
  have f3:=h.field (i:=3) (ft:=51) (off:=3) (by kernel_rfl)
  have f4:=h.field (i:=4) (ft:=52) (off:=4) (by kernel_rfl)
  have f5:=h.field (i:=5) (ft:=53) (off:=5) (by kernel_rfl)
  rw [cz3] at f0 f1 f2
  rw [cz51] at f3
  rw [cz52] at f4
  rw [cz53] at f5
  obtain ⟨k0,e0,_⟩:=f0.int v3
  obtain ⟨k1,e1,_⟩:=f1.int v3
  obtain ⟨k2,e2,_⟩:=f2.int v3
  obtain ⟨sf,lf,e3,hf,_⟩:=Rdb.list vs51 cz4 (by omega) (fun r hr=>open_boolv hr) (show Rdb Pz W 51 [x3] from f3)
  obtain ⟨sm,lm,e4,hm,_⟩:=Rdb.list vs52 cz108 (by omega) (fun r hr=>open_move hr) (show Rdb Pz W 52 [x4] from f4)
  obtain ⟨sl,ll,e5,hl,_⟩:=Rdb.list vs53 cz190 (by omega) (fun r hr=>open_limit hr) (show Rdb Pz W 53 [x5] from f5)
  simp only [List.drop_zero,List.take_succ_cons,Yyk,List.drop_succ_cons,List.cons.injEq,and_true] at e0 e1 e2
  subst e0 e1 e2 e3 e4 e5
  exact ⟨⟨k0,k1,k2,lf,lm,ll⟩,sf,sm,sl,rfl,⟨hf,hm,hl⟩⟩
theorem cz5:Pz.cellsOf 5=1:=by kernel_rfl
theorem vs48:Pz.underlying 48=some (.slice 5):=by kernel_rfl
theorem v5u:Pz.underlying 5=some (.int .u8):=by kernel_rfl
theorem vsS22:Pz.underlying 22=some (.slice 55):=by kernel_rfl
theorem vsS23:Pz.underlying 23=some (.slice 3):=by kernel_rfl
theorem vsS24:Pz.underlying 24=some (.slice 23):=by kernel_rfl
theorem czS23:Pz.cellsOf 23=1:=by kernel_rfl
theorem czS24:Pz.cellsOf 24=1:=by kernel_rfl
theorem czS26:Pz.cellsOf 26=2:=by kernel_rfl
theorem czS60:Pz.cellsOf 60=2:=by kernel_rfl
theorem czS62:Pz.cellsOf 62=5:=by kernel_rfl
theorem open_mr {W:World} {r:List Value} (h:Rdb Pz W 55 r):∃ x:MR,r=x.cs/\MI W.heap x.m x.f x.g x.l:=by
 obtain ⟨m,f,g,l,e,hm⟩:=open_machine h
 exact ⟨⟨m,f,g,l⟩,e,hm⟩
theorem open_sys {W:World} {v:Value} (h:Rdb Pz W 22 [v]):∃ (s:Sl) (L:List MR),v=.slice s.a s.n s.c/\SyI W.heap s L:=by
 obtain ⟨s,L,e,hr,hq⟩:=Rdb.list vsS22 cz55 (by omega) (fun r hr=>open_mr hr) h
 exact ⟨s,L,e,hr,hq⟩
theorem open_u8n {W:World} {r:List Value} (h:Rdb Pz W 5 r):∃ x:Int,r=u8C x/\(0<=x/\x<256):=by
 obtain ⟨n,e,hw⟩:=h.rdt.int v5u
 have h3:(decide (IntKind.u8.min<=n) && decide (n<=IntKind.u8.max))=true:=hw
 rw [Yt] at h3
 have h4:(0:Int)<=n:=Yyn h3.1
 have h5:n<=(255:Int):=Yyn h3.2
 exact ⟨n,e,h4,by omega⟩
theorem open_u8s {W:World} {v:Value} (h:Rdb Pz W 48 [v]):∃ (s:Sl) (L:List Int),v=.slice s.a s.n s.c/\(RL W.heap 1 s u8C L/\∀ n ∈ L,0<=n/\n<256):=by
 obtain ⟨s,L,e,hr,hb⟩:=Rdb.list vs48 cz5 (by omega) (fun r hr=>open_u8n hr) h
 exact ⟨s,L,e,hr,hb⟩
theorem open_intn {W:World} {r:List Value} (h:Rdb Pz W 3 r):∃ x:Int,r=inC x/\I64 x:=by
 obtain ⟨n,e,hw⟩:=h.rdt.int v3
 have h3:(decide (IntKind.i64.min<=n) && decide (n<=IntKind.i64.max))=true:=hw
 rw [Yt] at h3
 have h4:(-9223372036854775808:Int)<=n:=Yyn h3.1
 have h5:n<=(9223372036854775807:Int):=Yyn h3.2
 exact ⟨n,e,h4,h5⟩
theorem open_intl {W:World} {v:Value} (h:Rdb Pz W 23 [v]):∃ (s:Sl) (L:List Int),v=.slice s.a s.n s.c/\(RL W.heap 1 s inC L/\∀ n ∈ L,I64 n):=by
 obtain ⟨s,L,e,hr,hb⟩:=Rdb.list vsS23 cz3 (by omega) (fun r hr=>open_intn hr) h
 exact ⟨s,L,e,hr,hb⟩
theorem open_box {W:World} {r:List Value} (h:Rdb Pz W 23 r):∃ q:Bx,r=q.cs/\(RL W.heap 1 q.s inC q.l/\∀ n ∈ q.l,I64 n):=by
 obtain ⟨s,rfl⟩:=Rdb.sl vsS23 h
 obtain ⟨s',L,e,hr⟩:=open_intl h
 exact ⟨⟨s',L⟩,by rw [e]; rfl,hr⟩
def CfB (h:Heap) (ss sb:Sl) (S:List Int) (B:List Bx):Prop:=CfI h ss sb S B/\(∀ x ∈ S,I64 x)/\∀ q ∈ B.map Bx.l,∀ x ∈ q,I64 x
theorem open_config {W:World} {r:List Value} (h:Rdb Pz W 26 r):∃ (ss sb:Sl) (S:List Int) (B:List Bx),r=[.slice ss.a ss.n ss.c,.slice sb.a sb.n sb.c]/\CfB W.heap ss sb S B:=by
 have hl:=h.rdt.flen (i:=0) (ft:=23) (off:=0) (by kernel_rfl)
 rw [czS26] at hl
 match r,hl with
 | [x0,x1],_=>
  have f0:=h.field (i:=0) (ft:=23) (off:=0) (by kernel_rfl)
  have f1:=h.field (i:=1) (ft:=24) (off:=1) (by kernel_rfl)
  rw [czS23] at f0
  rw [czS24] at f1
  obtain ⟨ss,S,e0,hS,hS2⟩:=open_intl (show Rdb Pz W 23 [x0] from f0)
  obtain ⟨sb,B,e1,hB,hB2⟩:=Rdb.list vsS24 czS23 (by omega) (fun r hr=>open_box hr) (show Rdb Pz W 24 [x1] from f1)
  subst e0 e1
  refine ⟨ss,sb,S,B,rfl,⟨hS,hB,fun q hq=>(hB2 q hq).1⟩,hS2,fun q hq=>?_⟩
  obtain ⟨y,hy,rfl⟩:=Yp.1 hq
  exact (hB2 y hy).2
theorem open_at {W:World} {r:List Value} (h:Rdb Pz W 62 r):∃ (k:Int) (ss sb:Sl) (S:List Int) (B:List Bx) (a b:Int),r=[.int .i64 k,.slice ss.a ss.n ss.c,.slice sb.a sb.n sb.c,.int .i64 a,.int .i64 b]/\CfB W.heap ss sb S B:=by
 have hl:=h.rdt.flen (i:=0) (ft:=3) (off:=0) (by kernel_rfl)
 rw [czS62] at hl
 match r,hl with
 | [x0,x1,x2,x3,x4],_=>
  have f0:=h.field (i:=0) (ft:=3) (off:=0) (by kernel_rfl)
  have f1:=h.field (i:=1) (ft:=26) (off:=1) (by kernel_rfl)
  have f2:=h.field (i:=2) (ft:=60) (off:=3) (by kernel_rfl)
  rw [cz3] at f0
  rw [czS26] at f1
  rw [czS60] at f2
  obtain ⟨k,e0,_⟩:=open_intn (show Rdb Pz W 3 [x0] from f0)
  obtain ⟨ss,sb,S,B,e1,h1⟩:=open_config (show Rdb Pz W 26 [x1,x2] from f1)
  have f2':Rdb Pz W 60 [x3,x4]:=f2
  have g0:=f2'.field (i:=0) (ft:=3) (off:=0) (by kernel_rfl)
  have g1:=f2'.field (i:=1) (ft:=3) (off:=1) (by kernel_rfl)
  rw [cz3] at g0 g1
  obtain ⟨a,e2,_⟩:=open_intn (show Rdb Pz W 3 [x3] from g0)
  obtain ⟨b,e3,_⟩:=open_intn (show Rdb Pz W 3 [x4] from g1)
  simp only [inC,List.cons.injEq,and_true] at e0 e1 e2 e3
  obtain ⟨rfl,rfl⟩:=e1
  subst e0 e2 e3
  exact ⟨k,ss,sb,S,B,a,b,rfl,h1⟩

end Go.VC
end
