/- TkVcF TkStA TkVcB TkG0 TkStB. -/
import Derived.Test.YtnfkibjnkiojnaaGreatDoorM02
import Derived.Test.YtnfkibjnkiojnaaGreatDoorProg
import Derived.KernelRfl
import Derived.Test.YtnfkibjnkiojnaaGreatDoorM01
import Derived.Test.YtnfkibjnkiojnaaGreatDoorM12
import Derived.Test.YtnfkibjnkiojnaaGreatDoorM05
import Derived.Test.YtnfkibjnkiojnaaGreatDoorM07
import Derived.Test.YtnfkibjnkiojnaaGreatDoorM11
set_option linter.unusedVariables false
set_option linter.unusedSimpArgs false
set_option maxRecDepth 100000

section
namespace Go.VC
open Go.Proofs

def W266 (p0:Sl) (h:Heap) (R:Value->Heap->Prop):Prop:=
 (sB (decide ((p0.n:Int)<2))
 (R (vS p0) h)
 ((QI 1 h fun I1 k_4 h5 m3=>(
 (sB (decide (k_4<(p0.n:Int)))
 ((NB p0.a fun b6 o7=>(Ib k_4 p0.n /\
 (∃ x8 x9 x10,aL3 h5 ⟨b6,o7+Int.toNat k_4*3,none⟩ x8 x9 x10 /\
 (NB p0.a fun b11 o12=>((0<=((IntKind.wrap .i64 (k_4 - 1)):Int)/\((IntKind.wrap .i64 (k_4 - 1)):Int)<(p0.n:Nat)) /\
 (∃ x13 x14 x15,aL3 h5 ⟨b11,o12+Int.toNat (IntKind.wrap .i64 (k_4 - 1))*3,none⟩ x13 x14 x15 /\
 (sB ((x8 == x13) && ((x9 == x14) && ((x10 == x15) && true)))
 ((((0:Int)<=(k_4:Int)/\(k_4:Int)<=((p0.n:Nat):Int)/\((p0.n:Nat):Int)<=(p0.c:Nat)) /\
 (QII k_4 1 h5 fun I16 k_19 x_20 h21 m18=>(
 (sB (decide (x_20<(((Int.toNat (p0.n:Nat) - Int.toNat k_4):Nat):Int)))
 ((NB (subA p0.a (Int.toNat k_4) p0.c 3) fun b22 o23=>((0<=(x_20:Int)/\(x_20:Int)<((Int.toNat (p0.n:Nat) - Int.toNat k_4):Nat)) /\
 (∃ x24 x25 x26,aL3 h21 ⟨b22,o23+Int.toNat x_20*3,none⟩ x24 x25 x26 /\
 (NB (subA p0.a (Int.toNat k_4) p0.c 3) fun b27 o28=>((0<=((IntKind.wrap .i64 (x_20 - 1)):Int)/\((IntKind.wrap .i64 (x_20 - 1)):Int)<((Int.toNat (p0.n:Nat) - Int.toNat k_4):Nat)) /\
 (∃ x29 x30 x31,aL3 h21 ⟨b27,o28+Int.toNat (IntKind.wrap .i64 (x_20 - 1))*3,none⟩ x29 x30 x31 /\
 (sB (!((x24 == x29) && ((x25 == x30) && ((x26 == x31) && true))))
 ((NB (subA p0.a (Int.toNat k_4) p0.c 3) fun b32 o33=>((0<=(x_20:Int)/\(x_20:Int)<((Int.toNat (p0.n:Nat) - Int.toNat k_4):Nat)) /\
 (∃ x34 x35 x36,aL3 h21 ⟨b32,o33+Int.toNat x_20*3,none⟩ x34 x35 x36 /\
 (NB p0.a fun b37 o38=>(Ib k_19 p0.n /\
 (Wp h21 ⟨b37,o38+Int.toNat k_19*3,none⟩ 3 (L3 x34 x35 x36) fun h39=>
 (∃ m40,m40<m18/\I16 (IntKind.wrap .i64 (k_19+1)) (IntKind.wrap .i64 (x_20+1)) h39 m40))))))))
 ((∃ m41,m41<m18/\I16 k_19 (IntKind.wrap .i64 (x_20+1)) h21 m41))))))))))
 ((((0:Int)<=(k_19:Int)/\(k_19:Int)<=((p0.n:Nat):Int)/\((p0.n:Nat):Int)<=(p0.c:Nat)) /\
 (RunW Pz (Builtin.clear_ #[321] 0 #[.slice (subA p0.a (Int.toNat k_19) p0.c 3) (Int.toNat (p0.n:Nat) - Int.toNat k_19) (p0.c - Int.toNat k_19)]) h21 (fun v43 h42=>
 (((0:Int)<=(0:Int)/\(0:Int)<=(k_19:Int)/\(k_19:Int)<=(p0.c:Nat)) /\
 R (.slice (subA p0.a (Int.toNat 0) p0.c 3) (Int.toNat k_19 - Int.toNat 0) (p0.c - Int.toNat 0)) h42))))))))))
 ((∃ m44,m44<m3/\I1 (IntKind.wrap .i64 (k_4+1)) h5 m44))))))))))
 (R (vS p0) h5))))))
theorem vc266 (p0:Sl) (h:Heap) (R:Value->Heap->Prop) (H:W266 p0 h R):Fn Pz 266 #[vS p0] h R:=fnI (A:=(.s .z (.s .z (.s (.s .z (.b (.l [(3,.one (.int .i64))] (.s .z (.s (.b (.s .z (.c (.s .z (.s (.s .z (.b (.l [(3,.one (.int .i64)),(5,.one (.int .i64))] .z))) .z)) .z))) .z))))) .z)))) (by kernel_rfl) H

def W155 (p0:Addr) (p1:Sl) (h:Heap) (R:Value->Heap->Prop):Prop:=
 (Wn h [.bool false,vI 0,.bool false,vI 0,vI 0] 226 fun h1=>
 (Wn h1 [.bool false,vI 0,.bool false,vI 0,vI 0] 226 fun h2=>
 (QBI false 0 h2 fun I3 known_6 x_7 h8 m5=>(
 (sB (decide (x_7<(p1.n:Int)))
 ((NB p1.a fun b9 o10=>(Ib x_7 p1.n /\
 (∃ x11,rI h8 ⟨b9,o10+Int.toNat x_7*1,none⟩ x11 /\
 (∃ J12:Heap->Prop,
 ((∃ x13,rS h8 p0 x13 /\
 (NB x13.a fun b14 o15=>(Ib x11 x13.n /\
 (∃ x16,rS h8 ⟨b14,o15+Int.toNat x11*1,none⟩ x16 /\
 (sB (decide ((x16.n:Int) > 0))
 ((∃ x17,rS h8 p0 x17 /\
 (NB x17.a fun b18 o19=>(Ib x11 x17.n /\
 (∃ x20,rS h8 ⟨b18,o19+Int.toNat x11*1,none⟩ x20 /\
 (NB x20.a fun b21 o22=>(Ib 0 x20.n /\
 (∃ x23,rB h8 ⟨b21,o22+Int.toNat 0*3,none⟩ x23 /\
 (sB x23
 ((∃ x24,rS h8 ⟨p0.block,p0.off+1,none⟩ x24 /\
 (NB x24.a fun b25 o26=>(Ib x11 x24.n /\
 (∃ x27,rB h8 ⟨b25,o26+Int.toNat x11*1,none⟩ x27 /\
 (sB x27
 ((∃ x28 x29 x30 x31 x32,aL5 h8 (aS h1 0) x28 x29 x30 x31 x32 /\
 (Wp h8 (aS h 0) 5 (L5 x28 x29 x30 x31 x32) fun h33=>
 (∃ x34 x35 x36 x37 x38,aL5 h33 (aS h 0) x34 x35 x36 x37 x38 /\
 R (.tuple ⟨[.agg ⟨(L5 x34 x35 x36 x37 x38)⟩,.bool false]⟩) h33))))
 ((∃ x39,rS h8 p0 x39 /\
 (NB x39.a fun b40 o41=>(Ib x11 x39.n /\
 (∃ x42,rS h8 ⟨b40,o41+Int.toNat x11*1,none⟩ x42 /\
 (∃ x43,rS h8 p0 x43 /\
 (NB x43.a fun b44 o45=>(Ib x11 x43.n /\
 (∃ x46,rS h8 ⟨b44,o45+Int.toNat x11*1,none⟩ x46 /\
 (NB x42.a fun b47 o48=>((0<=((IntKind.wrap .i64 ((x46.n:Int) - 1)):Int)/\((IntKind.wrap .i64 ((x46.n:Int) - 1)):Int)<(x42.n:Nat)) /\
 (∃ x49,rB h8 ⟨b47,o48+Int.toNat (IntKind.wrap .i64 ((x46.n:Int) - 1))*3,none⟩ x49 /\
 (sB (!x49)
 ((∃ x50 x51 x52 x53 x54,aL5 h8 (aS h1 0) x50 x51 x52 x53 x54 /\
 (Wp h8 (aS h 0) 5 (L5 x50 x51 x52 x53 x54) fun h55=>
 (∃ x56 x57 x58 x59 x60,aL5 h55 (aS h 0) x56 x57 x58 x59 x60 /\
 R (.tuple ⟨[.agg ⟨(L5 x56 x57 x58 x59 x60)⟩,.bool false]⟩) h55))))
 ((QI 0 h8 fun I61 x_64 h65 m63=>(
 (sB (decide (x_64<(p1.n:Int)))
 ((NB p1.a fun b66 o67=>(Ib x_64 p1.n /\
 (∃ x68,rI h65 ⟨b66,o67+Int.toNat x_64*1,none⟩ x68 /\
 (∃ x69,rS h65 ⟨p0.block,p0.off+1,none⟩ x69 /\
 (NB x69.a fun b70 o71=>(Ib x68 x69.n /\
 (∃ x72,rB h65 ⟨b70,o71+Int.toNat x68*1,none⟩ x72 /\
 (sB x72
 ((∃ x73 x74 x75 x76 x77,aL5 h65 (aS h1 0) x73 x74 x75 x76 x77 /\
 (Wp h65 (aS h 0) 5 (L5 x73 x74 x75 x76 x77) fun h78=>
 (∃ x79 x80 x81 x82 x83,aL5 h78 (aS h 0) x79 x80 x81 x82 x83 /\
 R (.tuple ⟨[.agg ⟨(L5 x79 x80 x81 x82 x83)⟩,.bool false]⟩) h78))))
 ((∃ x84,rS h65 p0 x84 /\
 (NB x84.a fun b85 o86=>(Ib x11 x84.n /\
 (∃ x87,rS h65 ⟨b85,o86+Int.toNat x11*1,none⟩ x87 /\
 (∃ x88,rS h65 p0 x88 /\
 (NB x88.a fun b89 o90=>(Ib x68 x88.n /\
 (∃ x91,rS h65 ⟨b89,o90+Int.toNat x68*1,none⟩ x91 /\
 (Fn Pz 218 #[vS x87,vS x91] h65
 (fun v92 h94=>∃ x93,iB v92 x93 /\
 (Sm [⟨b70,o71+Int.toNat x68*1,none⟩,⟨p0.block,p0.off+1,none⟩] h65 h94 /\
 (sB (!x93)
 ((∃ x95 x96 x97 x98 x99,aL5 h94 (aS h1 0) x95 x96 x97 x98 x99 /\
 (Wp h94 (aS h 0) 5 (L5 x95 x96 x97 x98 x99) fun h100=>
 (∃ x101 x102 x103 x104 x105,aL5 h100 (aS h 0) x101 x102 x103 x104 x105 /\
 R (.tuple ⟨[.agg ⟨(L5 x101 x102 x103 x104 x105)⟩,.bool false]⟩) h100))))
 ((∃ m106,m106<m63/\I61 (IntKind.wrap .i64 (x_64+1)) h94 m106))))))))))))))))))))))))
 ((J12 h65)))))))))))))))))))))))))
 ((J12 h8)))))))))))
 ((J12 h8)))))))) /\
 (∀ (_:Env) (h107:Heap),J12 h107 ->
 (∃ x108,rS h107 ⟨p0.block,p0.off+2,none⟩ x108 /\
 (NB x108.a fun b109 o110=>(Ib x11 x108.n /\
 (∃ x111,rB h107 ⟨b109,o110+Int.toNat x11*1,none⟩ x111 /\
 (sB (!x111)
 ((∃ m112,m112<m5/\I3 known_6 (IntKind.wrap .i64 (x_7+1)) h107 m112))
 ((sB known_6
 ((∃ x113,rS h107 ⟨p0.block,p0.off+3,none⟩ x113 /\
 (NB x113.a fun b114 o115=>(Ib x11 x113.n /\
 (∃ x116 x117 x118 x119 x120,aL5 h107 ⟨b114,o115+Int.toNat x11*5,none⟩ x116 x117 x118 x119 x120 /\
 (∃ x121 x122 x123 x124 x125,aL5 h107 (aS h1 0) x121 x122 x123 x124 x125 /\
 (sB (!((x116 == x121) && ((x117 == x122) && (((x118 == x123) && ((x119 == x124) && ((x120 == x125) && true))) && true))))
 ((∃ x126 x127 x128 x129 x130,aL5 h107 (aS h1 0) x126 x127 x128 x129 x130 /\
 (Wp h107 (aS h 0) 5 (L5 x126 x127 x128 x129 x130) fun h131=>
 (∃ x132 x133 x134 x135 x136,aL5 h131 (aS h 0) x132 x133 x134 x135 x136 /\
 R (.tuple ⟨[.agg ⟨(L5 x132 x133 x134 x135 x136)⟩,.bool false]⟩) h131))))
 ((∃ x137,rS h107 ⟨p0.block,p0.off+3,none⟩ x137 /\
 (NB x137.a fun b138 o139=>(Ib x11 x137.n /\
 (∃ x140 x141 x142 x143 x144,aL5 h107 ⟨b138,o139+Int.toNat x11*5,none⟩ x140 x141 x142 x143 x144 /\
 (Wp h107 (aS h1 0) 5 (L5 x140 x141 x142 x143 x144) fun h145=>
 (∃ m146,m146<m5/\I3 true (IntKind.wrap .i64 (x_7+1)) h145 m146))))))))))))))
 ((∃ x147,rS h107 ⟨p0.block,p0.off+3,none⟩ x147 /\
 (NB x147.a fun b148 o149=>(Ib x11 x147.n /\
 (∃ x150 x151 x152 x153 x154,aL5 h107 ⟨b148,o149+Int.toNat x11*5,none⟩ x150 x151 x152 x153 x154 /\
 (Wp h107 (aS h1 0) 5 (L5 x150 x151 x152 x153 x154) fun h155=>
 (∃ m156,m156<m5/\I3 true (IntKind.wrap .i64 (x_7+1)) h155 m156))))))))))))))))))))
 ((∃ x157 x158 x159 x160 x161,aL5 h8 (aS h1 0) x157 x158 x159 x160 x161 /\
 (Wp h8 (aS h 0) 5 (L5 x157 x158 x159 x160 x161) fun h162=>
 (∃ x163 x164 x165 x166 x167,aL5 h162 (aS h 0) x163 x164 x165 x166 x167 /\
 R (.tuple ⟨[.agg ⟨(L5 x163 x164 x165 x166 x167)⟩,.bool true]⟩) h162)))))))))
theorem vc155 (p0:Addr) (p1:Sl) (h:Heap) (R:Value->Heap->Prop) (H:W155 p0 p1 h R):Fn Pz 155 #[.pointer (some p0),vS p1] h R:=fnI (A:=(.s .z (.s .z (.s .z (.s (.s .z (.b (.l [(7,.one (.bool)),(15,.one (.int .i64))] (.s .z (.s .z (.s (.b (.s .z (.j [] (.s .z (.s .z (.c (.s .z (.s .z (.b (.l [(73,.one (.int .i64))] .z)))) .z))) .z))) .z)))))) .z))))) (by kernel_rfl) H

end Go.VC
end

section
/- Contract: slices.Compact at events. -/
namespace Go.VC
open Go.Proofs Go.LexS

theorem compactL_ne {l:List Ev} (h:l ≠ []):compactL l ≠ []:=by
 cases l with
 | nil=>exact absurd rfl h
 | cons a r=>
  intro e
  have:=(compactL_mem (a::r) a).2 (by simp)
  rw [e] at this; cases this
theorem compactL_snoc:∀ (l:List Ev) (x:Ev),compactL (l++[x])=if l.getLast?=some x then compactL l else compactL l++[x]
 | [],x=>by simp [compactL]
 | a::r,x=>by
  have ih:=compactL_snoc r x
  cases r with
  | nil=>
   by_cases h:a=x
   ·
    subst h; simp [compactL]
   ·
    simp [compactL,h]
  | cons b r'=>
   have hne:=compactL_ne (l:=b::r') (by simp)
   have hl:(a::b::r').getLast?=(b::r').getLast?:=by simp [List.getLast?_cons_cons]
   rw [List.cons_append,compactL,ih,hl]
   by_cases h:(b::r').getLast?=some x
   ·
    rw [if_pos h,if_pos h]
    conv=>rhs; rw [compactL]
   ·
    rw [if_neg h,if_neg h]
    conv=>rhs; rw [compactL]
    cases hc:compactL (b::r') with
    | nil=>exact absurd hc hne
    | cons y t=>
     simp only [List.cons_append]
     split <;> rfl
theorem compactL_step {l:List Ev} {k:Nat} {x y:Ev} (hx:l[k]?=some x) (hk:1<=k) (hy:l[k - 1]?=some y):compactL (l.take (k+1))=if x=y then compactL (l.take k) else compactL (l.take k)++[x]:=by
 rw [take_snoc hx,compactL_snoc]
 have hl:(l.take k).getLast?=some y:=by
  have hkl:=(Ya.1 hx).1
  rw [List.getLast?_eq_getElem?,Yu,Nat.min_eq_left (by omega),Yyf,if_pos (by omega)]
  exact hy
 rw [hl]
 by_cases e:x=y
 ·
  rw [if_pos e,if_pos (by rw [e])]
 ·
  rw [if_neg e,if_neg (fun h=>e (by cases h; rfl))]
theorem evEq (x y:Ev):((x.send == y.send) && ((x.peer == y.peer) && ((x.label == y.label) && true)))=decide (x=y):=by
 obtain ⟨a,b,c⟩:=x
 obtain ⟨d,e,f⟩:=y
 rw [Bool.eq_iff_iff]
 simp
theorem und151:Pz.underlying 321=some (.slice 324):=by kernel_rfl
theorem zero116 (w:World):(zeroValue 324).run Pz w=.ok (.agg #[.bool false,.int .i64 0,.int .i64 0]) w:=by
 have hi:(Pz.info? 324).bind (·.zero)=some (.agg #[.bool false,.int .i64 0,.int .i64 0]):=by kernel_rfl
 cases h:Pz.info? 324 with
 | none=>rw [h] at hi; cases hi
 | some i=>rw [h] at hi; simp only [Option.bind_some] at hi; simp [zeroValue,typeInfo,h,hi]
theorem compact139 {h0 h:Heap} {L:List It} (hs:St h0 h L) (k:Nat) {s:Sl} {l:List Ev} (hk:L[k]?=some (.sl s 324 3 (l.map Ev.cs))) (hm:l.length<=1048576) :
  Fn Pz 266 #[.slice s.a s.n s.c] h fun v h'=>∃ r:Sl,v=.slice r.a r.n r.c/\St h0 h' (L.set k (.sl r 324 3 ((compactL l).map Ev.cs))):=by
 apply vc266 s; unfold W266
 have hlen:=hs.len k hk (by omega)
 have hn:s.n=l.length:=by rw [hlen.1,Yc]
 have hkl:k<L.length:=(Ya.1 hk).1
 have hset:L.set k (.sl s 324 3 (l.map Ev.cs))=L:=by
  obtain ⟨a,b⟩:=Ya.1 hk
  rw [<- b]; exact List.set_getElem_self a
 have hself:compactL l=l->(∃ r:Sl,Value.slice s.a s.n s.c=.slice r.a r.n r.c/\St h0 h (L.set k (.sl r 324 3 ((compactL l).map Ev.cs)))):=fun e=>⟨s,rfl,by rw [e,hset]; exact hs⟩
 refine sB_intro (fun c=>?_) (fun c=>?_)
 ·
  have:l.length<2:=by have:=Yyn c; omega
  refine hself ?_
  match l,this with
  | [],_=>rfl
  | [a],_=>rfl
 ·
  have h2:2<=l.length:=by have:=Yyo c; omega
  refine ⟨fun x h' m=>∃ i:Nat,x=i/\1<=i/\i<=l.length/\m=l.length - i/\h'=h/\compactL (l.take i)=l.take i,⟨_,1,rfl,by omega,by omega,rfl,rfl,?_⟩,?_⟩
  ·
   match l,h2 with
   | a::r,_=>rfl
  rintro - x h5 m ⟨i,rfl,hi1,hin,rfl,rfl,hcc⟩
  refine sB_intro (fun l2=>?_) (fun l2=>?_)
  ·
   replace l2:=lt_t l2
   have hrw:=hs.rows k hk (by omega)
   refine hrw.nbI (by omega) (by omega) fun b o x1 g t=>?_
   replace g:l[i]?=some x1:=g
   refine ⟨_,_,_,t,?_⟩
   have hw1:IntKind.wrap .i64 ((i:Int) - 1)=((i - 1:Nat):Int):=by rw [w64 (by omega) (by omega)]; omega
   rw [hw1]
   refine hrw.nbI (x:=((i - 1:Nat):Int)) (by omega) (by omega) fun b' o' y1 g' t'=>?_
   replace g':l[i - 1]?=some y1:=g'
   refine ⟨_,_,_,t',?_⟩
   rw [evEq]
   have hstep:=compactL_step g hi1 g'
   refine sB_intro (fun e=>?_) (fun e=>?_)
   ·
    replace e:=Yyn e
    rw [if_pos e,hcc] at hstep
    have hcap:=hlen.2.1
    refine ⟨⟨by omega,by omega,by omega⟩,?_⟩
    refine ⟨fun kk x h' m=>∃ (q j:Nat) (cl:List Ev),kk=q/\x=j/\1<=j/\i+j<=l.length/\q<=i+j - 1/\m=l.length - j/\cl.length=l.length/\cl.take q=compactL (l.take (i+j))/\(∀ a,i+j - 1<=a->cl[a]?=l[a]?)/\St h0 h' (L.set k (.sl s 324 3 (cl.map Ev.cs))),
     ⟨_,i,1,l,rfl,rfl,by omega,by omega,by omega,rfl,rfl,hstep.symm,fun _ _=>rfl,by rw [hset]; exact hs⟩,?_⟩
    rintro - kk x h21 m' ⟨q,j,cl,rfl,rfl,hj1,hjn,hq,rfl,hcl,hct,hun,hs⟩
    have hkI:(L.set k (.sl s 324 3 (cl.map Ev.cs)))[k]?=some (.sl s 324 3 (cl.map Ev.cs)):=by rw [Yq hkl]
    have hfrom:=(hs.rows k hkI (by omega)).from (i:=i) (by omega) (by omega)
    rw [<- List.map_drop] at hfrom
    have hti:Int.toNat ((s.n:Nat):Int) - Int.toNat ((i:Nat):Int)=s.n - i:=by simp
    have htI:Int.toNat ((i:Nat):Int)=i:=by simp
    refine sB_intro (fun c2=>?_) (fun c2=>?_)
    ·
     have hjl:i+j<l.length:=by have:=Yyn c2; rw [hti] at this; omega
     rw [hti,htI]
     refine hfrom.nbI (x:=(j:Int)) (by omega) (by show (j:Int)<((s.n - i:Nat):Int); omega) fun b2 o2 x2 g2 t2=>?_
     replace g2:(cl.drop i)[j]?=some x2:=g2
     rw [List.getElem?_drop,hun _ (by omega)] at g2
     refine ⟨_,_,_,t2,?_⟩
     have hw2:IntKind.wrap .i64 ((j:Int) - 1)=((j - 1:Nat):Int):=by rw [w64 (by omega) (by omega)]; omega
     rw [hw2]
     refine hfrom.nbI (x:=((j - 1:Nat):Int)) (by omega) (by show ((j - 1:Nat):Int)<((s.n - i:Nat):Int); omega) fun b3 o3 y2 g3 t3=>?_
     replace g3:(cl.drop i)[j - 1]?=some y2:=g3
     rw [List.getElem?_drop,show i+(j - 1)=i+j - 1 by omega,hun _ (by omega)] at g3
     refine ⟨_,_,_,t3,?_⟩
     rw [evEq]
     have hst2:=compactL_step g2 (by omega) g3
     have hwj:IntKind.wrap .i64 ((j:Int)+1)=((j+1:Nat):Int):=by rw [w64 (by omega) (by omega)]; omega
     have hwq:IntKind.wrap .i64 ((q:Int)+1)=((q+1:Nat):Int):=by rw [w64 (by omega) (by omega)]; omega
     refine sB_intro (fun e2=>?_) (fun e2=>?_)
     ·
      have hne:x2 ≠ y2:=by simpa using e2
      rw [if_neg hne] at hst2
      refine hfrom.nbI (x:=(j:Int)) (by omega) (by show (j:Int)<((s.n - i:Nat):Int); omega) fun b4 o4 x3 g4 t4=>?_
      replace g4:(cl.drop i)[j]?=some x3:=g4
      rw [List.getElem?_drop,hun _ (by omega)] at g4
      rw [g2] at g4
      cases g4
      refine ⟨_,_,_,t4,?_⟩
      refine hs.set k hkI (by omega) (x:=(q:Int)) (by omega) (by omega) x2 rfl rfl (fun b5 o5 h39 hs=>?_) rfl
      rw [List.set_set] at hs
      refine ⟨l.length - (j+1),by omega,q+1,j+1,cl.set q x2,hwq,hwj,by omega,by omega,by omega,rfl,by rw [Yyh]; exact hcl,?_,?_,hs⟩
      ·
       rw [show i+(j+1)=i+j+1 by omega,hst2,<- hct,take_snoc (x:=x2) (by rw [Yq (by omega)]),List.take_set_of_le (Yyt _)]
      ·
       intro a ha
       rw [Yy (by omega)]
       exact hun a (by omega)
     ·
      have heq:x2=y2:=by simpa using e2
      rw [if_pos heq] at hst2
      refine ⟨l.length - (j+1),by omega,q,j+1,cl,rfl,hwj,by omega,by omega,by omega,rfl,hcl,?_,fun a ha=>hun a (by omega),hs⟩
      rw [show i+(j+1)=i+j+1 by omega,hst2]; exact hct
    ·
     have hjl:i+j=l.length:=by have:=Yyo c2; rw [hti] at this; omega
     refine ⟨⟨by omega,by omega,by omega⟩,?_⟩
     have htq:Int.toNat ((q:Nat):Int)=q:=by simp
     have htn:Int.toNat ((s.n:Nat):Int)=s.n:=by simp
     rw [htq,htn]
     refine hs.clear k hkI (by omega) q (by omega) und151 zero116 rfl rfl fun v h42 hs=>?_
     refine ⟨⟨by omega,by omega,by omega⟩,⟨s.a,q,s.c⟩,?_,?_⟩
     ·
      rw [show Int.toNat 0=0 from rfl,subA_zero]; rfl
     ·
      rw [List.set_set,<- List.map_take,hct,hjl,Yye] at hs
      exact hs
   ·
    replace e:=Yyo e
    rw [if_neg e,hcc] at hstep
    refine ⟨l.length - (i+1),by omega,i+1,by rw [w64 (by omega) (by omega)]; omega,by omega,by omega,rfl,rfl,?_⟩
    rw [hstep,take_snoc g]
  ·
   replace l2:=lt_f l2
   rw [Yj (by omega)] at hcc
   exact hself hcc
end Go.VC
end

section
namespace Go.VC
open Go.Proofs

def W107 (p0_1:ByteArray) (p0_2 p0_3:Sl) (p0_4 p0_5 p0_6:Int) (p0_7 p0_8:Sl) (h:Heap) (R:Value->Heap->Prop):Prop:=
 (Wn h (L2 p0_1 p0_2 p0_3 p0_4 p0_5 p0_6 p0_7 p0_8) 92 fun h9=>
 (∃ x10,rT h9 (aS h 0) x10 /\
 (Fn Pz 148 #[.string x10] h9
 (fun v11 h13=>∃ x12,iB v11 x12 /\
 (sB (!x12)
 (R (.bool false) h13)
 ((∃ x14,rS h13 (aS h 1) x14 /\
 (sB (decide ((x14.n:Int)<1))
 (R (.bool false) h13)
 ((∃ x15,rS h13 (aS h 1) x15 /\
 (sB (decide ((x15.n:Int) > 6))
 (R (.bool false) h13)
 ((∃ x16,rS h13 (aS h 1) x16 /\
 (QI 0 h13 fun I17 x_20 h21 m19=>(
 (sB (decide (x_20<(x16.n:Int)))
 ((NB x16.a fun b22 o23=>(Ib x_20 x16.n /\
 (∃ x24,rT h21 ⟨b22,o23+Int.toNat x_20*1,none⟩ x24 /\
 (Fn Pz 148 #[.string x24] h21
 (fun v25 h27=>∃ x26,iB v25 x26 /\
 (sB (!x26)
 (R (.bool false) h27)
 ((∃ x28,rS h27 (aS h 1) x28 /\
 (((0:Int)<=(0:Int)/\(0:Int)<=(x_20:Int)/\(x_20:Int)<=(x28.c:Nat)) /\
 (Fn Pz 149 #[.slice (subA x28.a (Int.toNat 0) x28.c 1) (Int.toNat x_20 - Int.toNat 0) (x28.c - Int.toNat 0),.string x24] h27
 (fun v29 h31=>∃ x30,iB v29 x30 /\
 (sB x30
 (R (.bool false) h31)
 ((∃ m32,m32<m19/\I17 (IntKind.wrap .i64 (x_20+1)) h31 m32)))))))))))))))
 (R (.bool true) h21)))))))))))))))))
theorem vc107 (p0_1:ByteArray) (p0_2 p0_3:Sl) (p0_4 p0_5 p0_6:Int) (p0_7 p0_8:Sl) (h:Heap) (R:Value->Heap->Prop) (H:W107 p0_1 p0_2 p0_3 p0_4 p0_5 p0_6 p0_7 p0_8 h R):Fn Pz 107 #[.agg ⟨(L2 p0_1 p0_2 p0_3 p0_4 p0_5 p0_6 p0_7 p0_8)⟩] h R:=fnI (A:=(.s .z (.s .z (.s (.s .z (.b (.l [(24,.one (.int .i64))] .z))) .z)))) (by kernel_rfl) H

def W108 (p0_1:ByteArray) (p0_2 p0_3:Sl) (p0_4 p0_5 p0_6:Int) (p0_7 p0_8:Sl) (h:Heap) (R:Value->Heap->Prop):Prop:=
 (Wn h (L2 p0_1 p0_2 p0_3 p0_4 p0_5 p0_6 p0_7 p0_8) 92 fun h9=>
 (∃ x10,rI h9 (aS h 3) x10 /\
 (sB (decide (x10<1))
 (R (.bool false) h9)
 ((∃ x11,rI h9 (aS h 3) x11 /\
 (sB (decide (x11 > 200))
 (R (.bool false) h9)
 ((∃ x12,rI h9 (aS h 4) x12 /\
 (∃ x13,rI h9 (aS h 5) x13 /\
 (sB (decide ((imin x12 x13)<0))
 (R (.bool false) h9)
 ((∃ x14,rI h9 (aS h 4) x14 /\
 (∃ x15,rI h9 (aS h 5) x15 /\
 (∃ x16,rI h9 (aS h 3) x16 /\
 (sB (decide ((imax x14 x15) >= x16))
 (R (.bool false) h9)
 ((∃ x17,rS h9 (aS h 6) x17 /\
 (sB (decide ((x17.n:Int) > 400))
 (R (.bool false) h9)
 ((∃ x18,rS h9 (aS h 6) x18 /\
 (QI 0 h9 fun I19 x_22 h23 m21=>(
 (sB (decide (x_22<(x18.n:Int)))
 ((NB x18.a fun b24 o25=>(Ib x_22 x18.n /\
 (∃ x26 x27 x28 x29 x30 x31,aL6 h23 ⟨b24,o25+Int.toNat x_22*6,none⟩ x26 x27 x28 x29 x30 x31 /\
 (Wn h23 [vI 0,vI 0,vI 0,vI 0,vI 0,.bool false] 137 fun h32=>
 (Wp h32 (aS h23 0) 6 (L6 x26 x27 x28 x29 x30 x31) fun h33=>
 (∃ x34 x35 x36,aL4 h33 (aS h23 1) x34 x35 x36 /\
 (Wn h33 [vI 0,vI 0,vI 0] 135 fun h37=>
 (Wp h37 (aS h33 0) 3 (L4 x34 x35 x36) fun h38=>
 (∃ x39,rI h38 (aS h23 0) x39 /\
 (∃ x40,rI h38 (aS h23 4) x40 /\
 (∃ x41,rI h38 (aS h33 0) x41 /\
 (∃ x42,rI h38 (aS h33 1) x42 /\
 (∃ x43,rI h38 (aS h33 2) x43 /\
 (sB (decide ((imin (imin (imin (imin x39 x40) x41) x42) x43)<0))
 (R (.bool false) h38)
 ((∃ x44,rI h38 (aS h23 0) x44 /\
 (∃ x45,rI h38 (aS h23 4) x45 /\
 (∃ x46,rI h38 (aS h 3) x46 /\
 (sB (decide ((imax x44 x45) >= x46))
 (R (.bool false) h38)
 ((∃ x47,rI h38 (aS h33 0) x47 /\
 (∃ x48,rI h38 (aS h33 1) x48 /\
 (∃ x49,rS h38 (aS h 1) x49 /\
 (sB (decide ((imax x47 x48) >= (x49.n:Int)))
 (R (.bool false) h38)
 ((∃ x50,rI h38 (aS h33 0) x50 /\
 (∃ x51,rI h38 (aS h33 1) x51 /\
 (sB (x50 == x51)
 (R (.bool false) h38)
 ((∃ x52,rI h38 (aS h33 2) x52 /\
 (∃ x53,rS h38 (aS h 2) x53 /\
 (sB (decide (x52 >= (x53.n:Int)))
 (R (.bool false) h38)
 ((∃ m54,m54<m21/\I19 (IntKind.wrap .i64 (x_22+1)) h38 m54)))))))))))))))))))))))))))))))))))
 (R (.bool true) h23))))))))))))))))))))))))
theorem vc108 (p0_1:ByteArray) (p0_2 p0_3:Sl) (p0_4 p0_5 p0_6:Int) (p0_7 p0_8:Sl) (h:Heap) (R:Value->Heap->Prop) (H:W108 p0_1 p0_2 p0_3 p0_4 p0_5 p0_6 p0_7 p0_8 h R):Fn Pz 108 #[.agg ⟨(L2 p0_1 p0_2 p0_3 p0_4 p0_5 p0_6 p0_7 p0_8)⟩] h R:=fnI (A:=(.s .z (.s .z (.s (.s .z (.b (.l [(41,.one (.int .i64))] .z))) .z)))) (by kernel_rfl) H

def W109 (p0:Sl) (h:Heap) (R:Value->Heap->Prop):Prop:=
 (sB ((p0.n:Int) == 0)
 (R (.bool true) h)
 ((Fn Pz 150 #[vS p0,vI 0] h
 (fun v1 h4=>∃ (x2:Sl) (x3:Int),v1=.tuple ⟨[vS x2,vI x3]⟩ /\
 R (.bool (x3 == 0)) h4))))
theorem vc109 (p0:Sl) (h:Heap) (R:Value->Heap->Prop) (H:W109 p0 h R):Fn Pz 109 #[vS p0] h R:=fnI (A:=.z) (by kernel_rfl) H

def W110 (p0_1:ByteArray) (p0_2 p0_3:Sl) (p0_4 p0_5 p0_6:Int) (p0_7 p0_8:Sl) (h:Heap) (R:Value->Heap->Prop):Prop:=
 (Wn h (L2 p0_1 p0_2 p0_3 p0_4 p0_5 p0_6 p0_7 p0_8) 92 fun h9=>
 (∃ x10,rS h9 (aS h 6) x10 /\
 (QI 0 h9 fun I11 x_14 h15 m13=>(
 (sB (decide (x_14<(x10.n:Int)))
 ((NB x10.a fun b16 o17=>(Ib x_14 x10.n /\
 (∃ x18 x19 x20 x21 x22 x23,aL6 h15 ⟨b16,o17+Int.toNat x_14*6,none⟩ x18 x19 x20 x21 x22 x23 /\
 (Wn h15 [vI 0,vI 0,vI 0,vI 0,vI 0,.bool false] 137 fun h24=>
 (Wp h24 (aS h15 0) 6 (L6 x18 x19 x20 x21 x22 x23) fun h25=>
 (∃ x26,rI h25 (aS h15 0) x26 /\
 (∃ x27,rI h25 (aS h 5) x27 /\
 (sB (x26 == x27)
 (R (.bool false) h25)
 ((∃ x28,rB h25 (aS h15 5) x28 /\
 (sB x28
 ((∃ x29,rI h25 (aS h15 0) x29 /\
 (∃ x30,rI h25 (aS h 4) x30 /\
 (sB (x29 == x30)
 (R (.bool false) h25)
 ((∃ x31,rS h25 (aS h 6) x31 /\
 (QI 0 h25 fun I32 x_35 h36 m34=>(
 (sB (decide (x_35<(x31.n:Int)))
 ((NB x31.a fun b37 o38=>(Ib x_35 x31.n /\
 (∃ x39 x40 x41 x42 x43 x44,aL6 h36 ⟨b37,o38+Int.toNat x_35*6,none⟩ x39 x40 x41 x42 x43 x44 /\
 (Wn h36 [vI 0,vI 0,vI 0,vI 0,vI 0,.bool false] 137 fun h45=>
 (Wp h45 (aS h36 0) 6 (L6 x39 x40 x41 x42 x43 x44) fun h46=>
 (sB (x_14 != x_35)
 ((∃ x47,rI h46 (aS h15 0) x47 /\
 (∃ x48,rI h46 (aS h36 0) x48 /\
 (sB (x47 == x48)
 ((∃ x49 x50 x51,aL4 h46 (aS h15 1) x49 x50 x51 /\
 (∃ x52 x53 x54,aL4 h46 (aS h36 1) x52 x53 x54 /\
 (sB ((x49 == x52) && ((x50 == x53) && ((x51 == x54) && true)))
 (R (.bool false) h46)
 ((∃ x55,rI h46 (aS h15 1) x55 /\
 (∃ x56,rI h46 (aS h36 1) x56 /\
 (sB (x55 != x56)
 (R (.bool false) h46)
 ((∃ x57,rB h46 (aS h15 5) x57 /\
 (sB x57
 (R (.bool false) h46)
 ((∃ x58,rB h46 (aS h15 5) x58 /\
 (sB x58
 ((∃ x59,rI h46 (aS h36 4) x59 /\
 (∃ x60,rI h46 (aS h15 0) x60 /\
 (sB (x59 == x60)
 ((∃ x61,rI h46 (aS h15 1) x61 /\
 (∃ x62,rI h46 (aS h36 1) x62 /\
 (sB (x61 != x62)
 (R (.bool false) h46)
 ((∃ x63,rI h46 (aS h15 (1+2)) x63 /\
 (∃ x64,rI h46 (aS h36 (1+2)) x64 /\
 (sB (x63 != x64)
 (R (.bool false) h46)
 ((∃ m65,m65<m34/\I32 (IntKind.wrap .i64 (x_35+1)) h46 m65))))))))))
 ((∃ m66,m66<m34/\I32 (IntKind.wrap .i64 (x_35+1)) h46 m66))))))
 ((∃ m67,m67<m34/\I32 (IntKind.wrap .i64 (x_35+1)) h46 m67))))))))))))))))
 ((∃ x68,rB h46 (aS h15 5) x68 /\
 (sB x68
 ((∃ x69,rI h46 (aS h36 4) x69 /\
 (∃ x70,rI h46 (aS h15 0) x70 /\
 (sB (x69 == x70)
 ((∃ x71,rI h46 (aS h15 1) x71 /\
 (∃ x72,rI h46 (aS h36 1) x72 /\
 (sB (x71 != x72)
 (R (.bool false) h46)
 ((∃ x73,rI h46 (aS h15 (1+2)) x73 /\
 (∃ x74,rI h46 (aS h36 (1+2)) x74 /\
 (sB (x73 != x74)
 (R (.bool false) h46)
 ((∃ m75,m75<m34/\I32 (IntKind.wrap .i64 (x_35+1)) h46 m75))))))))))
 ((∃ m76,m76<m34/\I32 (IntKind.wrap .i64 (x_35+1)) h46 m76))))))
 ((∃ m77,m77<m34/\I32 (IntKind.wrap .i64 (x_35+1)) h46 m77)))))))))
 ((∃ x78,rB h46 (aS h15 5) x78 /\
 (sB x78
 ((∃ x79,rI h46 (aS h36 4) x79 /\
 (∃ x80,rI h46 (aS h15 0) x80 /\
 (sB (x79 == x80)
 ((∃ x81,rI h46 (aS h15 1) x81 /\
 (∃ x82,rI h46 (aS h36 1) x82 /\
 (sB (x81 != x82)
 (R (.bool false) h46)
 ((∃ x83,rI h46 (aS h15 (1+2)) x83 /\
 (∃ x84,rI h46 (aS h36 (1+2)) x84 /\
 (sB (x83 != x84)
 (R (.bool false) h46)
 ((∃ m85,m85<m34/\I32 (IntKind.wrap .i64 (x_35+1)) h46 m85))))))))))
 ((∃ m86,m86<m34/\I32 (IntKind.wrap .i64 (x_35+1)) h46 m86))))))
 ((∃ m87,m87<m34/\I32 (IntKind.wrap .i64 (x_35+1)) h46 m87))))))))))))
 ((∃ m88,m88<m13/\I11 (IntKind.wrap .i64 (x_14+1)) h36 m88)))))))))))
 ((∃ x89,rS h25 (aS h 6) x89 /\
 (QI 0 h25 fun I90 x_93 h94 m92=>(
 (sB (decide (x_93<(x89.n:Int)))
 ((NB x89.a fun b95 o96=>(Ib x_93 x89.n /\
 (∃ x97 x98 x99 x100 x101 x102,aL6 h94 ⟨b95,o96+Int.toNat x_93*6,none⟩ x97 x98 x99 x100 x101 x102 /\
 (Wn h94 [vI 0,vI 0,vI 0,vI 0,vI 0,.bool false] 137 fun h103=>
 (Wp h103 (aS h94 0) 6 (L6 x97 x98 x99 x100 x101 x102) fun h104=>
 (sB (x_14 != x_93)
 ((∃ x105,rI h104 (aS h15 0) x105 /\
 (∃ x106,rI h104 (aS h94 0) x106 /\
 (sB (x105 == x106)
 ((∃ x107 x108 x109,aL4 h104 (aS h15 1) x107 x108 x109 /\
 (∃ x110 x111 x112,aL4 h104 (aS h94 1) x110 x111 x112 /\
 (sB ((x107 == x110) && ((x108 == x111) && ((x109 == x112) && true)))
 (R (.bool false) h104)
 ((∃ x113,rI h104 (aS h15 1) x113 /\
 (∃ x114,rI h104 (aS h94 1) x114 /\
 (sB (x113 != x114)
 (R (.bool false) h104)
 ((∃ x115,rB h104 (aS h15 5) x115 /\
 (sB x115
 (R (.bool false) h104)
 ((∃ x116,rB h104 (aS h15 5) x116 /\
 (sB x116
 ((∃ x117,rI h104 (aS h94 4) x117 /\
 (∃ x118,rI h104 (aS h15 0) x118 /\
 (sB (x117 == x118)
 ((∃ x119,rI h104 (aS h15 1) x119 /\
 (∃ x120,rI h104 (aS h94 1) x120 /\
 (sB (x119 != x120)
 (R (.bool false) h104)
 ((∃ x121,rI h104 (aS h15 (1+2)) x121 /\
 (∃ x122,rI h104 (aS h94 (1+2)) x122 /\
 (sB (x121 != x122)
 (R (.bool false) h104)
 ((∃ m123,m123<m92/\I90 (IntKind.wrap .i64 (x_93+1)) h104 m123))))))))))
 ((∃ m124,m124<m92/\I90 (IntKind.wrap .i64 (x_93+1)) h104 m124))))))
 ((∃ m125,m125<m92/\I90 (IntKind.wrap .i64 (x_93+1)) h104 m125))))))))))))))))
 ((∃ x126,rB h104 (aS h15 5) x126 /\
 (sB x126
 ((∃ x127,rI h104 (aS h94 4) x127 /\
 (∃ x128,rI h104 (aS h15 0) x128 /\
 (sB (x127 == x128)
 ((∃ x129,rI h104 (aS h15 1) x129 /\
 (∃ x130,rI h104 (aS h94 1) x130 /\
 (sB (x129 != x130)
 (R (.bool false) h104)
 ((∃ x131,rI h104 (aS h15 (1+2)) x131 /\
 (∃ x132,rI h104 (aS h94 (1+2)) x132 /\
 (sB (x131 != x132)
 (R (.bool false) h104)
 ((∃ m133,m133<m92/\I90 (IntKind.wrap .i64 (x_93+1)) h104 m133))))))))))
 ((∃ m134,m134<m92/\I90 (IntKind.wrap .i64 (x_93+1)) h104 m134))))))
 ((∃ m135,m135<m92/\I90 (IntKind.wrap .i64 (x_93+1)) h104 m135)))))))))
 ((∃ x136,rB h104 (aS h15 5) x136 /\
 (sB x136
 ((∃ x137,rI h104 (aS h94 4) x137 /\
 (∃ x138,rI h104 (aS h15 0) x138 /\
 (sB (x137 == x138)
 ((∃ x139,rI h104 (aS h15 1) x139 /\
 (∃ x140,rI h104 (aS h94 1) x140 /\
 (sB (x139 != x140)
 (R (.bool false) h104)
 ((∃ x141,rI h104 (aS h15 (1+2)) x141 /\
 (∃ x142,rI h104 (aS h94 (1+2)) x142 /\
 (sB (x141 != x142)
 (R (.bool false) h104)
 ((∃ m143,m143<m92/\I90 (IntKind.wrap .i64 (x_93+1)) h104 m143))))))))))
 ((∃ m144,m144<m92/\I90 (IntKind.wrap .i64 (x_93+1)) h104 m144))))))
 ((∃ m145,m145<m92/\I90 (IntKind.wrap .i64 (x_93+1)) h104 m145))))))))))))
 ((∃ m146,m146<m13/\I11 (IntKind.wrap .i64 (x_14+1)) h94 m146)))))))))))))))))))
 (R (.bool true) h15))))))
theorem vc110 (p0_1:ByteArray) (p0_2 p0_3:Sl) (p0_4 p0_5 p0_6:Int) (p0_7 p0_8:Sl) (h:Heap) (R:Value->Heap->Prop) (H:W110 p0_1 p0_2 p0_3 p0_4 p0_5 p0_6 p0_7 p0_8 h R):Fn Pz 110 #[.agg ⟨(L2 p0_1 p0_2 p0_3 p0_4 p0_5 p0_6 p0_7 p0_8)⟩] h R:=fnI (A:=(.s .z (.s (.s .z (.b (.l [(10,.one (.int .i64))] (.s .z (.s .z (.s (.b (.s .z (.s .z (.s .z (.b (.l [(34,.one (.int .i64))] .z)))))) .z)))))) .z))) (by kernel_rfl) H

def W111 (p0_1:ByteArray) (p0_2 p0_3:Sl) (p0_4 p0_5 p0_6:Int) (p0_7 p0_8:Sl) (h:Heap) (R:Value->Heap->Prop):Prop:=
 (Wn h (L2 p0_1 p0_2 p0_3 p0_4 p0_5 p0_6 p0_7 p0_8) 92 fun h9=>
 (∃ x10,rS h9 (aS h 7) x10 /\
 (QII (-1) 0 h9 fun I11 last_14 x_15 h16 m13=>(
 (sB (decide (x_15<(x10.n:Int)))
 ((NB x10.a fun b17 o18=>(Ib x_15 x10.n /\
 (∃ x19 x20 x21,aL4 h16 ⟨b17,o18+Int.toNat x_15*3,none⟩ x19 x20 x21 /\
 (Wn h16 [vI 0,vI 0,vI 0] 190 fun h22=>
 (Wp h22 (aS h16 0) 3 (L4 x19 x20 x21) fun h23=>
 (∃ x24,rI h23 (aS h16 0) x24 /\
 (sB (decide (x24<=last_14))
 (R (.bool false) h23)
 ((∃ x25,rI h23 (aS h16 1) x25 /\
 (sB (decide (x25<1))
 (R (.bool false) h23)
 ((∃ x26,rI h23 (aS h16 1) x26 /\
 (sB (decide (x26 > 1000))
 (R (.bool false) h23)
 ((∃ x27,rI h23 (aS h16 2) x27 /\
 (sB (decide (x27<0))
 (R (.bool false) h23)
 ((∃ x28,rI h23 (aS h16 2) x28 /\
 (∃ x29,rS h23 (aS h 6) x29 /\
 (sB (decide (x28 >= (x29.n:Int)))
 (R (.bool false) h23)
 ((∃ x30,rS h23 (aS h 6) x30 /\
 (∃ x31,rI h23 (aS h16 2) x31 /\
 (NB x30.a fun b32 o33=>(Ib x31 x30.n /\
 (∃ x34,rI h23 ⟨b32,o33+Int.toNat x31*6,none⟩ x34 /\
 (∃ x35,rI h23 (aS h16 0) x35 /\
 (sB (x34 != x35)
 (R (.bool false) h23)
 ((∃ x36,rS h23 (aS h 6) x36 /\
 (∃ x37,rI h23 (aS h16 2) x37 /\
 (NB x36.a fun b38 o39=>(Ib x37 x36.n /\
 (∃ x40,rB h23 ⟨b38,o39+Int.toNat x37*6+5,none⟩ x40 /\
 (sB x40
 (R (.bool false) h23)
 ((∃ x41,rI h23 (aS h16 0) x41 /\
 (∃ m42,m42<m13/\I11 x41 (IntKind.wrap .i64 (x_15+1)) h23 m42)))))))))))))))))))))))))))))))))))))))
 (R (.bool true) h16))))))
theorem vc111 (p0_1:ByteArray) (p0_2 p0_3:Sl) (p0_4 p0_5 p0_6:Int) (p0_7 p0_8:Sl) (h:Heap) (R:Value->Heap->Prop) (H:W111 p0_1 p0_2 p0_3 p0_4 p0_5 p0_6 p0_7 p0_8 h R):Fn Pz 111 #[.agg ⟨(L2 p0_1 p0_2 p0_3 p0_4 p0_5 p0_6 p0_7 p0_8)⟩] h R:=fnI (A:=(.s .z (.s .z (.s (.s .z (.b (.l [(3,.one (.int .i64)),(9,.one (.int .i64))] .z))) .z)))) (by kernel_rfl) H

def W151 (p0:Sl) (p1:Int) (h:Heap) (R:Value->Heap->Prop):Prop:=
 (QI 0 h fun I1 x_4 h5 m3=>(
 (sB (decide (x_4<(p0.n:Int)))
 ((NB p0.a fun b6 o7=>(Ib x_4 p0.n /\
 (∃ x8,rI h5 ⟨b6,o7+Int.toNat x_4*1,none⟩ x8 /\
 (sB (p1 == x8)
 (R (vI x_4) h5)
 ((∃ m9,m9<m3/\I1 (IntKind.wrap .i64 (x_4+1)) h5 m9)))))))
 (R (vI (-1)) h5))))
theorem vc151 (p0:Sl) (p1:Int) (h:Heap) (R:Value->Heap->Prop) (H:W151 p0 p1 h R):Fn Pz 151 #[vS p0,vI p1] h R:=fnI (A:=(.s .z (.s (.s .z (.b (.l [(8,.one (.int .i64))] .z))) .z))) (by kernel_rfl) H

def W112 (p0:Sl) (p1:Int) (h:Heap) (R:Value->Heap->Prop):Prop:=
 (Fn Pz 151 #[vS p0,vI p1] h
 (fun v1 h3=>∃ x2,iI v1 x2 /\
 R (.bool (decide (x2 >= 0))) h3))
theorem vc112 (p0:Sl) (p1:Int) (h:Heap) (R:Value->Heap->Prop) (H:W112 p0 p1 h R):Fn Pz 112 #[vS p0,vI p1] h R:=fnI (A:=.z) (by kernel_rfl) H

def W152 (p0:Sl) (p1:Int) (h:Heap) (R:Value->Heap->Prop):Prop:=
 (∃ J1:Heap->Prop,
 ((sB (decide (p1<0))
 (False)
 ((J1 h)))) /\
 (∀ (_:Env) (h2:Heap),J1 h2 ->
 (Fn Pz 207 #[.int .u64 (IntKind.wrap .u64 (p0.n:Int)),.int .u64 (IntKind.wrap .u64 p1)] h2
 (fun v3 h6=>∃ (x4 x5:Int),v3=.tuple ⟨[.int .u64 x4,.int .u64 x5]⟩ /\
 (∃ J7:Heap->Prop,
 ((sB (decide (x4 > 0))
 (False)
 ((sB (decide (x5 > 9223372036854775807))
 (False)
 ((J7 h6)))))) /\
 (∀ (_:Env) (h8:Heap),J7 h8 ->
 (((0:Int)<=(IntKind.wrap .i64 x5)/\((IntKind.wrap .i64 x5):Int)<=(IntKind.wrap .i64 x5)/\((8:Nat):Int)*(IntKind.wrap .i64 x5)<=140737488355328)/\Wn h8 (madeL Pz 3 (Int.toNat (IntKind.wrap .i64 x5))) 3 fun h9=>
 (Cpy Pz 23 23 (.slice (some (aS h8 0)) (Int.toNat (IntKind.wrap .i64 x5)) (Int.toNat (IntKind.wrap .i64 x5))) (vS p0) h9 fun n10 h11=>
 (QI n10 h11 fun I12 n_15 h16 m14=>(
 (sB (decide (n_15<((Int.toNat (IntKind.wrap .i64 x5)):Int)))
 ((((0:Int)<=(n_15:Int)/\(n_15:Int)<=(((Int.toNat (IntKind.wrap .i64 x5)):Nat):Int)/\(((Int.toNat (IntKind.wrap .i64 x5)):Nat):Int)<=((Int.toNat (IntKind.wrap .i64 x5)):Nat)) /\
 (((0:Int)<=(0:Int)/\(0:Int)<=(n_15:Int)/\(n_15:Int)<=((Int.toNat (IntKind.wrap .i64 x5)):Nat)) /\
 (Cpy Pz 23 23 (.slice (subA (some (aS h8 0)) (Int.toNat n_15) (Int.toNat (IntKind.wrap .i64 x5)) 1) (Int.toNat ((Int.toNat (IntKind.wrap .i64 x5)):Nat) - Int.toNat n_15) ((Int.toNat (IntKind.wrap .i64 x5)) - Int.toNat n_15)) (.slice (subA (some (aS h8 0)) (Int.toNat 0) (Int.toNat (IntKind.wrap .i64 x5)) 1) (Int.toNat n_15 - Int.toNat 0) ((Int.toNat (IntKind.wrap .i64 x5)) - Int.toNat 0)) h16 fun n17 h18=>
 (∃ m19,m19<m14/\I12 (IntKind.wrap .i64 (n_15+n17)) h18 m19)))))
 (R (.slice (some (aS h8 0)) (Int.toNat (IntKind.wrap .i64 x5)) (Int.toNat (IntKind.wrap .i64 x5))) h16))))))))))))
theorem vc152 (p0:Sl) (p1:Int) (h:Heap) (R:Value->Heap->Prop) (H:W152 p0 p1 h R):Fn Pz 152 #[vS p0,vI p1] h R:=fnI (A:=(.s .z (.j [] .z (.s .z (.j [] .z (.s .z (.s .z (.s (.b (.l [(8,.one (.int .i64))] .z)) .z)))))))) (by kernel_rfl) H

def W113 (p0_1:ByteArray) (p0_2 p0_3:Sl) (p0_4 p0_5 p0_6:Int) (p0_7 p0_8:Sl) (p1:Int) (p2:Bool) (h:Heap) (R:Value->Heap->Prop):Prop:=
 (Wn h (L2 p0_1 p0_2 p0_3 p0_4 p0_5 p0_6 p0_7 p0_8) 92 fun h9=>
 (Wn h9 [vI (-1)] 3 fun h10=>
 (∃ x11,rI h10 (aS h 3) x11 /\
 (Fn Pz 152 #[.slice (some (aS h9 0)) 1 1,vI x11] h10
 (fun v12 h14=>∃ x13,iS v12 x13 /\
 (NB x13.a fun b15 o16=>(Ib p1 x13.n /\
 (Wp h14 ⟨b15,o16+Int.toNat p1*1,none⟩ 1 [vI 0] fun h17=>
 (Wn h17 [vI p1] 3 fun h18=>
 (QS ⟨(some (aS h17 0)),1,1⟩ h18 fun I19 todo_22 h23 m21=>(
 (sB (decide ((todo_22.n:Int) > 0))
 ((∃ x24,rS h23 (aS h 6) x24 /\
 (QSI todo_22 0 h23 fun I25 todo_28 x_29 h30 m27=>(
 (sB (decide (x_29<(x24.n:Int)))
 ((NB x24.a fun b31 o32=>(Ib x_29 x24.n /\
 (∃ x33 x34 x35 x36 x37 x38,aL6 h30 ⟨b31,o32+Int.toNat x_29*6,none⟩ x33 x34 x35 x36 x37 x38 /\
 (Wn h30 [vI 0,vI 0,vI 0,vI 0,vI 0,.bool false] 137 fun h39=>
 (Wp h39 (aS h30 0) 6 (L6 x33 x34 x35 x36 x37 x38) fun h40=>
 (∃ x41,rI h40 (aS h30 0) x41 /\
 (∃ x42,rI h40 (aS h30 4) x42 /\
 (∃ J43:Int->Int->Heap->Prop,
 ((sB p2
 ((J43 x42 x41 h40))
 ((J43 x41 x42 h40)))) /\
 (∀ (_:Env) (a_44 b_45:Int) (h46:Heap),J43 a_44 b_45 h46 ->
 (NB todo_28.a fun b47 o48=>(Ib 0 todo_28.n /\
 (∃ x49,rI h46 ⟨b47,o48+Int.toNat 0*1,none⟩ x49 /\
 (sB (a_44 == x49)
 ((NB x13.a fun b50 o51=>(Ib b_45 x13.n /\
 (∃ x52,rI h46 ⟨b50,o51+Int.toNat b_45*1,none⟩ x52 /\
 (sB (decide (x52<0))
 ((NB x13.a fun b53 o54=>(Ib a_44 x13.n /\
 (∃ x55,rI h46 ⟨b53,o54+Int.toNat a_44*1,none⟩ x55 /\
 (NB x13.a fun b56 o57=>(Ib b_45 x13.n /\
 (Wp h46 ⟨b56,o57+Int.toNat b_45*1,none⟩ 1 [vI (IntKind.wrap .i64 (x55+1))] fun h58=>
 (Wn h58 [vI b_45] 3 fun h59=>
 (App Pz 23 23 (vS todo_28) (.slice (some (aS h58 0)) 1 1) h59 fun s60 h61=>
 (∃ m62,m62<m27/\I25 s60 (IntKind.wrap .i64 (x_29+1)) h61 m62))))))))))
 ((∃ m63,m63<m27/\I25 todo_28 (IntKind.wrap .i64 (x_29+1)) h46 m63)))))))
 ((∃ m64,m64<m27/\I25 todo_28 (IntKind.wrap .i64 (x_29+1)) h46 m64))))))))))))))))
 ((((0:Int)<=(1:Int)/\(1:Int)<=((todo_28.n:Nat):Int)/\((todo_28.n:Nat):Int)<=(todo_28.c:Nat)) /\
 (∃ m65,m65<m21/\I19 ⟨(subA todo_28.a (Int.toNat 1) todo_28.c 1),(Int.toNat (todo_28.n:Nat) - Int.toNat 1),(todo_28.c - Int.toNat 1)⟩ h30 m65))))))))
 (R (vS x13) h23)))))))))))))
theorem vc113 (p0_1:ByteArray) (p0_2 p0_3:Sl) (p0_4 p0_5 p0_6:Int) (p0_7 p0_8:Sl) (p1:Int) (p2:Bool) (h:Heap) (R:Value->Heap->Prop) (H:W113 p0_1 p0_2 p0_3 p0_4 p0_5 p0_6 p0_7 p0_8 p1 p2 h R):Fn Pz 113 #[.agg ⟨(L2 p0_1 p0_2 p0_3 p0_4 p0_5 p0_6 p0_7 p0_8)⟩,vI p1,.bool p2] h R:=fnI (A:=(.s .z (.s .z (.s .z (.s (.s .z (.b (.l [(8,.one (.slice))] (.s .z (.s (.b (.s .z (.b (.l [(8,.one (.slice)),(30,.one (.int .i64))] (.s .z (.s .z (.s (.b (.s .z (.s .z (.j [(11,.one (.int .i64)),(12,.one (.int .i64))] .z .z)))) .z))))))) .z))))) .z))))) (by kernel_rfl) H

def W77 (p0_1:ByteArray) (p0_2 p0_3:Sl) (p0_4 p0_5 p0_6:Int) (p0_7 p0_8:Sl) (h:Heap) (R:Value->Heap->Prop):Prop:=
 (Wn h (L2 p0_1 p0_2 p0_3 p0_4 p0_5 p0_6 p0_7 p0_8) 92 fun h9=>
 (∃ x10 x11 x12 x13 x14 x15 x16 x17,aL2 h9 (aS h 0) x10 x11 x12 x13 x14 x15 x16 x17 /\
 (Fn Pz 107 #[.agg ⟨(L2 x10 x11 x12 x13 x14 x15 x16 x17)⟩] h9
 (fun v18 h20=>∃ x19,iB v18 x19 /\
 (sB x19
 ((∃ x21 x22 x23 x24 x25 x26 x27 x28,aL2 h20 (aS h 0) x21 x22 x23 x24 x25 x26 x27 x28 /\
 (Fn Pz 108 #[.agg ⟨(L2 x21 x22 x23 x24 x25 x26 x27 x28)⟩] h20
 (fun v29 h31=>∃ x30,iB v29 x30 /\
 (sB x30
 ((∃ x32,rS h31 (aS h 2) x32 /\
 (Fn Pz 109 #[vS x32] h31
 (fun v33 h35=>∃ x34,iB v33 x34 /\
 (sB x34
 ((∃ x36 x37 x38 x39 x40 x41 x42 x43,aL2 h35 (aS h 0) x36 x37 x38 x39 x40 x41 x42 x43 /\
 (Fn Pz 110 #[.agg ⟨(L2 x36 x37 x38 x39 x40 x41 x42 x43)⟩] h35
 (fun v44 h46=>∃ x45,iB v44 x45 /\
 (sB x45
 ((∃ x47 x48 x49 x50 x51 x52 x53 x54,aL2 h46 (aS h 0) x47 x48 x49 x50 x51 x52 x53 x54 /\
 (Fn Pz 111 #[.agg ⟨(L2 x47 x48 x49 x50 x51 x52 x53 x54)⟩] h46
 (fun v55 h57=>∃ x56,iB v55 x56 /\
 (sB x56
 ((∃ x58 x59 x60 x61 x62 x63 x64 x65,aL2 h57 (aS h 0) x58 x59 x60 x61 x62 x63 x64 x65 /\
 (∃ x66,rI h57 (aS h 4) x66 /\
 (Fn Pz 113 #[.agg ⟨(L2 x58 x59 x60 x61 x62 x63 x64 x65)⟩,vI x66,.bool false] h57
 (fun v67 h69=>∃ x68,iS v67 x68 /\
 (Fn Pz 112 #[vS x68,vI (-1)] h69
 (fun v70 h72=>∃ x71,iB v70 x71 /\
 (sB (!x71)
 ((∃ x73 x74 x75 x76 x77 x78 x79 x80,aL2 h72 (aS h 0) x73 x74 x75 x76 x77 x78 x79 x80 /\
 (∃ x81,rI h72 (aS h 5) x81 /\
 (Fn Pz 113 #[.agg ⟨(L2 x73 x74 x75 x76 x77 x78 x79 x80)⟩,vI x81,.bool true] h72
 (fun v82 h84=>∃ x83,iS v82 x83 /\
 (Fn Pz 112 #[vS x83,vI (-1)] h84
 (fun v85 h87=>∃ x86,iB v85 x86 /\
 R (.bool (!x86)) h87)))))))
 (R (.bool false) h72)))))))))
 (R (.bool false) h57))))))
 (R (.bool false) h46))))))
 (R (.bool false) h35))))))
 (R (.bool false) h31))))))
 (R (.bool false) h20))))))
theorem vc77 (p0_1:ByteArray) (p0_2 p0_3:Sl) (p0_4 p0_5 p0_6:Int) (p0_7 p0_8:Sl) (h:Heap) (R:Value->Heap->Prop) (H:W77 p0_1 p0_2 p0_3 p0_4 p0_5 p0_6 p0_7 p0_8 h R):Fn Pz 77 #[.agg ⟨(L2 p0_1 p0_2 p0_3 p0_4 p0_5 p0_6 p0_7 p0_8)⟩] h R:=fnI (A:=.z) (by kernel_rfl) H

end Go.VC
end

section
/- Breadth-first search, on lists. No program here. -/
namespace Go.VC

def src_ (bk:Bool) (x:Ed):Int:=if bk then x.t else x.f
def dst_ (bk:Bool) (x:Ed):Int:=if bk then x.f else x.t
def Adj (es:List Ed) (bk:Bool) (a b:Int):Prop:=∃ x ∈ es,src_ bk x=a/\dst_ bk x=b
inductive Rch (es:List Ed) (bk:Bool) (a:Int):Int->Prop where
 | refl:Rch es bk a a
 | step {b c:Int}:Rch es bk a b->Adj es bk b c->Rch es bk a c
def Vis (D:List Int) (v:Int):Prop:=0<=v/\∃ d,D[v.toNat]?=some d/\0<=d
structure BF (es:List Ed) (bk:Bool) (n:Nat) (s:Int) (D T:List Int):Prop where
 len:D.length=n
 src:Vis D s
 r:∀ v,Vis D v->Rch es bk s v
 t:∀ t ∈ T,Vis D t
 c:∀ v w,Vis D v->v ∉ T->Adj es bk v w->Vis D w
 b:∀ d ∈ D,-1<=d/\d+D.count (-1)<=200
theorem vis_set {D:List Int} {b d v:Int} (hb0:0<=b) (hb:b<D.length) (hd:0<=d):Vis (D.set b.toNat d) v ↔ v=b\/Vis D v:=by
 unfold Vis
 constructor
 ·
  rintro ⟨h0,e,he,h1⟩
  by_cases hvb:v=b
  ·
   exact .inl hvb
  ·
   rw [Yy (by omega)] at he
   exact .inr ⟨h0,e,he,h1⟩
 ·
  rintro (rfl | ⟨h0,e,he,h1⟩)
  ·
   exact ⟨hb0,d,by rw [Yq (by omega)],hd⟩
  ·
   by_cases hvb:v=b
   ·
    subst hvb; exact ⟨hb0,d,by rw [Yq (by omega)],hd⟩
   ·
    exact ⟨h0,e,by rw [Yy (by omega)]; exact he,h1⟩
theorem BF.push {es:List Ed} {bk:Bool} {n:Nat} {s:Int} {D T:List Int} (h:BF es bk n s D T) {a b da db:Int} (ha:Vis D a) (hda:D[a.toNat]?=some da) (hb0:0<=b) (hb:D[b.toNat]?=some db) (hneg:db<0) (hab:Adj es bk a b) :
  BF es bk n s (D.set b.toNat (da+1)) (T++[b])/\(D.set b.toNat (da+1)).count (-1)+1=D.count (-1)/\0<=da/\da+1<=200:=by
 have hbl:=(Ya.1 hb).1
 have hbe:=(Ya.1 hb).2
 have hda0:0<=da:=by
  obtain ⟨_,e,he,h1⟩:=ha
  rw [hda] at he; cases he; exact h1
 have hdb:db=-1:=by have:=(h.b db (Yb hb)).1; omega
 subst hdb
 have hvs:∀ v,Vis (D.set b.toNat (da+1)) v ↔ v=b\/Vis D v:=fun v=>vis_set hb0 (by omega) (by omega)
 have hpos:0<D.count (-1):=List.count_pos_iff.2 (Yb hb)
 have hcnt:(D.set b.toNat (da+1)).count (-1)+1=D.count (-1):=by
  rw [List.count_set hbl,hbe]
  have:((da+1) == (-1:Int))=false:=by simp; omega
  rw [this]
  simp; omega
 have hub:=(h.b da (Yb hda)).2
 refine ⟨⟨by rw [Yyh]; exact h.len,(hvs s).2 (.inr h.src),fun v hv=>?_,fun t ht=>?_,fun v w hv hn hvw=>?_,fun d hd=>?_⟩,hcnt,hda0,by omega⟩
 ·
  rcases (hvs v).1 hv with rfl | hv
  ·
   exact (h.r a ha).step hab
  ·
   exact h.r v hv
 ·
  rcases Yk.1 ht with ht | ht
  ·
   exact (hvs t).2 (.inr (h.t t ht))
  ·
   rw [Ye] at ht; exact (hvs t).2 (.inl ht)
 ·
  rw [Yk,Ye,not_or] at hn
  rcases (hvs v).1 hv with rfl | hv
  ·
   exact absurd rfl hn.2
  ·
   exact (hvs w).2 (.inr (h.c v w hv hn.1 hvw))
 ·
  rcases List.mem_or_eq_of_mem_set hd with hd | rfl
  ·
   have:=h.b d hd; omega
  ·
   omega
theorem BF.start {es:List Ed} {bk:Bool} {n:Nat} {s:Int} (h0:0<=s) (h1:s<n) (hn:n<=200):BF es bk n s ((List.replicate n (-1:Int)).set s.toNat 0) [s]:=by
 have hl:s<(List.replicate n (-1:Int)).length:=by rw [Yg]; exact h1
 have hv:∀ v,Vis ((List.replicate n (-1:Int)).set s.toNat 0) v ↔ v=s:=fun v=>by
  rw [vis_set h0 hl (by omega)]
  refine ⟨fun h=>h.elim id fun h=>?_,.inl⟩
  obtain ⟨_,d,hd,h2⟩:=h
  have:=List.eq_of_mem_replicate (Yb hd)
  omega
 have hc:((List.replicate n (-1:Int)).set s.toNat 0).count (-1)<=200:=Yys List.count_le_length (by rw [Yyh,Yg]; exact hn)
 refine ⟨by rw [Yyh,Yg],(hv s).2 rfl,fun v h=>?_,fun t ht=>?_,fun v w h hn=>?_,fun d hd=>?_⟩
 ·
  rw [(hv v).1 h]; exact .refl
 ·
  rw [Ye] at ht; exact (hv t).2 ht
 ·
  rw [(hv v).1 h] at hn; exact absurd (Ye.2 rfl) hn
 ·
  rcases List.mem_or_eq_of_mem_set hd with hd | rfl
  ·
   rw [List.eq_of_mem_replicate hd]; omega
  ·
   omega
theorem BF.end_ {es:List Ed} {bk:Bool} {n:Nat} {s:Int} {D:List Int} (h:BF es bk n s D []) (v:Int):Vis D v ↔ Rch es bk s v:=by
 refine ⟨h.r v,fun hr=>?_⟩
 induction hr with
 | refl=>exact h.src
 | step _ hbc ih=>exact h.c _ _ ih (by simp) hbc
theorem BF.all {es:List Ed} {bk:Bool} {n:Nat} {s:Int} {D:List Int} (h:BF es bk n s D []):(-1:Int) ∈ D ↔ ¬ ∀ v:Int,0<=v->v<n->Rch es bk s v:=by
 constructor
 ·
  intro hm hall
  obtain ⟨j,hj⟩:=Yf.1 hm
  have hl:=(Ya.1 hj).1
  obtain ⟨_,d,hd,h0⟩:=(h.end_ (j:Int)).2 (hall j (by omega) (by have:=h.len; omega))
  rw [show ((j:Int)).toNat=j from rfl,hj] at hd; cases hd; omega
 ·
  intro hn
  apply Classical.byContradiction
  intro hm
  apply hn
  intro v h0 hv
  have hl:v.toNat<D.length:=by have:=h.len; omega
  refine (h.end_ v).1 ⟨h0,D[v.toNat],Yi hl,?_⟩
  have h1:=(h.b _ (List.getElem_mem hl)).1
  have h2:D[v.toNat] ≠ -1:=fun e=>hm (e ▸ List.getElem_mem hl)
  omega
end Go.VC
end

section
/- Contract: slices.Repeat of -1. -/
namespace Go.VC
open Go.Proofs Go.LexS

theorem und42:Pz.underlying 23=some (.slice 3):=by kernel_rfl
theorem size3:(Pz.info? 3).map (·.size)=some 1:=by kernel_rfl
theorem made3 (n:Nat):madeL Pz 3 n=List.replicate n (.int .i64 0):=by
 have hz:zeroC Pz 3=[.int .i64 0]:=by kernel_rfl
 unfold madeL
 rw [hz]
 induction n with
 | zero=>rfl
 | succ n ih=>rw [List.replicate_succ,Yyu,ih]; rfl
theorem rep_of {xs:List Value} {n:Nat} (hl:xs.length=n) (h:∀ j,j<n->xs[j]?=some (.int .i64 (-1))):xs=((List.replicate n (-1:Int)).map inC).flatten:=by
 subst hl
 induction xs with
 | nil=>rfl
 | cons a r ih=>
  have h0:=h 0 (by simp)
  simp only [List.getElem?_cons_zero,Option.some.injEq] at h0
  rw [Yyj,List.replicate_succ,Yyl,Yyu,<- ih fun j hj=>by have:=h (j+1) (by simpa using hj); simpa using this,h0]
  rfl
theorem wu64b {n:Int} (h0:0<=n) (h1:n<18446744073709551616):IntKind.wrap .u64 n=n:=by
 simp [IntKind.wrap,IntKind.signed,IntKind.bits]; omega
theorem splice_rep {xs:List Value} {o m:Nat} (hm:o+m<=xs.length) (h:∀ j,j<o->xs[j]?=some (.int .i64 (-1))):(splice xs o (List.replicate m (.int .i64 (-1)))).length=xs.length/\∀ j,j<o+m->(splice xs o (List.replicate m (.int .i64 (-1))))[j]?=some (.int .i64 (-1)):=by
 unfold splice
 refine ⟨by simp only [Yh,Yu,List.length_drop,Yg]; omega,fun j hj=>?_⟩
 by_cases hjo:j<o
 ·
  rw [Yz,Yyi (by rw [Yu]; omega),Yyf,if_pos hjo]; exact h j hjo
 ·
  rw [Yyi (by simp only [Yh,Yu,Yg]; omega),Yyc (by rw [Yu]; omega),Yu,List.getElem?_replicate,if_pos (by omega)]
theorem ext_but {h h1 h2:Heap} {b:Nat} (E:Ext h h1) (B:But b h1 h2) (hb:h.size<=b):Ext h h2:=⟨by rw [B.1]; exact E.1,fun k hk=>(B.2 k (by omega)).trans (E.2 k hk)⟩
theorem repeat60 (n:Int) (h0:0<=n) (h1:n<=200) (b:Nat) (h:Heap) (hb:hc h ⟨b,0,none⟩=some (.int .i64 (-1))) :
  Fn Pz 152 #[.slice (some ⟨b,0,none⟩) 1 1,.int .i64 n] h fun v h'=>Ext h h'/\∃ s:Sl,v=.slice s.a s.n s.c/\OwnS h' h.size 3 1 s ((List.replicate n.toNat (-1)).map inC).flatten:=by
 obtain ⟨N,rfl⟩:∃ N:Nat,n=N:=⟨n.toNat,by omega⟩
 have hN:N<=200:=by omega
 have hbl:b<h.size:=by
  rcases Nat.lt_or_ge b h.size with hlt | hge
  ·
   exact hlt
  ·
   unfold hc at hb
   rw [Array.getElem?_eq_none (by simpa using hge)] at hb
   cases hb
 apply vc152 ⟨some ⟨b,0,none⟩,1,1⟩; unfold W152
 refine ⟨fun h'=>h'=h,sB_f (decide_eq_false (by omega)) rfl,?_⟩
 rintro - _ rfl
 rw [show IntKind.wrap .u64 (((1:Nat):Int))=((1:Nat):Int) from wu64b (by omega) (by omega),show IntKind.wrap .u64 (N:Int)=((N:Nat):Int) from wu64b (by omega) (by omega)]
 refine (mul106 1 N (by omega) (by omega) _).mono ?_
 rintro _ h6 ⟨rfl,rfl⟩
 rw [show 1*N / 18446744073709551616=0 by omega,show 1*N % 18446744073709551616=N by omega]
 refine ⟨_,_,rfl,fun h'=>h'=h6,sB_f rfl (sB_f (decide_eq_false (by omega)) rfl),?_⟩
 rintro - h8 rfl
 rw [show IntKind.wrap .i64 ((N:Nat):Int)=N from w64 (by omega) (by omega)]
 refine ⟨⟨by omega,by omega,by omega⟩,?_⟩
 rw [Ys,made3]
 intro h9 hh9
 have o9:Own h9 h8.size (List.replicate N (.int .i64 0)) 3:=by rw [hh9]; exact Own.push
 have E9:Ext h8 h9:=by rw [hh9]; exact Ext.push _ _
 have hb9:hc h9 ⟨b,0,none⟩=some (.int .i64 (-1)):=by rw [E9.hc hbl]; exact hb
 refine Cpy_row und42 size3 o9 (g2:=b) (o2:=0) (l:=List.replicate (min 1 N) (.int .i64 (-1))) (by simp) ?_ (by simp; omega) (fun v hv=>by rw [List.eq_of_mem_replicate hv]; rfl) fun h11 B11 o11=>?_
 ·
  intro j c hj
  rw [List.getElem?_replicate] at hj
  split at hj
  ·
   cases hj; rw [show 0+j=0 by omega]; exact hb9
  ·
   cases hj
 obtain ⟨e1,e2⟩:=splice_rep (xs:=List.replicate N (.int .i64 0)) (o:=0) (m:=min 1 N) (by simp; omega) (fun j hj=>by omega)
 generalize hxs:splice (List.replicate N (Value.int .i64 0)) 0 (List.replicate (min 1 N) (.int .i64 (-1)))=xs at o11 e1 e2
 rw [Yg] at e1
 have E11:=ext_but E9 B11 (Yyt _)
 clear hxs B11 o9
 rw [Yg]
 refine ⟨fun x h' m=>∃ (i:Nat) (xs:List Value),x=i/\i<=N/\(1<=i\/N=0)/\m=N - i/\Own h' h8.size xs 3/\xs.length=N/\(∀ j,j<i->xs[j]?=some (.int .i64 (-1)))/\Ext h8 h',
  ⟨_,min 1 N,xs,rfl,by omega,by omega,rfl,o11,e1,fun j hj=>e2 j (by omega),E11⟩,?_⟩
 rintro - x h16 m ⟨i,xs,rfl,hi,hi1,rfl,o16,hl,hall,E16⟩
 refine sB_intro (fun c=>?_) (fun c=>?_)
 ·
  replace c:=lt_t c
  refine ⟨⟨by omega,by omega,by omega⟩,⟨by omega,by omega,by omega⟩,?_⟩
  rw [show Int.toNat ((i:Nat):Int)=i from Ys i,show Int.toNat ((N:Nat):Int)=N from Ys N,show Int.toNat 0=0 from rfl,subA_zero,subA_some c]
  refine Cpy_row und42 size3 o16 (g2:=h8.size) (o2:=0) (l:=List.replicate (min i (N - i)) (.int .i64 (-1))) (by simp) ?_ (by simp; omega) (fun v hv=>by rw [List.eq_of_mem_replicate hv]; rfl) fun h18 B18 o18=>?_
  ·
   intro j c hj
   rw [List.getElem?_replicate] at hj
   split at hj
   ·
    cases hj; rw [o16.hc]; exact hall _ (by omega)
   ·
    cases hj
  obtain ⟨e3,e4⟩:=splice_rep (xs:=xs) (o:=0+i*1) (m:=min i (N - i)) (by omega) (fun j hj=>hall j (by omega))
  rw [Yg]
  refine ⟨N - (i+min i (N - i)),by omega,i+min i (N - i),_,by rw [w64 (by omega) (by omega)]; omega,by omega,by omega,rfl,o18,by rw [e3]; exact hl,fun j hj=>e4 j (by omega),ext_but E16 B18 (Yyt _)⟩
 ·
  replace c:=lt_f c
  have hiN:i=N:=by omega
  subst hiN
  refine ⟨E16,⟨some ⟨h8.size,0,none⟩,i,i⟩,rfl,?_,.inr ⟨h8.size,⟨xs⟩,rfl,Yyt _,o16,Yyt _,?_,?_,?_⟩⟩
  ·
   rw [<- rep_of hl hall]; show xs.length=i*1; omega
  ·
   show i<=9223372036854775807; omega
  ·
   show xs.length=i*1; omega
  ·
   show xs.take (i*1)=_
   rw [Yj (by omega)]; exact rep_of hl hall
end Go.VC
end
