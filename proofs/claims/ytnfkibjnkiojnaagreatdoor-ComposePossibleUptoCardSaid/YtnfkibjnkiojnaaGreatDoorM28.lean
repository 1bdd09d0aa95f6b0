/- WkVcH WkZ WkAa WkAb WkAf WkVcR WkAg WkArgs. -/
import Derived.Test.YtnfkibjnkiojnaaGreatDoorM02
import Derived.Test.YtnfkibjnkiojnaaGreatDoorProg
import Derived.KernelRfl
import Derived.Test.YtnfkibjnkiojnaaGreatDoorM01
import Derived.Test.YtnfkibjnkiojnaaGreatDoorM27
import Derived.Test.YtnfkibjnkiojnaaGreatDoorM26
import Derived.Test.YtnfkibjnkiojnaaGreatDoorM22
import Derived.Test.YtnfkibjnkiojnaaGreatDoorM19
import Derived.Test.YtnfkibjnkiojnaaGreatDoorRows
set_option linter.unusedVariables false
set_option linter.unusedSimpArgs false
set_option maxRecDepth 100000

section
namespace Go.VC
open Go.Proofs

def W4 (p0:Sl) (p1:Int) (p2:Sl) (h:Heap) (R:Value->Heap->Prop):Prop:=
 (Fn Pz 12 #[] h
 (fun v1 h3=>∃ x2,iB v1 x2 /\
 (sB (!x2)
 (R (.bool false) h3)
 ((Fn Pz 13 #[vS p0,.agg ⟨[.slice none 0 0,.slice none 0 0]⟩] h3
 (fun v4 h6=>∃ x5,iB v4 x5 /\
 (sB (!x5)
 (R (.bool true) h6)
 ((Fn Pz 23 #[vS p0] h6
 (fun v7 h9=>∃ x8,iB v7 x8 /\
 (sB (!x8)
 (R (.bool true) h9)
 ((sB (decide ((p2.n:Int) > 40))
 (R (.bool true) h9)
 (((4:Int) ≠ 0/\(Fn Pz 26 #[vS p0,vI (IntKind.wrap .i64 (1+(Int.tmod (IntKind.wrap .i64 p1) 4))),vS p2] h9
 (fun v10 h14=>∃ (x11 x12 x13:Sl),v10=.tuple ⟨[vS x11,.agg ⟨[vS x12,vS x13]⟩]⟩ /\
 (Wn h14 [.slice none 0 0,.slice none 0 0] 26 fun h15=>
 (Wp h15 (aS h14 0) 2 [vS x12,vS x13] fun h16=>
 (∃ (x17 x18:Sl),atC h16 (aS h14 0) [vS x17,vS x18] /\
 (Fn Pz 17 #[.agg ⟨[vS x17,vS x18]⟩] h16
 (fun v19 h22=>∃ (x20 x21:Sl),v19=.agg ⟨[vS x20,vS x21]⟩ /\
 (Wn h22 [.slice none 0 0,.slice none 0 0] 29 fun h23=>
 (Wp h23 (aS h22 0) 2 [vS x20,vS x21] fun h24=>
 (∃ (x25 x26:Sl),atC h24 (aS h22 0) [vS x25,vS x26] /\
 (Fn Pz 16 #[vS p0,vI (IntKind.wrap .i64 (1+(Int.tmod (IntKind.wrap .i64 p1) 4))),.agg ⟨[vS x25,vS x26]⟩] h24
 (fun v27 h30=>∃ (x28:Sl) (x29:Int),v27=.tuple ⟨[vS x28,vI x29]⟩ /\
 (sB (x29 != 0)
 (R (.bool false) h30)
 ((QII 0 0 h30 fun I31 n_34 x_35 h36 m33=>(
 (sB (decide (x_35<(p0.n:Int)))
 ((NB p0.a fun b37 o38=>(Ib x_35 p0.n /\
 (∃ x39,rS h36 ⟨b37,o38+Int.toNat x_35*6+4,none⟩ x39 /\
 (QII n_34 0 h36 fun I40 n_43 x_44 h45 m42=>(
 (sB (decide (x_44<(x39.n:Int)))
 ((Wn h45 [vI 0,vI 0] 57 fun h46=>
 (Wp h46 (aS h45 0) 2 [vI x_35,vI x_44] fun h47=>
 (∃ (x48 x49:Sl),atC h47 (aS h22 0) [vS x48,vS x49] /\
 (∃ (x50 x51:Int),atC h47 (aS h45 0) [vI x50,vI x51] /\
 (Fn Pz 27 #[vS p0,vI (IntKind.wrap .i64 (1+(Int.tmod (IntKind.wrap .i64 p1) 4))),.agg ⟨[vS x48,vS x49]⟩,.agg ⟨[vI x50,vI x51]⟩] h47
 (fun v52 h56=>∃ (x53 x54:Sl) (x55:Int),v52=.tuple ⟨[.agg ⟨[vS x53,vS x54]⟩,vI x55]⟩ /\
 (Wn h56 [.slice none 0 0,.slice none 0 0] 29 fun h57=>
 (Wp h57 (aS h56 0) 2 [vS x53,vS x54] fun h58=>
 (QBI false 0 h58 fun I59 listed_62 x_63 h64 m61=>(
 (sB (decide (x_63<(x28.n:Int)))
 ((sB listed_62
 ((∃ m65,m65<m61/\I59 true (IntKind.wrap .i64 (x_63+1)) h64 m65))
 ((NB x28.a fun b66 o67=>(Ib x_63 x28.n /\
 (∃ (x68 x69:Int),atC h64 ⟨b66,o67+Int.toNat x_63*2,none⟩ [vI x68,vI x69] /\
 (∃ (x70 x71:Int),atC h64 (aS h45 0) [vI x70,vI x71] /\
 (∃ m72,m72<m61/\I59 ((x68 == x70) && ((x69 == x71) && true)) (IntKind.wrap .i64 (x_63+1)) h64 m72))))))))
 ((sB (!(listed_62 == (x55 == 0)))
 (R (.bool false) h64)
 ((sB (x55 == 0)
 ((∃ (x73 x74:Sl),atC h64 (aS h56 0) [vS x73,vS x74] /\
 (Fn Pz 24 #[vS p0,vI (IntKind.wrap .i64 (1+(Int.tmod (IntKind.wrap .i64 p1) 4))),.agg ⟨[vS x73,vS x74]⟩] h64
 (fun v75 h77=>∃ x76,iB v75 x76 /\
 (sB (!x76)
 (R (.bool false) h77)
 ((sB (x55 == 0)
 ((∃ m78,m78<m42/\I40 (IntKind.wrap .i64 (n_43+1)) (IntKind.wrap .i64 (x_44+1)) h77 m78))
 ((∃ m79,m79<m42/\I40 n_43 (IntKind.wrap .i64 (x_44+1)) h77 m79)))))))))
 ((sB (x55 == 0)
 ((∃ m80,m80<m42/\I40 (IntKind.wrap .i64 (n_43+1)) (IntKind.wrap .i64 (x_44+1)) h64 m80))
 ((∃ m81,m81<m42/\I40 n_43 (IntKind.wrap .i64 (x_44+1)) h64 m81))))))))))))))))))))
 ((∃ m82,m82<m33/\I31 n_43 (IntKind.wrap .i64 (x_35+1)) h45 m82)))))))))
 (R (.bool (n_34 == (x28.n:Int))) h36)))))))))))))))))))))))))))))))))
theorem vc4 (p0:Sl) (p1:Int) (p2:Sl) (h:Heap) (R:Value->Heap->Prop) (H:W4 p0 p1 p2 h R):Fn Pz 4 #[vS p0,.int .u8 p1,vS p2] h R:=fnI (A:=(.s .z (.s .z (.s .z (.s .z (.s .z (.s .z (.s .z (.s .z (.s .z (.s (.s .z (.b (.l [(13,.one (.int .i64)),(61,.one (.int .i64))] (.s .z (.s .z (.s (.b (.s .z (.s .z (.b (.l [(13,.one (.int .i64)),(70,.one (.int .i64))] (.s .z (.s .z (.s (.b (.s .z (.s .z (.s .z (.s .z (.s (.s .z (.b (.l [(19,.one (.bool)),(86,.one (.int .i64))] .z))) .z)))))) .z)))))))) .z)))))) .z))))))))))) (by kernel_rfl) H

def W26 (p0:Sl) (p1:Int) (p2:Sl) (h:Heap) (R:Value->Heap->Prop):Prop:=
 (Wn h [.slice none 0 0,.slice none 0 0] 26 fun h1=>
 (Fn Pz 46 #[vS p0] h1
 (fun v2 h5=>∃ (x3 x4:Sl),v2=.agg ⟨[vS x3,vS x4]⟩ /\
 (Wn h5 [.slice none 0 0,.slice none 0 0] 26 fun h6=>
 (Wp h6 (aS h5 0) 2 [vS x3,vS x4] fun h7=>
 (QSI ⟨none,0,0⟩ 0 h7 fun I8 out_11 i_12 h13 m10=>(
 (sB (decide (i_12<(p2.n:Int)))
 ((∃ (x14 x15:Sl),atC h13 (aS h5 0) [vS x14,vS x15] /\
 (Fn Pz 48 #[vS p0,vI p1,.agg ⟨[vS x14,vS x15]⟩] h13
 (fun v16 h18=>∃ x17,iS v16 x17 /\
 (sB ((x17.n:Int) == 0)
 ((∃ (x19 x20:Sl),atC h18 (aS h5 0) [vS x19,vS x20] /\
 (Wp h18 (aS h 0) 2 [vS x19,vS x20] fun h21=>
 (∃ (x22 x23:Sl),atC h21 (aS h 0) [vS x22,vS x23] /\
 R (.tuple ⟨[vS out_11,.agg ⟨[vS x22,vS x23]⟩]⟩) h21))))
 ((NB p2.a fun b24 o25=>(Ib i_12 p2.n /\
 (∃ x26:Int,hc h18 ⟨b24,o25+Int.toNat i_12*1,none⟩=some (.int .u8 x26) /\
 ((x17.n:Int) ≠ 0/\(NB x17.a fun b27 o28=>((0<=((Int.tmod (IntKind.wrap .i64 x26) (x17.n:Int)):Int)/\((Int.tmod (IntKind.wrap .i64 x26) (x17.n:Int)):Int)<(x17.n:Nat)) /\
 (∃ (x29 x30:Int),atC h18 ⟨b27,o28+Int.toNat (Int.tmod (IntKind.wrap .i64 x26) (x17.n:Int))*2,none⟩ [vI x29,vI x30] /\
 (Wn h18 [vI 0,vI 0] 60 fun h31=>
 (Wp h31 (aS h18 0) 2 [vI x29,vI x30] fun h32=>
 (∃ (x33 x34:Int),atC h32 (aS h18 0) [vI x33,vI x34] /\
 (Wn h32 [vI x33,vI x34] 60 fun h35=>
 (App Pz 39 39 (vS out_11) (.slice (some (aS h32 0)) 1 1) h35 fun s36 h37=>
 (∃ (x38 x39:Sl),atC h37 (aS h5 0) [vS x38,vS x39] /\
 (∃ (x40 x41:Int),atC h37 (aS h18 0) [vI x40,vI x41] /\
 (Fn Pz 56 #[vS p0,.agg ⟨[vS x38,vS x39]⟩,.agg ⟨[vI x40,vI x41]⟩] h37
 (fun v42 h45=>∃ (x43 x44:Sl),v42=.agg ⟨[vS x43,vS x44]⟩ /\
 (Wp h45 (aS h5 0) 2 [vS x43,vS x44] fun h46=>
 (∃ m47,m47<m10/\I8 s36 (IntKind.wrap .i64 (i_12+1)) h46 m47))))))))))))))))))))))))
 ((∃ (x48 x49:Sl),atC h13 (aS h5 0) [vS x48,vS x49] /\
 (Wp h13 (aS h 0) 2 [vS x48,vS x49] fun h50=>
 (∃ (x51 x52:Sl),atC h50 (aS h 0) [vS x51,vS x52] /\
 R (.tuple ⟨[vS out_11,.agg ⟨[vS x51,vS x52]⟩]⟩) h50))))))))))))
theorem vc26 (p0:Sl) (p1:Int) (p2:Sl) (h:Heap) (R:Value->Heap->Prop) (H:W26 p0 p1 p2 h R):Fn Pz 26 #[vS p0,vI p1,vS p2] h R:=fnI (A:=(.s .z (.s .z (.s .z (.s (.s .z (.b (.l [(9,.one (.slice)),(10,.one (.int .i64))] .z))) .z))))) (by kernel_rfl) H

end Go.VC
end

section
/- Contract: Walk. (Numbers of layer 27's development dump.) -/
namespace Go.VC
open Go.Proofs Go.LexS
def u8C (b:Int):List Value:=[.int .u8 b]
theorem w8 {b:Int} (h0:0<=b) (h1:b<256):IntKind.wrap .i64 b=b:=w64 (by omega) (by omega)
theorem xpro_start {L:List Mch} {k:Int} (hV:SysV L) (hk:1<=k/\k<=4):ProS L k (startS L) ((List.replicate (L.length*L.length) bx0).map Bx.l):=by
 refine ⟨hV,hk,⟨by unfold startS; rw [Yc],by rw [Yc,Yg],fun p s m h1 h2=>?_,fun i b hb=>?_⟩⟩
 ·
  unfold startS at h1
  rw [Yd,h2] at h1
  cases h1
  exact (hV.m p m h2).2.1.n.s
 ·
  obtain ⟨q,hq,rfl⟩:=Yp.1 (Yb hb)
  rw [List.eq_of_mem_replicate hq]
  exact ⟨by show ((0:Nat):Int)<=k; omega,fun _=>rfl,fun x hx=>by cases hx⟩
theorem doS_at {L:List Mch} {k:Int} {S:List Int} {BL:List (List Int)} {a b:Nat} {m:Mch} {x:Mv} (hP:ProS L k S BL) (gm:L[a]?=some m) (gx:m.mv[b]?=some x):doS L k S BL (a:Int) (b:Int)=if canS L.length k S BL a x=0 then (0,S.set a x.t,doB L.length a x BL) else (canS L.length k S BL a x,[],[]):=by
 have ha:=(Ya.1 gm).1
 have hb:=(Ya.1 gx).1
 have hmo:mvO L (a:Int) (b:Int)=some x:=by
  unfold mvO
  rw [if_neg (by omega),Ys,gm]
  dsimp only
  rw [if_neg (by omega),Ys,gx]
 unfold doS
 rw [if_pos hP,hmo,Ys]
noncomputable def stpS (L:List Mch) (k:Int) (c:List Int × List (List Int)) (q:Nat × Nat):Option (List Int × List (List Int)):=if (doS L k c.1 c.2 (q.1:Int) (q.2:Int)).1=0 then some (doS L k c.1 c.2 (q.1:Int) (q.2:Int)).2 else none
noncomputable def runS (L:List Mch) (k:Int) (l:List (Nat × Nat)):Option (List Int × List (List Int)):=l.foldl (fun o q=>o.bind fun c=>stpS L k c q) (some (startS L,(List.replicate (L.length*L.length) bx0).map Bx.l))
theorem runS_snoc {L:List Mch} {k:Int} {l:List (Nat × Nat)} {q:Nat × Nat}:runS L k (l++[q])=(runS L k l).bind fun c=>stpS L k c q:=by
 unfold runS; rw [List.foldl_append]; rfl
theorem stpS_ok {L:List Mch} {k:Int} {S:List Int} {BL:List (List Int)} {a b:Nat} {m:Mch} {x:Mv} (hP:ProS L k S BL) (gm:L[a]?=some m) (gx:m.mv[b]?=some x) (hc:canS L.length k S BL a x=0):stpS L k (S,BL) (a,b)=some (S.set a x.t,doB L.length a x BL):=by
 unfold stpS
 rw [doS_at hP gm gx,if_pos hc,if_pos rfl]
def WalV (L:List Mch) (k:Int) (h:Heap) (v:Value) (h':Heap):Prop:=∃ (out ts tb:Sl) (S:List Int) (T:List Bx) (l:List (Nat × Nat)) (A:List It),v=.tuple ⟨[.slice out.a out.n out.c,cfA ts tb]⟩/\St h h' A/\CfM A ts tb S T/\ProS L k S (T.map Bx.l)/\It.sl out 60 2 (l.map stpC) ∈ A/\runS L k l=some (S,T.map Bx.l)/\l.length<=1048576
theorem steps_mem {L:List Mch} {k:Int} {S:List Int} {BL:List (List Int)} {a b:Nat} (h:(a,b) ∈ stepsS L k S BL):∃ m x,L[a]?=some m/\m.mv[b]?=some x/\canS L.length k S BL a x=0:=by
 unfold stepsS at h
 obtain ⟨p,_,h⟩:=List.mem_flatMap.1 h
 unfold stepsR at h
 cases gm:L[p]? with
 | none=>rw [gm] at h; cases h
 | some m=>
  rw [gm] at h
  obtain ⟨i,hi,e⟩:=Yp.1 h
  cases e
  unfold stepsP at hi
  obtain ⟨h1,h2⟩:=List.mem_filter.1 hi
  obtain ⟨x,gx,_⟩:=outIx_mem.1 ((mvS_srt m _).1.mem_iff.1 h1)
  refine ⟨m,x,gm,gx,?_⟩
  have:=Yyn h2
  rwa [mvD_of gx] at this
set_option maxHeartbeats 3200000 in
theorem walk26 (L:List MR) (s:Sl) (k:Int) (D:List Int) (ds:Sl) (h:Heap) (hS:SyI h s L) (hV:SysV (L.map MR.m)) (hk:1<=k/\k<=4) (hD:RL h 1 ds u8C D) (hb:∀ b ∈ D,0<=b/\b<256) :
  Fn Pz 26 #[.slice s.a s.n s.c,.int .i64 k,.slice ds.a ds.n ds.c] h (WalV (L.map MR.m) k h):=by
 apply vc26 s k ds; unfold W26
 have hlm:(L.map MR.m).length=L.length:=Yc _
 have hV6:=hV.n
 rw [hlm] at hV6
 have hdn:=hD.ln
 have h36:=sq6 hV6.2
 have hds:=hD.sm
 refine (St.refl h).newb fun h1 hs=>?_
 refine (first46 L s h1 (hS.ext hs.ext) hV6.2).mono ?_
 rintro _ h5 ⟨ss,sb,A,rfl,hs1,hM⟩
 have hs:=hs.join hs1
 refine ⟨ss,sb,rfl,?_⟩
 refine hs.newput (vs:=[.slice ss.a ss.n ss.c,.slice sb.a sb.n sb.c]) rfl rfl fun h7 hs=>?_
 have hs:=hs.nil_ 60 2
 have hpro:=xpro_start (k:=k) hV hk
 rw [hlm] at hpro
 refine ⟨fun out x h' μ=>∃ (i:Nat) (S:List Int) (T:List Bx) (l:List (Nat × Nat)) (A:List It) (ts tb:Sl),x=(i:Int)/\μ=D.length - i/\i<=D.length/\l.length=i/\St h h' (.sl out 60 2 (l.map stpC) :: .blk h5.size [.slice ts.a ts.n ts.c,.slice tb.a tb.n tb.c] 26 :: .blk h.size [.slice none 0 0,.slice none 0 0] 26::A)/\CfM A ts tb S T/\ProS (L.map MR.m) k S (T.map Bx.l)/\runS (L.map MR.m) k l=some (S,T.map Bx.l),⟨_,0,_,_,[],A,ss,sb,rfl,rfl,Nat.zero_le _,rfl,hs,hM,hpro,by unfold runS; rw [List.foldl_nil,hlm]⟩,?_⟩
 clear hs hM hpro hs1
 rintro - out _ h13 μ ⟨i,S,T,l,A,ts,tb,rfl,rfl,hi,hll,hs,hM,hP,hR⟩
 have hC:∀ {h':Heap} {A':List It},St h h' (A'++A)->CfI h' ts tb S T:=fun hs=>(hM.mono fun i hi=>List.mem_append_right _ hi).cfi hs
 have hSl:S.length=L.length:=by rw [hP.p.s,hlm]
 have hTl:T.length=L.length*L.length:=by rw [<- Yc (f:=Bx.l),hP.p.b,hlm]
 refine sBi (fun c=>?_) (fun c=>?_)
 ·
  refine ⟨ts,tb,hs.at 1 rfl (o:=0) (n:=2) rfl,?_⟩
  refine (refAll48 L s k ts tb S T h13 (hS.ext hs.ext) hV (hC (A':=[_,_,_]) hs) hSl hTl).mono ?_
  rintro _ h18 ⟨E,r,rfl,hr⟩
  have hs:=hs.step E
  have hrn:=hr.ln
  refine ⟨r,rfl,sBe (fun c2=>?_) (fun c2=>?_)⟩
  ·
   refine ⟨ts,tb,hs.at 1 rfl (o:=0) (n:=2) rfl,?_⟩
   refine hs.put 2 rfl (o:=0) (vs:=[.slice ts.a ts.n ts.c,.slice tb.a tb.n tb.c]) rfl (show 2<=2 by decide) fun h21 hs=>?_
   exact ⟨ts,tb,hs.at 2 rfl (o:=0) (n:=2) rfl,out,ts,tb,S,T,l,_,rfl,hs,hM.mono fun i hi=>Yn _ (Yn _ (Yn _ hi)),hP,Yx,hR,by omega⟩
  ·
   obtain ⟨d,gd⟩:=get_some (l:=D) (i:=i) (by omega)
   have hd:=hb d (Yb gd)
   refine (hD.rw.ext hs.ext).nbI (by omega) (by omega) fun b24 o25 d' gd' t=>?_
   rw [Ys,gd] at gd'; cases gd'
   refine ⟨d,t.hd,c2,?_⟩
   rw [w8 hd.1 hd.2]
   obtain ⟨dn,rfl⟩:∃ dn:Nat,d=(dn:Int):=⟨d.toNat,by omega⟩
   rw [tmod_nat]
   have hlt:dn % r.n<r.n:=Nat.mod_lt _ (by omega)
   refine hr.rw.nbI (by omega) (by omega) fun b27 o28 q gq t2=>?_
   obtain ⟨a,b⟩:=q
   obtain ⟨m,x,gm,gx,hc⟩:=steps_mem (Yb gq)
   refine ⟨(a:Int),(b:Int),t2,?_⟩
   refine hs.newput (vs:=stpC (a,b)) rfl rfl fun h32 hs=>?_
   refine ⟨_,_,hs.at 0 rfl (o:=0) (n:=2) rfl,?_⟩
   have hon:=(hs.rows 1 (s:=out) (cs:=stpC) rfl (by omega)).ln
   refine hs.app 1 (s:=out) (n:=2) (rows:=l.map stpC) rfl app39 (m:=1) [stpC (a,b)] rfl rfl (fun r hr=>by rw [Ye] at hr; rw [hr]; rfl) rfl (by omega) (by simp only [maxLen]; omega) fun o2 h37 no hs=>?_
   refine ⟨ts,tb,hs.at 2 rfl (o:=0) (n:=2) rfl,(a:Int),(b:Int),hs.at 0 rfl (o:=0) (n:=2) rfl,?_⟩
   have gm0:=gm
   rw [Yd] at gm
   cases gy:L[a]? with
   | none=>rw [gy] at gm; cases gm
   | some y=>
    rw [gy] at gm; cases gm
    have hxm:=Yb gx
    have hp:=(Ya.1 gy).1
    have hvm:=hV.m a y.m gm0
    have hx0:0<=x.peer:=(hvm.2.1.n.mv x hxm).2.2.2.2.1
    have hx1:x.peer<(L.length:Int):=by have:=hvm.2.2 x hxm; rw [hlm] at this; exact this
    have hj:=bxI_lt (n:=L.length) (x:=x) hp hx0 hx1
    obtain ⟨q,gq2⟩:=get_some (l:=T) (i:=bxI L.length a x) (by omega)
    have hall:∀ z ∈ T,z.l.length<=4:=fun z hz=>by
     obtain ⟨j',gj⟩:=Yf.1 hz
     have:=(hP.p.bx j' z.l (by rw [Yd,gj]; rfl)).1
     omega
    have hqm:=Yb gq2
    have hql:(T.map Bx.l).getD (bxI L.length a x) []=q.l:=getD_map gq2
    have hpd:=pro_do hP gm0 hxm hc
    have hR2:runS (L.map MR.m) k (l++[(a,b)])=some (S.set a x.t,doB (L.map MR.m).length a x (T.map Bx.l)):=by
     rw [runS_snoc,hR]
     exact stpS_ok hP gm0 gx hc
    rw [hlm] at hc hpd hR2
    refine (next56 L L.length s ts tb S T a b y x q (if x.send=true then q.l++[x.label] else q.l.tail) h37 (hS.ext hs.ext) (hC (A':=[_,_,_,_]) hs) rfl hV6.2 gy gx hx0 hx1 hSl hTl gq2 (hall q hqm) rfl (fun d=>?_)).mono ?_
    ·
     unfold canS at hc
     rw [hql] at hc
     split at hc
     ·
      exact absurd hc (by decide)
     ·
      rw [if_neg (by rw [d]; decide)] at hc
      cases hq:q.l with
      | nil=>rw [hq] at hc; exact absurd hc (show ¬ ((23:Int)=0) by decide)
      | cons a b=>rw [Yyj]; omega
    ·
     rintro _ h45 ⟨t2,b2,u,rfl,hs2⟩
     have hs:=hs.join hs2
     refine ⟨t2,b2,rfl,?_⟩
     refine hs.put 2 rfl (o:=0) (vs:=[.slice t2.a t2.n t2.c,.slice b2.a b2.n b2.c]) rfl (show 2<=2 by decide) fun h46 hs=>?_
     refine ⟨_,(show D.length - (i+1)<D.length - i by omega),i+1,S.set a x.t,T.set (bxI L.length a x) ⟨u,if x.send=true then q.l++[x.label] else q.l.tail⟩,l++[(a,b)],A++_,t2,b2,by rw [w64 (by omega) (by omega)]; omega,rfl,by omega,by rw [Yh,Yv,hll],by rw [Ym]; exact hs.drop 1,⟨List.mem_append_right _ Yx,List.mem_append_right _ (Yn _ Yx),fun z hz=>?_,by rw [Yyh]; omega,by rw [Yyh]; omega,fun z hz=>?_⟩,?_⟩
     ·
      rcases List.mem_or_eq_of_mem_set hz with hz | rfl
      ·
       exact (hM.i z hz).imp id (Or.imp (List.mem_append_left _) (List.mem_append_left _))
      ·
       exact .inr (.inl (List.mem_append_right _ (Yn _ (Yn _ Yx))))
     ·
      rcases List.mem_or_eq_of_mem_set hz with hz | rfl
      ·
       have:=hall z hz; omega
      ·
       have:=hall q hqm
       dsimp only
       split
       ·
        rw [Yh,Yv]; omega
       ·
        rw [List.length_tail]; omega
     ·
      have e:(T.set (bxI L.length a x) ⟨u,if x.send=true then q.l++[x.label] else q.l.tail⟩).map Bx.l=doB L.length a x (T.map Bx.l):=by
       rw [List.map_set]; unfold doB; rw [hql]
      rw [e]; exact ⟨hpd,hR2⟩
 ·
  refine ⟨ts,tb,hs.at 1 rfl (o:=0) (n:=2) rfl,?_⟩
  refine hs.put 2 rfl (o:=0) (vs:=[.slice ts.a ts.n ts.c,.slice tb.a tb.n tb.c]) rfl (show 2<=2 by decide) fun h21 hs=>?_
  exact ⟨ts,tb,hs.at 2 rfl (o:=0) (n:=2) rfl,out,ts,tb,S,T,l,_,rfl,hs,hM.mono fun i hi=>Yn _ (Yn _ (Yn _ hi)),hP,Yx,hR,by omega⟩
end Go.VC
end

section
/- The law ComposePossible. (Numbers of layer 27's development dump.) -/
namespace Go.VC
open Go.Proofs Go.LexS
theorem stepsR_card {L:List Mch} {n:Nat} {k:Int} {S:List Int} {BL:List (List Int)} {p:Nat} {m:Mch} (gm:L[p]?=some m):(stepsR n k S BL L p).length=((List.range m.mv.length).filter (posB n k S BL p m)).length:=by
 unfold stepsR
 rw [gm]
 show ((stepsP n k S BL p m).map _).length=_
 rw [Yc,pos_ix]
 unfold stepsP
 exact ((mvS_srt m _).1.filter _).length_eq
theorem mem_steps {L:List Mch} {k:Int} {S:List Int} {BL:List (List Int)} {a b:Nat} {m:Mch} {x:Mv} (gm:L[a]?=some m) (gx:m.mv[b]?=some x) (hc:canS L.length k S BL a x=0):(a,b) ∈ stepsS L k S BL:=by
 have hb:b<m.mv.length:=(Ya.1 gx).1
 have hpos:posB L.length k S BL a m b=true:=by unfold posB; rw [mvD_of gx]; exact decide_eq_true hc
 have h1:b ∈ (List.range m.mv.length).filter (posB L.length k S BL a m):=List.mem_filter.2 ⟨List.mem_range.2 hb,hpos⟩
 rw [pos_ix] at h1
 have h2:=((mvS_srt m (S.getD a 0)).1.filter (posB L.length k S BL a m)).mem_iff.2 h1
 unfold stepsS
 refine List.mem_flatMap.2 ⟨a,List.mem_range.2 (Ya.1 gm).1,?_⟩
 unfold stepsR
 rw [gm]
 exact Yp.2 ⟨b,h2,rfl⟩
theorem len_flat {α:Type} (f:Nat->List α) (i:Nat):((List.range (i+1)).flatMap f).length=((List.range i).flatMap f).length+(f i).length:=by
 rw [List.range_succ,List.flatMap_append,List.flatMap_cons,List.flatMap_nil,Yw,Yh]
theorem len_filt (f:Nat->Bool) (i:Nat):((List.range (i+1)).filter f).length=((List.range i).filter f).length+(if f i=true then 1 else 0):=by
 rw [List.range_succ,List.filter_append,Yh]
 cases h:f i <;> simp [List.filter,h]
end Go.VC
end

section
/- The law ComposePossible. (Numbers of layer 27's development dump.) -/
namespace Go.VC
open Go.Proofs Go.LexS
theorem room4 {p:Int} (h0:0<=p) (h1:p<256):1<=IntKind.wrap .i64 (1+Int.tmod (IntKind.wrap .i64 p) 4)/\IntKind.wrap .i64 (1+Int.tmod (IntKind.wrap .i64 p) 4)<=4:=by
 obtain ⟨n,rfl⟩:∃ n:Nat,p=(n:Int):=⟨p.toNat,by omega⟩
 rw [w8 h0 h1,show Int.tmod (n:Int) 4=((n % 4:Nat):Int) from tmod_nat n 4]
 have:n % 4<4:=Nat.mod_lt _ (by decide)
 rw [w64 (by omega) (by omega)]
 omega
set_option maxHeartbeats 3200000 in
theorem composePossible4 (L:List MR) (s:Sl) (p1:Int) (D:List Int) (ds:Sl) (h:Heap) (hx:Gx h) (hS:SyI h s L) (hp0:0<=p1) (hp1:p1<256) (hD:RL h 1 ds u8C D) (hb:∀ b ∈ D,0<=b/\b<256) :
  Fn Pz 4 #[.slice s.a s.n s.c,.int .u8 p1,.slice ds.a ds.n ds.c] h fun v h'=>v=.bool true/\Ext h h':=by
 apply vc4 s p1 ds; unfold W4
 have hk:=room4 hp0 hp1
 generalize IntKind.wrap .i64 (1+Int.tmod (IntKind.wrap .i64 p1) 4)=k at *
 have hlm:(L.map MR.m).length=L.length:=Yc _
 have hn:=hS.r.ln
 refine (awake12 h hx).mono ?_
 rintro _ h3 ⟨rfl,E3⟩
 refine ⟨true,rfl,sB_f rfl ?_⟩
 refine (fewC13 L s ⟨none,0,0⟩ ⟨none,0,0⟩ [] [] h3 (hS.ext E3) CfI.none_).mono ?_
 rintro _ h6 ⟨⟨b,rfl,-⟩,E⟩
 have E6:=E3.trans E
 refine ⟨b,rfl,sB_intro (fun c=>⟨rfl,E6⟩) (fun _=>?_)⟩
 refine (refSys23 L s h6 (hS.ext E6)).mono ?_
 rintro _ h9 ⟨⟨b2,rfl,hb2⟩,E⟩
 have E9:=E6.trans E
 refine ⟨b2,rfl,sB_intro (fun c=>⟨rfl,E9⟩) (fun c=>?_)⟩
 have hV:=hb2.1 (bT c)
 have hV6:=hV.n
 rw [hlm] at hV6
 refine sBi (fun c=>⟨rfl,E9⟩) (fun c40=>⟨by decide,?_⟩)
 refine (walk26 L s k D ds h9 (hS.ext E9) hV hk (hD.ext E9) hb).mono ?_
 rintro _ h14 ⟨out,ts,tb,S,T,l,A,rfl,hs,hM,hP,-⟩
 have hs:=((St.refl h).step E9).join hs
 have hM:=hM.mono (A':=[]++A) fun i hi=>List.mem_append_right _ hi
 refine ⟨out,ts,tb,rfl,?_⟩
 refine hs.newput (vs:=[.slice ts.a ts.n ts.c,.slice tb.a tb.n tb.c]) rfl rfl fun h16 hs=>?_
 refine ⟨ts,tb,hs.at 0 rfl (o:=0) (n:=2) rfl,?_⟩
 refine (own17 ts tb h16).mono ?_
 rintro _ h22 ⟨rfl,E⟩
 have hs:=hs.step E
 refine ⟨ts,tb,rfl,?_⟩
 refine hs.newput (vs:=[.slice ts.a ts.n ts.c,.slice tb.a tb.n tb.c]) rfl rfl fun h24 hs=>?_
 refine ⟨ts,tb,hs.at 0 rfl (o:=0) (n:=2) rfl,?_⟩
 have hC:=(hM.mono fun i hi=>Yn _ (Yn _ hi)).cfi hs
 refine (steps16 L s k ts tb S T h24 (hS.ext hs.ext) hC).mono ?_
 rintro _ h30 ⟨E30,r,e,l0,rfl,hr,hp,-⟩
 obtain ⟨rfl,rfl⟩:=hp hP
 have hs:=hs.step E30
 have hC:=hC.ext E30
 refine ⟨r,0,rfl,sB_f rfl ?_⟩
 have hat:atC h30 ⟨h22.size,0,none⟩ [.slice ts.a ts.n ts.c,.slice tb.a tb.n tb.c]:=hs.at 0 rfl (o:=0) (n:=2) rfl
 have hS30:=hS.ext hs.ext
 have hE0:=hs.ext
 clear hs hM E30 hS hD hx
 have hrn:=hr.ln
 have hLL:stepsS (L.map MR.m) k S (T.map Bx.l)=(List.range L.length).flatMap (stepsR L.length k S (T.map Bx.l) (L.map MR.m)):=by unfold stepsS; rw [hlm]
 have hmem:∀ (i j:Nat) (m:Mch) (x:Mv),(L.map MR.m)[i]?=some m->m.mv[j]?=some x->(canS L.length k S (T.map Bx.l) i x=0 ↔ (i,j) ∈ stepsS (L.map MR.m) k S (T.map Bx.l)):=fun i j m x gm gx=>by
  constructor
  ·
   intro hc
   exact mem_steps gm gx (by rw [hlm]; exact hc)
  ·
   intro hc
   obtain ⟨m',x',gm',gx',hc⟩:=steps_mem hc
   rw [gm] at gm'; cases gm'
   rw [gx] at gx'; cases gx'
   rwa [hlm] at hc
 have hdone:(((List.range L.length).flatMap (stepsR L.length k S (T.map Bx.l) (L.map MR.m))).length:Int)=(r.n:Int):=by rw [hrn,hLL]
 have hrsz:r.n<=2400:=by
  rw [hrn,hLL]
  have:=steps_len (n:=L.length) (k:=k) (S:=S) (BL:=T.map Bx.l) hV L.length
  omega
 generalize hSS:stepsS (L.map MR.m) k S (T.map Bx.l)=SS at *
 refine ⟨fun n x h' μ=>∃ i:Nat,x=(i:Int)/\μ=L.length - i/\i<=L.length/\n=(((List.range i).flatMap (stepsR L.length k S (T.map Bx.l) (L.map MR.m))).length:Nat)/\Ext h30 h',⟨_,0,rfl,rfl,Nat.zero_le _,rfl,.rfl'⟩,?_⟩
 rintro - _ _ h36 μ ⟨i,rfl,rfl,hi,rfl,E36⟩
 have hsl:=steps_len (n:=L.length) (k:=k) (S:=S) (BL:=T.map Bx.l) hV i
 refine sBi (fun c1=>?_) (fun c1=>?_)
 ·
  obtain ⟨y,gy⟩:=get_some (l:=L) (i:=i) (by omega)
  have gm:(L.map MR.m)[i]?=some y.m:=by rw [Yd,gy]; rfl
  have hyi:=hS30.i y (Yb gy)
  have hvm:=hV.m i y.m gm
  have hml:=hvm.2.1.n.ml
  have hgl:=hyi.pm.ln
  refine (hS30.r.rw.ext E36).nbI (by omega) (by omega) fun b o y' gy' t=>?_
  rw [Ys] at gy'
  replace gy':L[i]?=some y':=gy'
  rw [gy] at gy'; cases gy'
  refine ⟨y.g,t.nth 4 rfl,?_⟩
  refine ⟨fun n x h' μ=>∃ j:Nat,x=(j:Int)/\μ=y.m.mv.length - j/\j<=y.m.mv.length/\n=((((List.range i).flatMap (stepsR L.length k S (T.map Bx.l) (L.map MR.m))).length+((List.range j).filter (posB L.length k S (T.map Bx.l) i y.m)).length:Nat):Int)/\Ext h30 h',⟨_,0,rfl,rfl,Nat.zero_le _,rfl,E36⟩,?_⟩
  rintro - _ _ h45 μ ⟨j,rfl,rfl,hj,rfl,E45⟩
  have hfl:((List.range j).filter (posB L.length k S (T.map Bx.l) i y.m)).length<=j:=Yys (List.length_filter_le _ _) (by rw [Yyd]; exact Yyt _)
  refine sBi (fun c2=>?_) (fun c2=>?_)
  ·
   obtain ⟨x,gx⟩:=get_some (l:=y.m.mv) (i:=j) (by omega)
   have hxm:=Yb gx
   refine ((St.refl h30).step E45).newput (vs:=[.int .i64 (i:Int),.int .i64 (j:Int)]) rfl rfl fun h47 hs2=>?_
   have hat45:atC h47 ⟨h45.size,0,none⟩ [.int .i64 (i:Int),.int .i64 (j:Int)]:=hs2.at 0 rfl (o:=0) (n:=2) rfl
   refine ⟨ts,tb,atC_ext hs2.ext hat,(i:Int),(j:Int),hat45,?_⟩
   have hpd:=pro_do hP gm hxm
   have hdo:=do27 L s k ts tb S T (i:Int) (j:Int) h47 (hS30.ext hs2.ext) (hC.ext hs2.ext)
   obtain ⟨o,ho⟩:∃ o,o=doS (L.map MR.m) k S (T.map Bx.l) (i:Int) (j:Int):=⟨_,rfl⟩
   rw [<- ho] at hdo
   rw [doS_at hP gm gx,hlm] at ho
   rw [hlm] at hpd
   have hcan:o.1=0 ↔ canS L.length k S (T.map Bx.l) i x=0:=by
    rw [ho]; split
    ·
     rename_i c; exact iff_of_true rfl c
    ·
     exact Iff.rfl
   have hin:=hcan.trans (hmem i j y.m x gm gx)
   have hposj:posB L.length k S (T.map Bx.l) i y.m j=true ↔ o.1=0:=by
    unfold posB; rw [mvD_of gx,decide_eq_true_eq]; exact hcan.symm
   refine hdo.mono ?_
   rintro _ h56 ⟨us,ub,U,A2,rfl,hU,hs3,hM3⟩
   refine ⟨us,ub,o.1,rfl,?_⟩
   refine hs3.newput (vs:=[.slice us.a us.n us.c,.slice ub.a ub.n ub.c]) rfl rfl fun h58 hs4=>?_
   have E58:=hs2.ext.trans hs4.ext
   have hat58:=atC_ext hs4.ext hat45
   refine ⟨fun b x h' μ=>∃ q:Nat,x=(q:Int)/\μ=SS.length - q/\q<=SS.length/\h'=h58/\(b=true ↔ (i,j) ∈ SS.take q),⟨_,0,rfl,rfl,Nat.zero_le _,rfl,by simp⟩,?_⟩
   rintro - b _ h64 μ ⟨q,rfl,rfl,hq,rfl,hb3⟩
   refine sBi (fun c3=>?_) (fun c3=>?_)
   ·
    obtain ⟨z,gz⟩:=get_some (l:=SS) (i:=q) (by omega)
    have htk:SS.take (q+1)=SS.take q++[z]:=by rw [List.take_add_one,gz]; rfl
    refine sB_intro (fun cb=>?_) (fun cb=>?_)
    ·
     exact ⟨_,(show SS.length - (q+1)<SS.length - q by omega),q+1,by rw [w64 (by omega) (by omega)]; omega,rfl,by omega,rfl,iff_of_true rfl (by rw [htk]; exact List.mem_append_left _ (hb3.1 cb))⟩
    ·
     refine (hr.rw.ext E58).nbI (by omega) (by omega) fun b4 o4 z' gz' t4=>?_
     rw [Ys,gz] at gz'; cases gz'
     obtain ⟨z1,z2⟩:=z
     refine ⟨(z1:Int),(z2:Int),t4,(i:Int),(j:Int),hat58,_,(show SS.length - (q+1)<SS.length - q by omega),q+1,by rw [w64 (by omega) (by omega)]; omega,rfl,by omega,rfl,?_⟩
     rw [htk,Yk,Ye]
     simp only [Bool.and_true,Yt,beq_iff_eq,Prod.mk.injEq]
     constructor
     ·
      rintro ⟨e1,e2⟩; exact .inr ⟨by omega,by omega⟩
     ·
      rintro (hm | ⟨e1,e2⟩)
      ·
       have:=hb3.2 hm; rw [cb] at this; cases this
      ·
       exact ⟨by omega,by omega⟩
   ·
    have hqe:q=SS.length:=by omega
    subst hqe
    rw [Yye] at hb3
    have he:b=(o.1 == 0):=Bool.eq_iff_iff.2 (by rw [hb3,beq_iff_eq]; exact hin.symm)
    refine sB_f (by rw [he,beq_self_eq_true]; rfl) ?_
    refine sBe (fun c0=>?_) (fun c0=>?_)
    ·
     refine ⟨us,ub,hs4.at 0 rfl (o:=0) (n:=2) rfl,?_⟩
     refine (proper24 L s k us ub o.2.1 U _ (hS30.ext E58) ((hM3.mono fun i hi=>Yn _ hi).cfi hs4)).mono ?_
     rintro _ h77 ⟨⟨b5,rfl,hb5⟩,E77⟩
     have hPU:ProS (L.map MR.m) k o.2.1 (U.map Bx.l):=by
      rw [hU,ho,if_pos (hcan.1 c0)]
      exact hpd (hcan.1 c0)
     rw [hb5.2 hPU]
     refine ⟨true,rfl,sB_f rfl (sB_t (by rw [c0]; rfl) ?_)⟩
     refine ⟨_,(show y.m.mv.length - (j+1)<y.m.mv.length - j by omega),j+1,by rw [w64 (by omega) (by omega)]; omega,rfl,by omega,?_,E58.trans E77⟩
     rw [w64 (by omega) (by omega),len_filt,if_pos (hposj.2 c0)]
     omega
    ·
     refine sB_f (beq_eq_false_iff_ne.2 c0) ?_
     refine ⟨_,(show y.m.mv.length - (j+1)<y.m.mv.length - j by omega),j+1,by rw [w64 (by omega) (by omega)]; omega,rfl,by omega,?_,E58⟩
     rw [len_filt,if_neg (fun hc=>c0 (hposj.1 hc))]; rfl
  ·
   have hje:j=y.m.mv.length:=by omega
   subst hje
   refine ⟨_,(show L.length - (i+1)<L.length - i by omega),i+1,by rw [w64 (by omega) (by omega)]; omega,rfl,by omega,?_,E45⟩
   rw [len_flat,stepsR_card gm]
 ·
  have hie:i=L.length:=by omega
  subst hie
  exact ⟨by rw [hdone,beq_self_eq_true],hE0.trans E36⟩
end Go.VC
end

section
/- Plain: the encoding of integers, lists and configurations; it is injective. -/
namespace Go.VC
open Go.Proofs Go.LexS
/-! ### What the words of bits are -/
end Go.VC
end

section
namespace Go.VC
open Go.Proofs

end Go.VC
end

section
/- Contracts: the encodings, on both sides. (Numbers of layer 27's development dump.) -/
namespace Go.VC
open Go.Proofs Go.LexS
end Go.VC
end

section
/- What systems of machines, configurations and lists of bytes look like in memory where all that is read is of bulk at most 1048576. -/
namespace Go.VC
open Go.Proofs Go.LexS Go.RowKit Go.ChangeShapes Go.WideShapes Go.Proofs.YtnfkibjnkiojnaaGreatDoor
theorem bulk_pos {H:Type} (d:DataW H):1<=Rows.uptoBulk d:=by
 cases d with
 | lit l=>cases l <;> simp [Rows.uptoBulk]
 | _=>simp [Rows.uptoBulk]
theorem bulk_part {H:Type}:∀ {l:List (DataW H)} {d:DataW H},d ∈ l->Rows.uptoBulk d<=Rows.uptoBulkAll l
 | [],_,h=>by cases h
 | x::r,d,h=>by
  rw [Rows.uptoBulkAll]
  rcases Yr.1 h with rfl | h
  ·
   omega
  ·
   have:=bulk_part h; omega
theorem bulk_len {H:Type}:∀ l:List (DataW H),l.length<=Rows.uptoBulkAll l
 | []=>by simp
 | x::r=>by
  have h1:=bulk_pos x
  have h2:=bulk_len r
  rw [Rows.uptoBulkAll,Yyj]; omega
def Rdb (P:Program) (W:World) (t:TypeId) (cs:List Value):Prop:=
 ∃ (H:Type) (enc:TypeId × Value->H) (n:Nat) (x:DataW H × List MemPlace),DataW.trod enc P W 0 (fun _=>true) true n t cs=some x/\Rows.uptoBulk x.1<=1048576
theorem Rdb.rdt {P:Program} {W:World} {t:TypeId} {cs:List Value} (h:Rdb P W t cs):Rdt P W t cs:=by
 obtain ⟨H,enc,n,x,h1,_⟩:=h; exact ⟨H,enc,n,x,h1⟩
theorem rdb_of_trod {H:Type} {enc:TypeId × Value->H} {P:Program} {W:World} {t:TypeId} {v:Value} {d:DataW H} {p:List MemPlace} (h:DataW.Trod enc P W 0 (fun _=>true) true t v d p) (hw:Rows.uptoBulk d<=1048576):Rdb P W t v.cells.toList:=by
 obtain ⟨n,h⟩:=h
 exact ⟨H,enc,n,_,h,hw⟩
theorem Rdb.field {P:Program} {W:World} {t ft:TypeId} {cs:List Value} {i off:Nat} (h:Rdb P W t cs) (hf:fieldAt P t i=some (ft,off)):Rdb P W ft ((cs.drop off).take (P.cellsOf ft)):=by
 unfold fieldAt at hf
 split at hf
 ·
  rename_i fs hu
  obtain ⟨f,h1,h2⟩:=Yya.1 hf
  cases h2
  obtain ⟨H,enc,n,x,h,hw⟩:=h
  obtain ⟨xs,m,_,hx,hl,hxl,hfi⟩:=DataW.trod_struct hu h
  have hlt:i<xs.length:=by rw [hxl]; exact (Yyg.1 h1).1
  refine ⟨H,enc,m,xs[i],by rw [hfi i f h1,Yi hlt],?_⟩
  rw [hx,Rows.uptoBulk] at hw
  have:=bulk_part (l:=xs.map (·.1)) (d:=xs[i].1) (Yp.2 ⟨xs[i],List.getElem_mem hlt,rfl⟩)
  omega
 ·
  cases hf
theorem Rdb.rows {P:Program} {W:World} {t e:TypeId} {cs:List Value} (ht:P.underlying t=some (.slice e)) (h:Rdb P W t cs) (hpos:0<P.cellsOf e) :
  ∃ (s:Sl) (rows:List (List Value)),cs=[.slice s.a s.n s.c]/\s.n<=s.c/\s.n<=1048576/\(s.a=none->s.n=0/\s.c=0)/\Rw W.heap (P.cellsOf e) s rows/\∀ r ∈ rows,r.length=P.cellsOf e/\Rdb P W e r:=by
 obtain ⟨H,enc,n,x,h,hw⟩:=h
 rcases DataW.trod_slice ht h with ⟨rfl,_⟩ | ⟨a,len,cap,elems,rest,m,_,rfl,hx,_,hlc,hcm,hel,helem,_,_⟩
 ·
  exact ⟨⟨none,0,0⟩,[],rfl,Yyt _,Nat.zero_le _,fun _=>⟨rfl,rfl⟩,Rw.nil,fun r hr=>by cases hr⟩
 ·
  rw [hx,Rows.uptoBulk] at hw
  have hle:len<=1048576:=by
   have:=bulk_len (elems.map (·.1))
   rw [Yc] at this; omega
  have hwe:∀ (i:Nat) (hi:i<elems.length),Rows.uptoBulk elems[i].1<=1048576:=fun i hi=>by
   have:=bulk_part (l:=elems.map (·.1)) (d:=elems[i].1) (Yp.2 ⟨elems[i],List.getElem_mem hi,rfl⟩)
   omega
  by_cases h0:len=0
  ·
   subst h0
   exact ⟨⟨some a,0,cap⟩,[],rfl,hlc,hle,fun e=>(by cases e),Rw.empty rfl,fun r hr=>by cases hr⟩
  ·
   have hrow:∀ i,i<len->∃ r,W.cells? 0 (a.add (i*P.cellsOf e)) (P.cellsOf e)=some r/\Rdb P W e r:=by
    intro i hi
    have h1:=helem i hi
    rw [Yi (by omega)] at h1
    obtain ⟨r,hr,hx2⟩:=Option.bind_eq_some_iff.1 h1
    exact ⟨r,hr,H,enc,m,_,hx2,hwe i (by omega)⟩
   let row:Nat->List Value:=fun i=>(W.cells? 0 (a.add (i*P.cellsOf e)) (P.cellsOf e)).getD []
   have hrow':∀ i,i<len->W.cells? 0 (a.add (i*P.cellsOf e)) (P.cellsOf e)=some (row i)/\Rdb P W e (row i):=fun i hi=>by
    obtain ⟨r,hr,hx⟩:=hrow i hi
    have:row i=r:=by show (W.cells? 0 _ _).getD []=r; rw [hr]; rfl
    rw [this]; exact ⟨hr,hx⟩
   have hget:∀ i,i<len->((List.range len).map row)[i]?=some (row i):=fun i hi=>by
    rw [Yd,Yyb hi]; rfl
   have hspot:a=⟨a.block,a.off,none⟩:=by
    have hc:=(cells_at (hrow' 0 (by omega)).1)
    have hl0:0<(row 0).length:=by rw [hc.1]; exact hpos
    have:=hc.2 0 _ (Yi hl0)
    rw [Nat.zero_mul,show (a.add 0).add 0=a from rfl] at this
    unfold World.cell? at this
    split at this
    ·
     split at this
     ·
      cases this
     ·
      rename_i hs
      cases a with
      | mk b o s=>
       cases s with
       | none=>rfl
       | some s=>exact absurd rfl hs
    ·
     cases this
   refine ⟨⟨some a,len,cap⟩,(List.range len).map row,rfl,hlc,hle,fun e=>(by cases e),⟨by simp,fun _=>⟨a.block,a.off,by rw [<- hspot],fun i r hi j v hj=>?_⟩⟩,fun r hr=>?_⟩
   ·
    have hil:i<len:=by have:=(Ya.1 hi).1; simpa using this
    rw [hget i hil] at hi; cases hi
    have h4:=(cells_at (hrow' i hil).1).2 _ _ hj
    rw [hspot] at h4
    have e:((⟨a.block,a.off,none⟩:Addr).add (i*P.cellsOf e)).add j=addk ⟨a.block,a.off+i*P.cellsOf e,none⟩ j:=by
     rw [addk_at,add_n,add_n]
    rw [e] at h4
    exact h4
   ·
    obtain ⟨i,hi,rfl⟩:=Yp.1 hr
    have:=hrow' i (List.mem_range.1 hi)
    exact ⟨(cells_at this.1).1,this.2⟩
theorem Rdb.list {α:Type} {P:Program} {W:World} {t e:TypeId} {k:Nat} {v:Value} {cs:α->List Value} {Q:α->Prop} (ht:P.underlying t=some (.slice e)) (hk:P.cellsOf e=k) (hpos:0<k)
  (ho:∀ r,Rdb P W e r->∃ x,r=cs x/\Q x) (h:Rdb P W t [v]):∃ (s:Sl) (L:List α),v=.slice s.a s.n s.c/\RL W.heap k s cs L/\∀ x ∈ L,Q x:=by
 subst hk
 obtain ⟨s,rows,e1,hc,hm,hna,hrw,hr⟩:=h.rows ht hpos
 have key:∀ rows:List (List Value),(∀ r ∈ rows,r.length=P.cellsOf e/\Rdb P W e r)->∃ L:List α,rows=L.map cs/\∀ x ∈ L,Q x:=by
  intro rows
  induction rows with
  | nil=>intro _; exact ⟨[],rfl,fun x hx=>by cases hx⟩
  | cons r rows ih=>
   intro h
   obtain ⟨x,hx,hq⟩:=ho r (h r (by simp)).2
   obtain ⟨L,hL,hQ⟩:=ih fun y hy=>h y (Yn _ hy)
   exact ⟨x::L,by rw [hx,hL]; rfl,fun y hy=>by rcases Yr.1 hy with rfl | hy; exact hq; exact hQ y hy⟩
 obtain ⟨L,rfl,hQ⟩:=key rows hr
 have hn:=hrw.ln
 exact ⟨s,L,by simpa using e1,⟨hrw,hc,hna,by omega⟩,hQ⟩
theorem v3:Pz.underlying 3=some (.int .i64):=by kernel_rfl
theorem v4b:Pz.underlying 4=some .bool:=by kernel_rfl
theorem cz3:Pz.cellsOf 3=1:=by kernel_rfl
theorem cz4:Pz.cellsOf 4=1:=by kernel_rfl
theorem cz51:Pz.cellsOf 51=1:=by kernel_rfl
theorem cz52:Pz.cellsOf 52=1:=by kernel_rfl
theorem cz53:Pz.cellsOf 53=1:=by kernel_rfl
theorem cz55:Pz.cellsOf 55=6:=by kernel_rfl
theorem cz190:Pz.cellsOf 190=3:=by kernel_rfl
theorem cz108:Pz.cellsOf 108=6:=by kernel_rfl
theorem vs51:Pz.underlying 51=some (.slice 4):=by kernel_rfl
theorem vs52:Pz.underlying 52=some (.slice 108):=by kernel_rfl
theorem vs53:Pz.underlying 53=some (.slice 190):=by kernel_rfl
theorem open_three {W:World} {t:TypeId} {r:List Value} (hc:Pz.cellsOf t=3) (h0:fieldAt Pz t 0=some (3,0)) (h1:fieldAt Pz t 1=some (3,1)) (h2:fieldAt Pz t 2=some (3,2)) (h:Rdt Pz W t r) :
  ∃ a b c:Int,r=[.int .i64 a,.int .i64 b,.int .i64 c]:=by
 have hl:=h.flen h0
 rw [hc] at hl
 match r,hl with
 | [x0,x1,x2],_=>
  have f0:=h.field h0
  have f1:=h.field h1
  have f2:=h.field h2
  rw [cz3] at f0 f1 f2
  obtain ⟨k0,e0,_⟩:=f0.int v3
  obtain ⟨k1,e1,_⟩:=f1.int v3
  obtain ⟨k2,e2,_⟩:=f2.int v3
  simp only [List.drop_zero,List.take_succ_cons,Yyk,List.drop_succ_cons,List.cons.injEq,and_true] at e0 e1 e2
  subst e0 e1 e2
  exact ⟨k0,k1,k2,rfl⟩
theorem open_boolv {W:World} {r:List Value} (h:Rdb Pz W 4 r):∃ x:Bool,r=bC x/\True:=by
 obtain ⟨k,e⟩:=h.rdt.bool v4b
 exact ⟨k,e,trivial⟩
theorem open_limit {W:World} {r:List Value} (h:Rdb Pz W 190 r):∃ x:To,r=x.cs/\True:=by
 obtain ⟨a,b,c,e⟩:=open_three cz190 (by kernel_rfl) (by kernel_rfl) (by kernel_rfl) h.rdt
 exact ⟨⟨a,b,c⟩,e,trivial⟩
theorem open_move {W:World} {r:List Value} (h:Rdb Pz W 108 r):∃ x:Mv,r=x.cs/\True:=by
 have hl:=h.rdt.flen (i:=0) (ft:=3) (off:=0) (by kernel_rfl)
 rw [cz108] at hl
 match r,hl with
 | [x0,x1,x2,x3,x4,x5],_=>
  have f0:=h.rdt.field (i:=0) (ft:=3) (off:=0) (by kernel_rfl)
  have f1:=h.rdt.field (i:=1) (ft:=4) (off:=1) (by kernel_rfl)
  have f2:=h.rdt.field (i:=2) (ft:=3) (off:=2) (by kernel_rfl)
  have f3:=h.rdt.field (i:=3) (ft:=3) (off:=3) (by kernel_rfl)
  have f4:=h.rdt.field (i:=4) (ft:=3) (off:=4) (by kernel_rfl)
  have f5:=h.rdt.field (i:=5) (ft:=4) (off:=5) (by kernel_rfl)
  rw [cz3] at f0 f2 f3 f4
  rw [cz4] at f1 f5
  obtain ⟨k0,e0,_⟩:=f0.int v3
  obtain ⟨k1,e1⟩:=f1.bool v4b
  obtain ⟨k2,e2,_⟩:=f2.int v3
  obtain ⟨k3,e3,_⟩:=f3.int v3
  obtain ⟨k4,e4,_⟩:=f4.int v3
  obtain ⟨k5,e5⟩:=f5.bool v4b
  simp only [List.drop_zero,List.take_succ_cons,Yyk,List.drop_succ_cons,List.cons.injEq,and_true] at e0 e1 e2 e3 e4 e5
  subst e0 e1 e2 e3 e4 e5
  exact ⟨⟨k0,k1,k2,k3,k4,k5⟩,rfl,trivial⟩
theorem open_machine {W:World} {r:List Value} (h:Rdb Pz W 55 r):∃ (m:Mch) (sf sm sl:Sl),r=mC m sf sm sl/\MI W.heap m sf sm sl:=by
 have hl:=h.rdt.flen (i:=0) (ft:=3) (off:=0) (by kernel_rfl)
 rw [cz55] at hl
 match r,hl with
 | [x0,x1,x2,x3,x4,x5],_=>
  have f0:=h.rdt.field (i:=0) (ft:=3) (off:=0) (by kernel_rfl)
  have f1:=h.rdt.field (i:=1) (ft:=3) (off:=1) (by kernel_rfl)
  have f2:=h.rdt.field (i:=2) (ft:=3) (off:=2) (by kernel_rfl)
  have f3:=h.field (i:=3) (ft:=51) (off:=3) (by kernel_rfl)
  have f4:=h.field (i:=4) (ft:=52) (off:=4) (by kernel_rfl)
  have f5:=h.field (i:=5) (ft:=53) (off:=5) (by kernel_rfl)
  rw [cz3] at f0 f1 f2
  rw [cz51] at f3
  rw [cz52] at f4
  rw [cz53] at f5
  obtain ⟨k0,e0,_⟩:=f0.int v3
  obtain ⟨k1,e1,_⟩:=f1.int v3
  obtain ⟨k2,e2,_⟩:=f2.int v3
  obtain ⟨sf,lf,e3,hf,_⟩:=Rdb.list vs51 cz4 (by omega) (fun r hr=>open_boolv hr) (show Rdb Pz W 51 [x3] from f3)
  obtain ⟨sm,lm,e4,hm,_⟩:=Rdb.list vs52 cz108 (by omega) (fun r hr=>open_move hr) (show Rdb Pz W 52 [x4] from f4)
  obtain ⟨sl,ll,e5,hl,_⟩:=Rdb.list vs53 cz190 (by omega) (fun r hr=>open_limit hr) (show Rdb Pz W 53 [x5] from f5)
  simp only [List.drop_zero,List.take_succ_cons,Yyk,List.drop_succ_cons,List.cons.injEq,and_true] at e0 e1 e2
  subst e0 e1 e2 e3 e4 e5
  exact ⟨⟨k0,k1,k2,lf,lm,ll⟩,sf,sm,sl,rfl,⟨hf,hm,hl⟩⟩
theorem cz5:Pz.cellsOf 5=1:=by kernel_rfl
theorem vs48:Pz.underlying 48=some (.slice 5):=by kernel_rfl
theorem v5u:Pz.underlying 5=some (.int .u8):=by kernel_rfl
theorem vsS22:Pz.underlying 22=some (.slice 55):=by kernel_rfl
theorem open_mr {W:World} {r:List Value} (h:Rdb Pz W 55 r):∃ x:MR,r=x.cs/\MI W.heap x.m x.f x.g x.l:=by
 obtain ⟨m,f,g,l,e,hm⟩:=open_machine h
 exact ⟨⟨m,f,g,l⟩,e,hm⟩
theorem open_sys {W:World} {v:Value} (h:Rdb Pz W 22 [v]):∃ (s:Sl) (L:List MR),v=.slice s.a s.n s.c/\SyI W.heap s L:=by
 obtain ⟨s,L,e,hr,hq⟩:=Rdb.list vsS22 cz55 (by omega) (fun r hr=>open_mr hr) h
 exact ⟨s,L,e,hr,hq⟩
theorem open_u8n {W:World} {r:List Value} (h:Rdb Pz W 5 r):∃ x:Int,r=u8C x/\(0<=x/\x<256):=by
 obtain ⟨n,e,hw⟩:=h.rdt.int v5u
 have h3:(decide (IntKind.u8.min<=n) && decide (n<=IntKind.u8.max))=true:=hw
 rw [Yt] at h3
 have h4:(0:Int)<=n:=Yyn h3.1
 have h5:n<=(255:Int):=Yyn h3.2
 exact ⟨n,e,h4,by omega⟩
theorem open_u8s {W:World} {v:Value} (h:Rdb Pz W 48 [v]):∃ (s:Sl) (L:List Int),v=.slice s.a s.n s.c/\(RL W.heap 1 s u8C L/\∀ n ∈ L,0<=n/\n<256):=by
 obtain ⟨s,L,e,hr,hb⟩:=Rdb.list vs48 cz5 (by omega) (fun r hr=>open_u8n hr) h
 exact ⟨s,L,e,hr,hb⟩
theorem u8_rng {W:World} {k:Int} (h:Rdb Pz W 5 [.int .u8 k]):0<=k/\k<256:=by
 obtain ⟨x,e,hx⟩:=open_u8n h
 injection e with e1 _
 injection e1 with _ e2
 rw [e2]; exact hx
end Go.VC
end
