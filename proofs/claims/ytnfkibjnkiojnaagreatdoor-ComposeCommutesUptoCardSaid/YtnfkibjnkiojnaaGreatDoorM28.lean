/- WkVcH WkZ WkAa WkAk WkAb WkVcL WkAc WkVcQ WkAh WkVcU WkAl WkAf WkVcR WkAg WkArgs. -/
import Derived.Test.YtnfkibjnkiojnaaGreatDoorM02
import Derived.Test.YtnfkibjnkiojnaaGreatDoorProg
import Derived.KernelRfl
import Derived.Test.YtnfkibjnkiojnaaGreatDoorM01
import Derived.Test.YtnfkibjnkiojnaaGreatDoorM27
import Derived.Test.YtnfkibjnkiojnaaGreatDoorM26
import Derived.Test.YtnfkibjnkiojnaaGreatDoorM22
import Derived.Test.YtnfkibjnkiojnaaGreatDoorM25
import Derived.Test.YtnfkibjnkiojnaaGreatDoorM23
import Derived.Test.YtnfkibjnkiojnaaGreatDoorM19
import Derived.Test.YtnfkibjnkiojnaaGreatDoorRows
set_option linter.unusedVariables false
set_option linter.unusedSimpArgs false
set_option maxRecDepth 100000

section
namespace Go.VC
open Go.Proofs

def W26 (p0:Sl) (p1:Int) (p2:Sl) (h:Heap) (R:Value->Heap->Prop):Prop:=
 (Wn h [.slice none 0 0,.slice none 0 0] 26 fun h1=>
 (Fn Pz 46 #[vS p0] h1
 (fun v2 h5=>∃ (x3 x4:Sl),v2=.agg ⟨[vS x3,vS x4]⟩ /\
 (Wn h5 [.slice none 0 0,.slice none 0 0] 26 fun h6=>
 (Wp h6 (aS h5 0) 2 [vS x3,vS x4] fun h7=>
 (QSI ⟨none,0,0⟩ 0 h7 fun I8 out_11 i_12 h13 m10=>(
 (sB (decide (i_12<(p2.n:Int)))
 ((∃ (x14 x15:Sl),atC h13 (aS h5 0) [vS x14,vS x15] /\
 (Fn Pz 48 #[vS p0,vI p1,.agg ⟨[vS x14,vS x15]⟩] h13
 (fun v16 h18=>∃ x17,iS v16 x17 /\
 (sB ((x17.n:Int) == 0)
 ((∃ (x19 x20:Sl),atC h18 (aS h5 0) [vS x19,vS x20] /\
 (Wp h18 (aS h 0) 2 [vS x19,vS x20] fun h21=>
 (∃ (x22 x23:Sl),atC h21 (aS h 0) [vS x22,vS x23] /\
 R (.tuple ⟨[vS out_11,.agg ⟨[vS x22,vS x23]⟩]⟩) h21))))
 ((NB p2.a fun b24 o25=>(Ib i_12 p2.n /\
 (∃ x26:Int,hc h18 ⟨b24,o25+Int.toNat i_12*1,none⟩=some (.int .u8 x26) /\
 ((x17.n:Int) ≠ 0/\(NB x17.a fun b27 o28=>((0<=((Int.tmod (IntKind.wrap .i64 x26) (x17.n:Int)):Int)/\((Int.tmod (IntKind.wrap .i64 x26) (x17.n:Int)):Int)<(x17.n:Nat)) /\
 (∃ (x29 x30:Int),atC h18 ⟨b27,o28+Int.toNat (Int.tmod (IntKind.wrap .i64 x26) (x17.n:Int))*2,none⟩ [vI x29,vI x30] /\
 (Wn h18 [vI 0,vI 0] 60 fun h31=>
 (Wp h31 (aS h18 0) 2 [vI x29,vI x30] fun h32=>
 (∃ (x33 x34:Int),atC h32 (aS h18 0) [vI x33,vI x34] /\
 (Wn h32 [vI x33,vI x34] 60 fun h35=>
 (App Pz 39 39 (vS out_11) (.slice (some (aS h32 0)) 1 1) h35 fun s36 h37=>
 (∃ (x38 x39:Sl),atC h37 (aS h5 0) [vS x38,vS x39] /\
 (∃ (x40 x41:Int),atC h37 (aS h18 0) [vI x40,vI x41] /\
 (Fn Pz 56 #[vS p0,.agg ⟨[vS x38,vS x39]⟩,.agg ⟨[vI x40,vI x41]⟩] h37
 (fun v42 h45=>∃ (x43 x44:Sl),v42=.agg ⟨[vS x43,vS x44]⟩ /\
 (Wp h45 (aS h5 0) 2 [vS x43,vS x44] fun h46=>
 (∃ m47,m47<m10/\I8 s36 (IntKind.wrap .i64 (i_12+1)) h46 m47))))))))))))))))))))))))
 ((∃ (x48 x49:Sl),atC h13 (aS h5 0) [vS x48,vS x49] /\
 (Wp h13 (aS h 0) 2 [vS x48,vS x49] fun h50=>
 (∃ (x51 x52:Sl),atC h50 (aS h 0) [vS x51,vS x52] /\
 R (.tuple ⟨[vS out_11,.agg ⟨[vS x51,vS x52]⟩]⟩) h50))))))))))))
theorem vc26 (p0:Sl) (p1:Int) (p2:Sl) (h:Heap) (R:Value->Heap->Prop) (H:W26 p0 p1 p2 h R):Fn Pz 26 #[vS p0,vI p1,vS p2] h R:=fnI (A:=(.s .z (.s .z (.s .z (.s (.s .z (.b (.l [(9,.one (.slice)),(10,.one (.int .i64))] .z))) .z))))) (by kernel_rfl) H

end Go.VC
end

section
/- Contract: Walk. (Numbers of layer 27's development dump.) -/
namespace Go.VC
open Go.Proofs Go.LexS
def u8C (b:Int):List Value:=[.int .u8 b]
theorem w8 {b:Int} (h0:0<=b) (h1:b<256):IntKind.wrap .i64 b=b:=w64 (by omega) (by omega)
theorem xpro_start {L:List Mch} {k:Int} (hV:SysV L) (hk:1<=k/\k<=4):ProS L k (startS L) ((List.replicate (L.length*L.length) bx0).map Bx.l):=by
 refine ⟨hV,hk,⟨by unfold startS; rw [Yc],by rw [Yc,Yg],fun p s m h1 h2=>?_,fun i b hb=>?_⟩⟩
 ·
  unfold startS at h1
  rw [Yd,h2] at h1
  cases h1
  exact (hV.m p m h2).2.1.n.s
 ·
  obtain ⟨q,hq,rfl⟩:=Yp.1 (Yb hb)
  rw [List.eq_of_mem_replicate hq]
  exact ⟨by show ((0:Nat):Int)<=k; omega,fun _=>rfl,fun x hx=>by cases hx⟩
theorem doS_at {L:List Mch} {k:Int} {S:List Int} {BL:List (List Int)} {a b:Nat} {m:Mch} {x:Mv} (hP:ProS L k S BL) (gm:L[a]?=some m) (gx:m.mv[b]?=some x):doS L k S BL (a:Int) (b:Int)=if canS L.length k S BL a x=0 then (0,S.set a x.t,doB L.length a x BL) else (canS L.length k S BL a x,[],[]):=by
 have ha:=(Ya.1 gm).1
 have hb:=(Ya.1 gx).1
 have hmo:mvO L (a:Int) (b:Int)=some x:=by
  unfold mvO
  rw [if_neg (by omega),Ys,gm]
  dsimp only
  rw [if_neg (by omega),Ys,gx]
 unfold doS
 rw [if_pos hP,hmo,Ys]
noncomputable def stpS (L:List Mch) (k:Int) (c:List Int × List (List Int)) (q:Nat × Nat):Option (List Int × List (List Int)):=if (doS L k c.1 c.2 (q.1:Int) (q.2:Int)).1=0 then some (doS L k c.1 c.2 (q.1:Int) (q.2:Int)).2 else none
noncomputable def runS (L:List Mch) (k:Int) (l:List (Nat × Nat)):Option (List Int × List (List Int)):=l.foldl (fun o q=>o.bind fun c=>stpS L k c q) (some (startS L,(List.replicate (L.length*L.length) bx0).map Bx.l))
theorem runS_snoc {L:List Mch} {k:Int} {l:List (Nat × Nat)} {q:Nat × Nat}:runS L k (l++[q])=(runS L k l).bind fun c=>stpS L k c q:=by
 unfold runS; rw [List.foldl_append]; rfl
theorem stpS_ok {L:List Mch} {k:Int} {S:List Int} {BL:List (List Int)} {a b:Nat} {m:Mch} {x:Mv} (hP:ProS L k S BL) (gm:L[a]?=some m) (gx:m.mv[b]?=some x) (hc:canS L.length k S BL a x=0):stpS L k (S,BL) (a,b)=some (S.set a x.t,doB L.length a x BL):=by
 unfold stpS
 rw [doS_at hP gm gx,if_pos hc,if_pos rfl]
def WalV (L:List Mch) (k:Int) (h:Heap) (v:Value) (h':Heap):Prop:=∃ (out ts tb:Sl) (S:List Int) (T:List Bx) (l:List (Nat × Nat)) (A:List It),v=.tuple ⟨[.slice out.a out.n out.c,cfA ts tb]⟩/\St h h' A/\CfM A ts tb S T/\ProS L k S (T.map Bx.l)/\It.sl out 60 2 (l.map stpC) ∈ A/\runS L k l=some (S,T.map Bx.l)/\l.length<=1048576
theorem steps_mem {L:List Mch} {k:Int} {S:List Int} {BL:List (List Int)} {a b:Nat} (h:(a,b) ∈ stepsS L k S BL):∃ m x,L[a]?=some m/\m.mv[b]?=some x/\canS L.length k S BL a x=0:=by
 unfold stepsS at h
 obtain ⟨p,_,h⟩:=List.mem_flatMap.1 h
 unfold stepsR at h
 cases gm:L[p]? with
 | none=>rw [gm] at h; cases h
 | some m=>
  rw [gm] at h
  obtain ⟨i,hi,e⟩:=Yp.1 h
  cases e
  unfold stepsP at hi
  obtain ⟨h1,h2⟩:=List.mem_filter.1 hi
  obtain ⟨x,gx,_⟩:=outIx_mem.1 ((mvS_srt m _).1.mem_iff.1 h1)
  refine ⟨m,x,gm,gx,?_⟩
  have:=Yyn h2
  rwa [mvD_of gx] at this
set_option maxHeartbeats 3200000 in
theorem walk26 (L:List MR) (s:Sl) (k:Int) (D:List Int) (ds:Sl) (h:Heap) (hS:SyI h s L) (hV:SysV (L.map MR.m)) (hk:1<=k/\k<=4) (hD:RL h 1 ds u8C D) (hb:∀ b ∈ D,0<=b/\b<256) :
  Fn Pz 26 #[.slice s.a s.n s.c,.int .i64 k,.slice ds.a ds.n ds.c] h (WalV (L.map MR.m) k h):=by
 apply vc26 s k ds; unfold W26
 have hlm:(L.map MR.m).length=L.length:=Yc _
 have hV6:=hV.n
 rw [hlm] at hV6
 have hdn:=hD.ln
 have h36:=sq6 hV6.2
 have hds:=hD.sm
 refine (St.refl h).newb fun h1 hs=>?_
 refine (first46 L s h1 (hS.ext hs.ext) hV6.2).mono ?_
 rintro _ h5 ⟨ss,sb,A,rfl,hs1,hM⟩
 have hs:=hs.join hs1
 refine ⟨ss,sb,rfl,?_⟩
 refine hs.newput (vs:=[.slice ss.a ss.n ss.c,.slice sb.a sb.n sb.c]) rfl rfl fun h7 hs=>?_
 have hs:=hs.nil_ 60 2
 have hpro:=xpro_start (k:=k) hV hk
 rw [hlm] at hpro
 refine ⟨fun out x h' μ=>∃ (i:Nat) (S:List Int) (T:List Bx) (l:List (Nat × Nat)) (A:List It) (ts tb:Sl),x=(i:Int)/\μ=D.length - i/\i<=D.length/\l.length=i/\St h h' (.sl out 60 2 (l.map stpC) :: .blk h5.size [.slice ts.a ts.n ts.c,.slice tb.a tb.n tb.c] 26 :: .blk h.size [.slice none 0 0,.slice none 0 0] 26::A)/\CfM A ts tb S T/\ProS (L.map MR.m) k S (T.map Bx.l)/\runS (L.map MR.m) k l=some (S,T.map Bx.l),⟨_,0,_,_,[],A,ss,sb,rfl,rfl,Nat.zero_le _,rfl,hs,hM,hpro,by unfold runS; rw [List.foldl_nil,hlm]⟩,?_⟩
 clear hs hM hpro hs1
 rintro - out _ h13 μ ⟨i,S,T,l,A,ts,tb,rfl,rfl,hi,hll,hs,hM,hP,hR⟩
 have hC:∀ {h':Heap} {A':List It},St h h' (A'++A)->CfI h' ts tb S T:=fun hs=>(hM.mono fun i hi=>List.mem_append_right _ hi).cfi hs
 have hSl:S.length=L.length:=by rw [hP.p.s,hlm]
 have hTl:T.length=L.length*L.length:=by rw [<- Yc (f:=Bx.l),hP.p.b,hlm]
 refine sBi (fun c=>?_) (fun c=>?_)
 ·
  refine ⟨ts,tb,hs.at 1 rfl (o:=0) (n:=2) rfl,?_⟩
  refine (refAll48 L s k ts tb S T h13 (hS.ext hs.ext) hV (hC (A':=[_,_,_]) hs) hSl hTl).mono ?_
  rintro _ h18 ⟨E,r,rfl,hr⟩
  have hs:=hs.step E
  have hrn:=hr.ln
  refine ⟨r,rfl,sBe (fun c2=>?_) (fun c2=>?_)⟩
  ·
   refine ⟨ts,tb,hs.at 1 rfl (o:=0) (n:=2) rfl,?_⟩
   refine hs.put 2 rfl (o:=0) (vs:=[.slice ts.a ts.n ts.c,.slice tb.a tb.n tb.c]) rfl (show 2<=2 by decide) fun h21 hs=>?_
   exact ⟨ts,tb,hs.at 2 rfl (o:=0) (n:=2) rfl,out,ts,tb,S,T,l,_,rfl,hs,hM.mono fun i hi=>Yn _ (Yn _ (Yn _ hi)),hP,Yx,hR,by omega⟩
  ·
   obtain ⟨d,gd⟩:=get_some (l:=D) (i:=i) (by omega)
   have hd:=hb d (Yb gd)
   refine (hD.rw.ext hs.ext).nbI (by omega) (by omega) fun b24 o25 d' gd' t=>?_
   rw [Ys,gd] at gd'; cases gd'
   refine ⟨d,t.hd,c2,?_⟩
   rw [w8 hd.1 hd.2]
   obtain ⟨dn,rfl⟩:∃ dn:Nat,d=(dn:Int):=⟨d.toNat,by omega⟩
   rw [tmod_nat]
   have hlt:dn % r.n<r.n:=Nat.mod_lt _ (by omega)
   refine hr.rw.nbI (by omega) (by omega) fun b27 o28 q gq t2=>?_
   obtain ⟨a,b⟩:=q
   obtain ⟨m,x,gm,gx,hc⟩:=steps_mem (Yb gq)
   refine ⟨(a:Int),(b:Int),t2,?_⟩
   refine hs.newput (vs:=stpC (a,b)) rfl rfl fun h32 hs=>?_
   refine ⟨_,_,hs.at 0 rfl (o:=0) (n:=2) rfl,?_⟩
   have hon:=(hs.rows 1 (s:=out) (cs:=stpC) rfl (by omega)).ln
   refine hs.app 1 (s:=out) (n:=2) (rows:=l.map stpC) rfl app39 (m:=1) [stpC (a,b)] rfl rfl (fun r hr=>by rw [Ye] at hr; rw [hr]; rfl) rfl (by omega) (by simp only [maxLen]; omega) fun o2 h37 no hs=>?_
   refine ⟨ts,tb,hs.at 2 rfl (o:=0) (n:=2) rfl,(a:Int),(b:Int),hs.at 0 rfl (o:=0) (n:=2) rfl,?_⟩
   have gm0:=gm
   rw [Yd] at gm
   cases gy:L[a]? with
   | none=>rw [gy] at gm; cases gm
   | some y=>
    rw [gy] at gm; cases gm
    have hxm:=Yb gx
    have hp:=(Ya.1 gy).1
    have hvm:=hV.m a y.m gm0
    have hx0:0<=x.peer:=(hvm.2.1.n.mv x hxm).2.2.2.2.1
    have hx1:x.peer<(L.length:Int):=by have:=hvm.2.2 x hxm; rw [hlm] at this; exact this
    have hj:=bxI_lt (n:=L.length) (x:=x) hp hx0 hx1
    obtain ⟨q,gq2⟩:=get_some (l:=T) (i:=bxI L.length a x) (by omega)
    have hall:∀ z ∈ T,z.l.length<=4:=fun z hz=>by
     obtain ⟨j',gj⟩:=Yf.1 hz
     have:=(hP.p.bx j' z.l (by rw [Yd,gj]; rfl)).1
     omega
    have hqm:=Yb gq2
    have hql:(T.map Bx.l).getD (bxI L.length a x) []=q.l:=getD_map gq2
    have hpd:=pro_do hP gm0 hxm hc
    have hR2:runS (L.map MR.m) k (l++[(a,b)])=some (S.set a x.t,doB (L.map MR.m).length a x (T.map Bx.l)):=by
     rw [runS_snoc,hR]
     exact stpS_ok hP gm0 gx hc
    rw [hlm] at hc hpd hR2
    refine (next56 L L.length s ts tb S T a b y x q (if x.send=true then q.l++[x.label] else q.l.tail) h37 (hS.ext hs.ext) (hC (A':=[_,_,_,_]) hs) rfl hV6.2 gy gx hx0 hx1 hSl hTl gq2 (hall q hqm) rfl (fun d=>?_)).mono ?_
    ·
     unfold canS at hc
     rw [hql] at hc
     split at hc
     ·
      exact absurd hc (by decide)
     ·
      rw [if_neg (by rw [d]; decide)] at hc
      cases hq:q.l with
      | nil=>rw [hq] at hc; exact absurd hc (show ¬ ((23:Int)=0) by decide)
      | cons a b=>rw [Yyj]; omega
    ·
     rintro _ h45 ⟨t2,b2,u,rfl,hs2⟩
     have hs:=hs.join hs2
     refine ⟨t2,b2,rfl,?_⟩
     refine hs.put 2 rfl (o:=0) (vs:=[.slice t2.a t2.n t2.c,.slice b2.a b2.n b2.c]) rfl (show 2<=2 by decide) fun h46 hs=>?_
     refine ⟨_,(show D.length - (i+1)<D.length - i by omega),i+1,S.set a x.t,T.set (bxI L.length a x) ⟨u,if x.send=true then q.l++[x.label] else q.l.tail⟩,l++[(a,b)],A++_,t2,b2,by rw [w64 (by omega) (by omega)]; omega,rfl,by omega,by rw [Yh,Yv,hll],by rw [Ym]; exact hs.drop 1,⟨List.mem_append_right _ Yx,List.mem_append_right _ (Yn _ Yx),fun z hz=>?_,by rw [Yyh]; omega,by rw [Yyh]; omega,fun z hz=>?_⟩,?_⟩
     ·
      rcases List.mem_or_eq_of_mem_set hz with hz | rfl
      ·
       exact (hM.i z hz).imp id (Or.imp (List.mem_append_left _) (List.mem_append_left _))
      ·
       exact .inr (.inl (List.mem_append_right _ (Yn _ (Yn _ Yx))))
     ·
      rcases List.mem_or_eq_of_mem_set hz with hz | rfl
      ·
       have:=hall z hz; omega
      ·
       have:=hall q hqm
       dsimp only
       split
       ·
        rw [Yh,Yv]; omega
       ·
        rw [List.length_tail]; omega
     ·
      have e:(T.set (bxI L.length a x) ⟨u,if x.send=true then q.l++[x.label] else q.l.tail⟩).map Bx.l=doB L.length a x (T.map Bx.l):=by
       rw [List.map_set]; unfold doB; rw [hql]
      rw [e]; exact ⟨hpd,hR2⟩
 ·
  refine ⟨ts,tb,hs.at 1 rfl (o:=0) (n:=2) rfl,?_⟩
  refine hs.put 2 rfl (o:=0) (vs:=[.slice ts.a ts.n ts.c,.slice tb.a tb.n tb.c]) rfl (show 2<=2 by decide) fun h21 hs=>?_
  exact ⟨ts,tb,hs.at 2 rfl (o:=0) (n:=2) rfl,out,ts,tb,S,T,l,_,rfl,hs,hM.mono fun i hi=>Yn _ (Yn _ (Yn _ hi)),hP,Yx,hR,by omega⟩
end Go.VC
end

section
/- The law ComposePossible. (Numbers of layer 27's development dump.) -/
namespace Go.VC
open Go.Proofs Go.LexS
end Go.VC
end

section
/- Plain: possible steps of different roles commute; a greater capacity keeps steps possible. (Numbers of layer 27's development dump.) -/
namespace Go.VC
open Go.Proofs Go.LexS
theorem can_mono {n:Nat} {k k':Int} {S:List Int} {BL:List (List Int)} {p:Nat} {x:Mv} (hk:k<=k') (h:canS n k S BL p x=0):canS n k' S BL p x=0:=by
 unfold canS at h ⊢
 split at h
 ·
  exact absurd h (by decide)
 ·
  rename_i hf
  rw [if_neg hf]
  by_cases hs:x.send=true
  ·
   rw [if_pos hs] at h ⊢
   split at h
   ·
    exact absurd h (by decide)
   ·
    rw [if_neg (by omega)]
  ·
   rw [if_neg hs] at h ⊢
   exact h
theorem pro_mono {L:List Mch} {k k':Int} {S:List Int} {BL:List (List Int)} (hk:k<=k') (h4:k'<=4) (h:ProS L k S BL):ProS L k' S BL:=
 ⟨h.v,⟨by have:=h.c; omega,h4⟩,⟨h.p.s,h.p.b,h.p.st,fun i b hb=>by obtain ⟨a,c⟩:=h.p.bx i b hb; exact ⟨by omega,c⟩⟩⟩
theorem can_parts {n:Nat} {k:Int} {S:List Int} {BL:List (List Int)} {p:Nat} {x:Mv}:canS n k S BL p x=0 ↔ x.f=S.getD p 0/\(x.send=true->((BL.getD (bxI n p x) []).length:Int)<k)/\(x.send=false->∃ r,BL.getD (bxI n p x) []=x.label::r):=by
 unfold canS
 by_cases hf:x.f=S.getD p 0
 ·
  rw [if_neg (fun h=>h hf)]
  cases hs:x.send with
  | true=>
   rw [if_pos rfl]
   constructor
   ·
    intro h
    split at h
    ·
     exact absurd h (by decide)
    ·
     exact ⟨hf,fun _=>by omega,fun h=>by cases h⟩
   ·
    rintro ⟨_,h,_⟩
    rw [if_neg (by have:=h rfl; omega)]
  | false=>
   rw [if_neg (by decide)]
   cases hb:BL.getD (bxI n p x) [] with
   | nil=>
    refine ⟨fun h=>absurd h (show ¬ ((23:Int)=0) by decide),?_⟩
    rintro ⟨_,_,h⟩
    obtain ⟨r,h⟩:=h rfl
    cases h
   | cons a l=>
    dsimp only
    constructor
    ·
     intro h
     split at h
     ·
      exact absurd h (by decide)
     ·
      rename_i e
      exact ⟨hf,(fun h=>by cases h),fun _=>⟨l,by rw [Classical.not_not.1 e]⟩⟩
    ·
     rintro ⟨_,_,h⟩
     obtain ⟨r,h⟩:=h rfl
     cases h
     rw [if_neg (fun h=>h rfl)]
 ·
  rw [if_pos hf]
  exact ⟨fun h=>absurd h (show ¬ ((7:Int)=0) by decide),fun h=>absurd h.1 hf⟩
theorem getD_set_ne {α:Type} {l:List α} {i j:Nat} {a d:α} (h:i ≠ j):(l.set i a).getD j d=l.getD j d:=by
 rw [Yo,Yo,Yy h]
theorem getD_set_self {α:Type} {l:List α} {i:Nat} {a d:α} (h:i<l.length):(l.set i a).getD i d=a:=by
 rw [Yo,Yq h]; rfl
theorem one_box {n p q:Nat} {x y:Mv} (hp:p<n) (hq:q<n) (hx:x.peer<(n:Int)) (hx0:0<=x.peer) (hy:y.peer<(n:Int)) (hy0:0<=y.peer) (hpq:p ≠ q) (h:bxI n p x=bxI n q y):x.send ≠ y.send:=by
 intro e
 unfold bxI at h
 rw [<- e] at h
 by_cases hs:x.send=true
 ·
  rw [if_pos hs,if_pos hs] at h
  obtain ⟨h1,h2⟩:=divmod_two (n:=n) (a:=p) (b:=x.peer.toNat) (by omega)
  obtain ⟨h3,h4⟩:=divmod_two (n:=n) (a:=q) (b:=y.peer.toNat) (by omega)
  rw [h] at h1; omega
 ·
  rw [if_neg hs,if_neg hs] at h
  obtain ⟨h1,h2⟩:=divmod_two (n:=n) (a:=x.peer.toNat) (b:=p) hp
  obtain ⟨h3,h4⟩:=divmod_two (n:=n) (a:=y.peer.toNat) (b:=q) hq
  rw [h] at h2; omega
structure StepOk (n:Nat) (p:Nat) (x:Mv):Prop where
 p:p<n
 h0:0<=x.peer
 h1:x.peer<(n:Int)
theorem comm_can {n:Nat} {k:Int} {S:List Int} {BL:List (List Int)} {p q:Nat} {x y:Mv} (hx:StepOk n p x) (hy:StepOk n q y) (hpq:p ≠ q) (hB:BL.length=n*n) (cx:canS n k S BL p x=0) (cy:canS n k S BL q y=0):canS n k (S.set p x.t) (doB n p x BL) q y=0:=by
 obtain ⟨a1,a2,a3⟩:=can_parts.1 cx
 obtain ⟨b1,b2,b3⟩:=can_parts.1 cy
 have hj:=bxI_lt (n:=n) (x:=x) hx.p hx.h0 hx.h1
 refine can_parts.2 ⟨by rw [getD_set_ne hpq]; exact b1,?_,?_⟩
 ·
  intro hs
  unfold doB
  by_cases e:bxI n p x=bxI n q y
  ·
   have hne:=one_box hx.p hy.p hx.h1 hx.h0 hy.h1 hy.h0 hpq e
   have hsx:x.send=false:=by cases h:x.send; rfl; rw [h,hs] at hne; exact absurd rfl hne
   rw [<- e,getD_set_self (by rw [hB]; exact hj),if_neg (by rw [hsx]; decide),List.length_tail]
   have:=b2 hs
   rw [<- e] at this
   omega
  ·
   rw [getD_set_ne e]; exact b2 hs
 ·
  intro hs
  unfold doB
  by_cases e:bxI n p x=bxI n q y
  ·
   have hne:=one_box hx.p hy.p hx.h1 hx.h0 hy.h1 hy.h0 hpq e
   have hsx:x.send=true:=by cases h:x.send; rw [h,hs] at hne; exact absurd rfl hne; rfl
   obtain ⟨r,hr⟩:=b3 hs
   rw [<- e] at hr
   rw [<- e,getD_set_self (by rw [hB]; exact hj),if_pos hsx,hr]
   exact ⟨r++[x.label],rfl⟩
  ·
   rw [getD_set_ne e]; exact b3 hs
theorem comm_box {n:Nat} {k:Int} {S:List Int} {BL:List (List Int)} {p q:Nat} {x y:Mv} (hx:StepOk n p x) (hy:StepOk n q y) (hpq:p ≠ q) (hB:BL.length=n*n) (cx:canS n k S BL p x=0) (cy:canS n k S BL q y=0):doB n q y (doB n p x BL)=doB n p x (doB n q y BL):=by
 obtain ⟨a1,a2,a3⟩:=can_parts.1 cx
 obtain ⟨b1,b2,b3⟩:=can_parts.1 cy
 have hi:=bxI_lt (n:=n) (x:=x) hx.p hx.h0 hx.h1
 have hj:=bxI_lt (n:=n) (x:=y) hy.p hy.h0 hy.h1
 unfold doB
 by_cases e:bxI n p x=bxI n q y
 ·
  have hne:=one_box hx.p hy.p hx.h1 hx.h0 hy.h1 hy.h0 hpq e
  rw [<- e] at b3 ⊢
  rw [getD_set_self (by rw [hB]; exact hi),getD_set_self (by rw [hB]; exact hi),List.set_set,List.set_set]
  congr 1
  cases hsx:x.send with
  | true=>
   have hsy:y.send=false:=by cases h:y.send; rfl; rw [h,hsx] at hne; exact absurd rfl hne
   obtain ⟨r,hr⟩:=b3 hsy
   rw [hsy,hr]; rfl
  | false=>
   have hsy:y.send=true:=by cases h:y.send; rw [h,hsx] at hne; exact absurd rfl hne; rfl
   obtain ⟨r,hr⟩:=a3 hsx
   rw [hsy,hr]; rfl
 ·
  rw [getD_set_ne e,getD_set_ne (Ne.symm e),List.set_comm _ _ e]
theorem comm_states {S:List Int} {p q:Nat} {a b:Int} (h:p ≠ q):(S.set p a).set q b=(S.set q b).set p a:=List.set_comm _ _ h
end Go.VC
end

section
/- The law ComposePossible. (Numbers of layer 27's development dump.) -/
namespace Go.VC
open Go.Proofs Go.LexS
theorem room4 {p:Int} (h0:0<=p) (h1:p<256):1<=IntKind.wrap .i64 (1+Int.tmod (IntKind.wrap .i64 p) 4)/\IntKind.wrap .i64 (1+Int.tmod (IntKind.wrap .i64 p) 4)<=4:=by
 obtain ⟨n,rfl⟩:∃ n:Nat,p=(n:Int):=⟨p.toNat,by omega⟩
 rw [w8 h0 h1,show Int.tmod (n:Int) 4=((n % 4:Nat):Int) from tmod_nat n 4]
 have:n % 4<4:=Nat.mod_lt _ (by decide)
 rw [w64 (by omega) (by omega)]
 omega
end Go.VC
end

section
namespace Go.VC
open Go.Proofs

end Go.VC
end

section
/- Contracts: what a machine can still receive (the reference's awaited). (Numbers of layer 27's development dump.) -/
namespace Go.VC
open Go.Proofs Go.LexS
end Go.VC
end

section
namespace Go.VC
open Go.Proofs

def W63 (p0 p1:Sl) (h:Heap) (R:Value->Heap->Prop):Prop:=
 (sB ((p0.n:Int) != (p1.n:Int))
 (R (.bool false) h)
 ((QI 0 h fun I1 x_4 h5 m3=>(
 (sB (decide (x_4<(p0.n:Int)))
 ((NB p0.a fun b6 o7=>(Ib x_4 p0.n /\
 (∃ x8,rI h5 ⟨b6,o7+Int.toNat x_4*1,none⟩ x8 /\
 (NB p1.a fun b9 o10=>(Ib x_4 p1.n /\
 (∃ x11,rI h5 ⟨b9,o10+Int.toNat x_4*1,none⟩ x11 /\
 (sB (x8 != x11)
 (R (.bool false) h5)
 ((∃ m12,m12<m3/\I1 (IntKind.wrap .i64 (x_4+1)) h5 m12))))))))))
 (R (.bool true) h5))))))
theorem vc63 (p0 p1:Sl) (h:Heap) (R:Value->Heap->Prop) (H:W63 p0 p1 h R):Fn Pz 63 #[vS p0,vS p1] h R:=fnI (A:=(.s .z (.s .z (.s (.s .z (.b (.l [(13,.one (.int .i64))] .z))) .z)))) (by kernel_rfl) H

def W64 (p0 p1:Sl) (p2:FuncId) (h:Heap) (R:Value->Heap->Prop):Prop:=
 (sB ((p0.n:Int) != (p1.n:Int))
 (R (.bool false) h)
 ((QI 0 h fun I1 x_4 h5 m3=>(
 (sB (decide (x_4<(p0.n:Int)))
 ((NB p0.a fun b6 o7=>(Ib x_4 p0.n /\
 (∃ x8,rS h5 ⟨b6,o7+Int.toNat x_4*1,none⟩ x8 /\
 (NB p1.a fun b9 o10=>(Ib x_4 p1.n /\
 (∃ x11,rS h5 ⟨b9,o10+Int.toNat x_4*1,none⟩ x11 /\
 (bif callable Pz p2 then Fn Pz p2 #[vS x8,vS x11] h5
 (fun v12 h14=>∃ x13,iB v12 x13 /\
 (sB (!x13)
 (R (.bool false) h14)
 ((∃ m15,m15<m3/\I1 (IntKind.wrap .i64 (x_4+1)) h14 m15)))) else ExtW Pz p2 #[vS x8,vS x11] h5
 (fun v12 h14=>∃ x13,iB v12 x13 /\
 (sB (!x13)
 (R (.bool false) h14)
 ((∃ m15,m15<m3/\I1 (IntKind.wrap .i64 (x_4+1)) h14 m15))))))))))))
 (R (.bool true) h5))))))
theorem vc64 (p0 p1:Sl) (p2:FuncId) (h:Heap) (R:Value->Heap->Prop) (H:W64 p0 p1 p2 h R):Fn Pz 64 #[vS p0,vS p1,.func (.func p2) #[] #[]] h R:=fnI (A:=(.s .z (.s .z (.s (.s .z (.b (.l [(17,.one (.int .i64))] .z))) .z)))) (by kernel_rfl) H

def W32 (p0_1 p0_2 p1_3 p1_4:Sl) (h:Heap) (R:Value->Heap->Prop):Prop:=
 (Wn h [vS p0_1,vS p0_2] 29 fun h5=>
 (Wn h5 [vS p1_3,vS p1_4] 29 fun h6=>
 (∃ x7,rS h6 (aS h 0) x7 /\
 (∃ x8,rS h6 (aS h5 0) x8 /\
 (Fn Pz 63 #[vS x7,vS x8] h6
 (fun v9 h11=>∃ x10,iB v9 x10 /\
 (sB x10
 ((∃ x12,rS h11 (aS h 1) x12 /\
 (∃ x13,rS h11 (aS h5 1) x13 /\
 (Fn Pz 64 #[vS x12,vS x13,.func (.func 63) #[] #[]] h11
 (fun v14 h16=>∃ x15,iB v14 x15 /\
 R (.bool x15) h16)))))
 (R (.bool false) h11))))))))
theorem vc32 (p0_1 p0_2 p1_3 p1_4:Sl) (h:Heap) (R:Value->Heap->Prop) (H:W32 p0_1 p0_2 p1_3 p1_4 h R):Fn Pz 32 #[.agg ⟨[vS p0_1,vS p0_2]⟩,.agg ⟨[vS p1_3,vS p1_4]⟩] h R:=fnI (A:=.z) (by kernel_rfl) H

end Go.VC
end

section
/- Contract: equality of configurations. (Numbers of layer 27's development dump.) -/
namespace Go.VC
open Go.Proofs Go.LexS
theorem equal63 (X Y:List Int) (a b:Sl) (h:Heap) (hX:RL h 1 a inC X) (hY:RL h 1 b inC Y):Fn Pz 63 #[.slice a.a a.n a.c,.slice b.a b.n b.c] h (RP (X=Y) h):=by
 apply vc63 a b; unfold W63
 have ha:=hX.ln
 have hb:=hY.ln
 have hsm:=hX.sm
 refine sBn (fun c=>RP.f (fun hG=>by rw [hG] at ha; omega) .rfl') (fun c1=>?_)
 refine up_loopS (n:=a.n) (St.refl h) (fun i=>∀ (j:Nat),j<i->X[j]?=Y[j]?) (fun j hj=>by omega) ?_
 rintro - i h5 hi ⟨hs,hq⟩
 refine sB_intro (fun c=>?_) (fun c=>?_)
 ·
  replace c:=lt_t c
  refine (hX.rw.ext hs.ext).nbI (by omega) (by omega) fun b1 o1 x gx t1=>?_
  replace gx:X[i]?=some x:=gx
  refine ⟨_,t1.hd,?_⟩
  refine (hY.rw.ext hs.ext).nbI (by omega) (by omega) fun b2 o2 y gy t2=>?_
  replace gy:Y[i]?=some y:=gy
  refine ⟨_,t2.hd,sBn (fun c2=>RP.f (fun hG=>by rw [hG,gy] at gx; cases gx; exact c2 rfl) hs.ext) (fun c2=>?_)⟩
  refine Up.next (by omega) (by omega) ⟨hs,fun j hj=>?_⟩
  by_cases e:j=i
  ·
   subst e; rw [gx,gy,c2]
  ·
   exact hq j (by omega)
 ·
  replace c:=lt_f c
  refine RP.t (Yyr fun j=>?_) hs.ext
  by_cases hj:j<X.length
  ·
   exact hq j (by omega)
  ·
   rw [Yl (by omega),Yl (by omega)]
theorem cal63:callable Pz 63=true:=by kernel_rfl
theorem equal64 (B1 B2:List Bx) (b1 b2:Sl) (h:Heap) (h1:RL h 1 b1 Bx.cs B1) (h2:RL h 1 b2 Bx.cs B2) (i1:∀ q ∈ B1,RL h 1 q.s inC q.l) (i2:∀ q ∈ B2,RL h 1 q.s inC q.l) :
  Fn Pz 64 #[.slice b1.a b1.n b1.c,.slice b2.a b2.n b2.c,.func (.func 63) #[] #[]] h (RP (B1.map Bx.l=B2.map Bx.l) h):=by
 apply vc64 b1 b2 63; unfold W64
 have n1:=h1.ln
 have n2:=h2.ln
 have m1:=h1.sm
 refine sBn (fun c=>RP.f (fun hG=>?_) .rfl') (fun c1=>?_)
 ·
  have:=congrArg List.length hG
  rw [Yc,Yc] at this
  omega
 refine up_loopS (n:=b1.n) (St.refl h) (fun i=>∀ (j:Nat),j<i->(B1.map Bx.l)[j]?=(B2.map Bx.l)[j]?) (fun j hj=>by omega) ?_
 rintro - i h5 hi ⟨hs,hq⟩
 refine sB_intro (fun c=>?_) (fun c=>?_)
 ·
  replace c:=lt_t c
  refine (h1.rw.ext hs.ext).nbI (by omega) (by omega) fun b3 o3 x gx t3=>?_
  replace gx:B1[i]?=some x:=gx
  refine ⟨x.s,t3.hd,?_⟩
  refine (h2.rw.ext hs.ext).nbI (by omega) (by omega) fun b4 o4 y gy t4=>?_
  replace gy:B2[i]?=some y:=gy
  refine ⟨y.s,t4.hd,?_⟩
  rw [cal63,cond_true]
  refine (equal63 x.l y.l x.s y.s h5 ((i1 x (Yb gx)).ext hs.ext) ((i2 y (Yb gy)).ext hs.ext)).mono ?_
  rintro _ h14 ⟨⟨b',rfl,hb'⟩,E⟩
  have hs:=hs.step E
  have ex:(B1.map Bx.l)[i]?=some x.l:=by rw [Yd,gx]; rfl
  have ey:(B2.map Bx.l)[i]?=some y.l:=by rw [Yd,gy]; rfl
  refine ⟨_,rfl,sB_intro (fun c=>RP.f (fun hG=>iff_f hb' (bF c) ?_) hs.ext) (fun c2=>?_)⟩
  ·
   rw [hG,ey] at ex; exact (Yyp ex).symm
  ·
   refine Up.next (by omega) (by omega) ⟨hs,fun j hj=>?_⟩
   by_cases e:j=i
   ·
    subst e; rw [ex,ey,hb'.1 (bT c2)]
   ·
    exact hq j (by omega)
 ·
  replace c:=lt_f c
  refine RP.t (Yyr fun j=>?_) hs.ext
  by_cases hj:j<B1.length
  ·
   exact hq j (by omega)
  ·
   rw [Yl (by rw [Yc]; omega),Yl (by rw [Yc]; omega)]
theorem equal32 (a1 b1 a2 b2:Sl) (S1 S2:List Int) (B1 B2:List Bx) (h:Heap) (h1:CfI h a1 b1 S1 B1) (h2:CfI h a2 b2 S2 B2) :
  Fn Pz 32 #[.agg ⟨[.slice a1.a a1.n a1.c,.slice b1.a b1.n b1.c]⟩,.agg ⟨[.slice a2.a a2.n a2.c,.slice b2.a b2.n b2.c]⟩] h (RP (S1=S2/\B1.map Bx.l=B2.map Bx.l) h):=by
 apply vc32 a1 b1 a2 b2; unfold W32
 refine (St.refl h).newb fun h5 hs=>?_
 refine hs.newb fun h6 hs=>?_
 refine ⟨a1,hs.rd 1 rfl rfl,a2,hs.rd 0 rfl rfl,?_⟩
 refine (equal63 S1 S2 a1 a2 h6 (h1.s.ext hs.ext) (h2.s.ext hs.ext)).mono ?_
 rintro _ h11 ⟨⟨b,rfl,hb⟩,E⟩
 have hs:=hs.step E
 refine ⟨b,rfl,sB_intro (fun c=>?_) (fun c=>RP.f (fun hG=>iff_f hb c hG.1) hs.ext)⟩
 refine ⟨b1,hs.rd 1 rfl (i:=1) rfl,b2,hs.rd 0 rfl (i:=1) rfl,?_⟩
 refine (equal64 B1 B2 b1 b2 h11 (h1.b.ext hs.ext) (h2.b.ext hs.ext) (fun q hq=>(h1.i q hq).ext hs.ext) (fun q hq=>(h2.i q hq).ext hs.ext)).mono ?_
 rintro _ h16 ⟨⟨b3,rfl,hb3⟩,E⟩
 exact ⟨b3,rfl,RP.e (hb3.trans ⟨fun e=>⟨hb.1 c,e⟩,fun e=>e.2⟩) (hs.ext.trans E)⟩
end Go.VC
end

section
namespace Go.VC
open Go.Proofs

def W6 (p0:Sl) (p1:Int) (p2:Sl) (h:Heap) (R:Value->Heap->Prop):Prop:=
 (Fn Pz 12 #[] h
 (fun v1 h3=>∃ x2,iB v1 x2 /\
 (sB (!x2)
 (R (.bool false) h3)
 ((Fn Pz 13 #[vS p0,.agg ⟨[.slice none 0 0,.slice none 0 0]⟩] h3
 (fun v4 h6=>∃ x5,iB v4 x5 /\
 (sB (!x5)
 (R (.bool true) h6)
 ((Fn Pz 23 #[vS p0] h6
 (fun v7 h9=>∃ x8,iB v7 x8 /\
 (sB (!x8)
 (R (.bool true) h9)
 ((sB (decide ((p2.n:Int) > 40))
 (R (.bool true) h9)
 (((4:Int) ≠ 0/\(Fn Pz 26 #[vS p0,vI (IntKind.wrap .i64 (1+(Int.tmod (IntKind.wrap .i64 p1) 4))),vS p2] h9
 (fun v10 h14=>∃ (x11 x12 x13:Sl),v10=.tuple ⟨[vS x11,.agg ⟨[vS x12,vS x13]⟩]⟩ /\
 (Wn h14 [.slice none 0 0,.slice none 0 0] 26 fun h15=>
 (Wp h15 (aS h14 0) 2 [vS x12,vS x13] fun h16=>
 (∃ (x17 x18:Sl),atC h16 (aS h14 0) [vS x17,vS x18] /\
 (Fn Pz 17 #[.agg ⟨[vS x17,vS x18]⟩] h16
 (fun v19 h22=>∃ (x20 x21:Sl),v19=.agg ⟨[vS x20,vS x21]⟩ /\
 (Wn h22 [.slice none 0 0,.slice none 0 0] 29 fun h23=>
 (Wp h23 (aS h22 0) 2 [vS x20,vS x21] fun h24=>
 (∃ (x25 x26:Sl),atC h24 (aS h22 0) [vS x25,vS x26] /\
 (Fn Pz 16 #[vS p0,vI (IntKind.wrap .i64 (1+(Int.tmod (IntKind.wrap .i64 p1) 4))),.agg ⟨[vS x25,vS x26]⟩] h24
 (fun v27 h30=>∃ (x28:Sl) (x29:Int),v27=.tuple ⟨[vS x28,vI x29]⟩ /\
 (sB (x29 != 0)
 (R (.bool false) h30)
 ((QI 0 h30 fun I31 x_34 h35 m33=>(
 (sB (decide (x_34<(x28.n:Int)))
 ((∃ (x36 x37:Sl),atC h35 (aS h22 0) [vS x36,vS x37] /\
 (NB x28.a fun b38 o39=>(Ib x_34 x28.n /\
 (∃ (x40 x41:Int),atC h35 ⟨b38,o39+Int.toNat x_34*2,none⟩ [vI x40,vI x41] /\
 ((Fn Pz 27 #[vS p0,vI (IntKind.wrap .i64 (1+(Int.tmod (IntKind.wrap .i64 p1) 4))),.agg ⟨[vS x36,vS x37]⟩,.agg ⟨[vI x40,vI x41]⟩] h35
 (fun v42 h46=>∃ (x43 x44:Sl) (x45:Int),v42=.tuple ⟨[.agg ⟨[vS x43,vS x44]⟩,vI x45]⟩ /\
 (Wn h46 [.slice none 0 0,.slice none 0 0] 29 fun h47=>
 (Sm [⟨b38,o39+Int.toNat x_34*2,none⟩,(aS h22 0)] h46 h47 /\
 (Wp h47 (aS h46 0) 2 [vS x43,vS x44] fun h48=>
 (∃ (x49 x50:Sl),atC h48 (aS h22 0) [vS x49,vS x50] /\
 (NB x28.a fun b51 o52=>(Ib x_34 x28.n /\
 (∃ (x53 x54:Int),atC h48 ⟨b51,o52+Int.toNat x_34*2,none⟩ [vI x53,vI x54] /\
 ((Fn Pz 27 #[vS p0,vI (imin (IntKind.wrap .i64 ((IntKind.wrap .i64 (1+(Int.tmod (IntKind.wrap .i64 p1) 4)))+1)) 4),.agg ⟨[vS x49,vS x50]⟩,.agg ⟨[vI x53,vI x54]⟩] h48
 (fun v55 h59=>∃ (x56 x57:Sl) (x58:Int),v55=.tuple ⟨[.agg ⟨[vS x56,vS x57]⟩,vI x58]⟩ /\
 (Wn h59 [.slice none 0 0,.slice none 0 0] 29 fun h60=>
 (Sm [⟨b51,o52+Int.toNat x_34*2,none⟩,(aS h22 0)] h59 h60 /\
 (Wp h60 (aS h59 0) 2 [vS x56,vS x57] fun h61=>
 (sB (x45 != 0)
 (R (.bool false) h61)
 ((sB (x58 != 0)
 (R (.bool false) h61)
 ((∃ (x62 x63:Sl),atC h61 (aS h46 0) [vS x62,vS x63] /\
 (∃ (x64 x65:Sl),atC h61 (aS h59 0) [vS x64,vS x65] /\
 (Fn Pz 32 #[.agg ⟨[vS x62,vS x63]⟩,.agg ⟨[vS x64,vS x65]⟩] h61
 (fun v66 h68=>∃ x67,iB v66 x67 /\
 (sB (!x67)
 (R (.bool false) h68)
 ((((0:Int)<=(0:Int)/\(0:Int)<=(x_34:Int)/\(x_34:Int)<=(x28.c:Nat)) /\
 (QI 0 h68 fun I69 x_72 h73 m71=>(
 (sB (decide (x_72<(((Int.toNat x_34 - Int.toNat 0):Nat):Int)))
 ((NB x28.a fun b74 o75=>(Ib x_34 x28.n /\
 (∃ x76,rI h73 ⟨b74,o75+Int.toNat x_34*2,none⟩ x76 /\
 (NB x28.a fun b77 o78=>(Ib x_72 x28.n /\
 (∃ x79,rI h73 ⟨b77,o78+Int.toNat x_72*2,none⟩ x79 /\
 (sB (x76 == x79)
 ((∃ m80,m80<m71/\I69 (IntKind.wrap .i64 (x_72+1)) h73 m80))
 ((∃ (x81 x82:Sl),atC h73 (aS h22 0) [vS x81,vS x82] /\
 (NB x28.a fun b83 o84=>(Ib x_72 x28.n /\
 (∃ (x85 x86:Int),atC h73 ⟨b83,o84+Int.toNat x_72*2,none⟩ [vI x85,vI x86] /\
 ((Fn Pz 27 #[vS p0,vI (IntKind.wrap .i64 (1+(Int.tmod (IntKind.wrap .i64 p1) 4))),.agg ⟨[vS x81,vS x82]⟩,.agg ⟨[vI x85,vI x86]⟩] h73
 (fun v87 h91=>∃ (x88 x89:Sl) (x90:Int),v87=.tuple ⟨[.agg ⟨[vS x88,vS x89]⟩,vI x90]⟩ /\
 (Wn h91 [.slice none 0 0,.slice none 0 0] 29 fun h92=>
 (Sm [⟨b83,o84+Int.toNat x_72*2,none⟩,(aS h22 0)] h91 h92 /\
 (Wp h92 (aS h91 0) 2 [vS x88,vS x89] fun h93=>
 (∃ (x94 x95:Sl),atC h93 (aS h46 0) [vS x94,vS x95] /\
 (NB x28.a fun b96 o97=>(Ib x_72 x28.n /\
 (∃ (x98 x99:Int),atC h93 ⟨b96,o97+Int.toNat x_72*2,none⟩ [vI x98,vI x99] /\
 ((Fn Pz 27 #[vS p0,vI (IntKind.wrap .i64 (1+(Int.tmod (IntKind.wrap .i64 p1) 4))),.agg ⟨[vS x94,vS x95]⟩,.agg ⟨[vI x98,vI x99]⟩] h93
 (fun v100 h104=>∃ (x101 x102:Sl) (x103:Int),v100=.tuple ⟨[.agg ⟨[vS x101,vS x102]⟩,vI x103]⟩ /\
 (Wn h104 [.slice none 0 0,.slice none 0 0] 29 fun h105=>
 (Sm [⟨b96,o97+Int.toNat x_72*2,none⟩,(aS h46 0)] h104 h105 /\
 (Wp h105 (aS h104 0) 2 [vS x101,vS x102] fun h106=>
 (∃ (x107 x108:Sl),atC h106 (aS h91 0) [vS x107,vS x108] /\
 (NB x28.a fun b109 o110=>(Ib x_34 x28.n /\
 (∃ (x111 x112:Int),atC h106 ⟨b109,o110+Int.toNat x_34*2,none⟩ [vI x111,vI x112] /\
 ((Fn Pz 27 #[vS p0,vI (IntKind.wrap .i64 (1+(Int.tmod (IntKind.wrap .i64 p1) 4))),.agg ⟨[vS x107,vS x108]⟩,.agg ⟨[vI x111,vI x112]⟩] h106
 (fun v113 h117=>∃ (x114 x115:Sl) (x116:Int),v113=.tuple ⟨[.agg ⟨[vS x114,vS x115]⟩,vI x116]⟩ /\
 (Wn h117 [.slice none 0 0,.slice none 0 0] 29 fun h118=>
 (Sm [⟨b109,o110+Int.toNat x_34*2,none⟩,(aS h91 0)] h117 h118 /\
 (Wp h118 (aS h117 0) 2 [vS x114,vS x115] fun h119=>
 (sB (x90 != 0)
 (R (.bool false) h119)
 ((sB (x103 != 0)
 (R (.bool false) h119)
 ((sB (x116 != 0)
 (R (.bool false) h119)
 ((∃ (x120 x121:Sl),atC h119 (aS h104 0) [vS x120,vS x121] /\
 (∃ (x122 x123:Sl),atC h119 (aS h117 0) [vS x122,vS x123] /\
 (Fn Pz 32 #[.agg ⟨[vS x120,vS x121]⟩,.agg ⟨[vS x122,vS x123]⟩] h119
 (fun v124 h126=>∃ x125,iB v124 x125 /\
 (sB (!x125)
 (R (.bool false) h126)
 ((∃ m127,m127<m71/\I69 (IntKind.wrap .i64 (x_72+1)) h126 m127)))))))))))))))))))/\((Wn h106 [.slice none 0 0,.slice none 0 0] 29 fun h128=>
 (Sm [⟨b109,o110+Int.toNat x_34*2,none⟩,(aS h91 0)] h106 h128 /\
 (Fn Pz 27 #[vS p0,vI (IntKind.wrap .i64 (1+(Int.tmod (IntKind.wrap .i64 p1) 4))),.agg ⟨[vS x107,vS x108]⟩,.agg ⟨[vI x111,vI x112]⟩] h128
 (fun v129 h133=>∃ (x130 x131:Sl) (x132:Int),v129=.tuple ⟨[.agg ⟨[vS x130,vS x131]⟩,vI x132]⟩ /\
 (Wp h133 (aS h106 0) 2 [vS x130,vS x131] fun h134=>
 (sB (x90 != 0)
 (R (.bool false) h134)
 ((sB (x103 != 0)
 (R (.bool false) h134)
 ((sB (x132 != 0)
 (R (.bool false) h134)
 ((∃ (x135 x136:Sl),atC h134 (aS h104 0) [vS x135,vS x136] /\
 (∃ (x137 x138:Sl),atC h134 (aS h106 0) [vS x137,vS x138] /\
 (Fn Pz 32 #[.agg ⟨[vS x135,vS x136]⟩,.agg ⟨[vS x137,vS x138]⟩] h134
 (fun v139 h141=>∃ x140,iB v139 x140 /\
 (sB (!x140)
 (R (.bool false) h141)
 ((∃ m142,m142<m71/\I69 (IntKind.wrap .i64 (x_72+1)) h141 m142)))))))))))))))))))))))))))))/\((Wn h93 [.slice none 0 0,.slice none 0 0] 29 fun h143=>
 (Sm [⟨b96,o97+Int.toNat x_72*2,none⟩,(aS h46 0)] h93 h143 /\
 (Fn Pz 27 #[vS p0,vI (IntKind.wrap .i64 (1+(Int.tmod (IntKind.wrap .i64 p1) 4))),.agg ⟨[vS x94,vS x95]⟩,.agg ⟨[vI x98,vI x99]⟩] h143
 (fun v144 h148=>∃ (x145 x146:Sl) (x147:Int),v144=.tuple ⟨[.agg ⟨[vS x145,vS x146]⟩,vI x147]⟩ /\
 (Wp h148 (aS h93 0) 2 [vS x145,vS x146] fun h149=>
 (∃ (x150 x151:Sl),atC h149 (aS h91 0) [vS x150,vS x151] /\
 (NB x28.a fun b152 o153=>(Ib x_34 x28.n /\
 (∃ (x154 x155:Int),atC h149 ⟨b152,o153+Int.toNat x_34*2,none⟩ [vI x154,vI x155] /\
 ((Fn Pz 27 #[vS p0,vI (IntKind.wrap .i64 (1+(Int.tmod (IntKind.wrap .i64 p1) 4))),.agg ⟨[vS x150,vS x151]⟩,.agg ⟨[vI x154,vI x155]⟩] h149
 (fun v156 h160=>∃ (x157 x158:Sl) (x159:Int),v156=.tuple ⟨[.agg ⟨[vS x157,vS x158]⟩,vI x159]⟩ /\
 (Wn h160 [.slice none 0 0,.slice none 0 0] 29 fun h161=>
 (Sm [⟨b152,o153+Int.toNat x_34*2,none⟩,(aS h91 0)] h160 h161 /\
 (Wp h161 (aS h160 0) 2 [vS x157,vS x158] fun h162=>
 (sB (x90 != 0)
 (R (.bool false) h162)
 ((sB (x147 != 0)
 (R (.bool false) h162)
 ((sB (x159 != 0)
 (R (.bool false) h162)
 ((∃ (x163 x164:Sl),atC h162 (aS h93 0) [vS x163,vS x164] /\
 (∃ (x165 x166:Sl),atC h162 (aS h160 0) [vS x165,vS x166] /\
 (Fn Pz 32 #[.agg ⟨[vS x163,vS x164]⟩,.agg ⟨[vS x165,vS x166]⟩] h162
 (fun v167 h169=>∃ x168,iB v167 x168 /\
 (sB (!x168)
 (R (.bool false) h169)
 ((∃ m170,m170<m71/\I69 (IntKind.wrap .i64 (x_72+1)) h169 m170)))))))))))))))))))/\((Wn h149 [.slice none 0 0,.slice none 0 0] 29 fun h171=>
 (Sm [⟨b152,o153+Int.toNat x_34*2,none⟩,(aS h91 0)] h149 h171 /\
 (Fn Pz 27 #[vS p0,vI (IntKind.wrap .i64 (1+(Int.tmod (IntKind.wrap .i64 p1) 4))),.agg ⟨[vS x150,vS x151]⟩,.agg ⟨[vI x154,vI x155]⟩] h171
 (fun v172 h176=>∃ (x173 x174:Sl) (x175:Int),v172=.tuple ⟨[.agg ⟨[vS x173,vS x174]⟩,vI x175]⟩ /\
 (Wp h176 (aS h149 0) 2 [vS x173,vS x174] fun h177=>
 (sB (x90 != 0)
 (R (.bool false) h177)
 ((sB (x147 != 0)
 (R (.bool false) h177)
 ((sB (x175 != 0)
 (R (.bool false) h177)
 ((∃ (x178 x179:Sl),atC h177 (aS h93 0) [vS x178,vS x179] /\
 (∃ (x180 x181:Sl),atC h177 (aS h149 0) [vS x180,vS x181] /\
 (Fn Pz 32 #[.agg ⟨[vS x178,vS x179]⟩,.agg ⟨[vS x180,vS x181]⟩] h177
 (fun v182 h184=>∃ x183,iB v182 x183 /\
 (sB (!x183)
 (R (.bool false) h184)
 ((∃ m185,m185<m71/\I69 (IntKind.wrap .i64 (x_72+1)) h184 m185)))))))))))))))))))))))))))))))))))))))/\((Wn h73 [.slice none 0 0,.slice none 0 0] 29 fun h186=>
 (Sm [⟨b83,o84+Int.toNat x_72*2,none⟩,(aS h22 0)] h73 h186 /\
 (Fn Pz 27 #[vS p0,vI (IntKind.wrap .i64 (1+(Int.tmod (IntKind.wrap .i64 p1) 4))),.agg ⟨[vS x81,vS x82]⟩,.agg ⟨[vI x85,vI x86]⟩] h186
 (fun v187 h191=>∃ (x188 x189:Sl) (x190:Int),v187=.tuple ⟨[.agg ⟨[vS x188,vS x189]⟩,vI x190]⟩ /\
 (Wp h191 (aS h73 0) 2 [vS x188,vS x189] fun h192=>
 (∃ (x193 x194:Sl),atC h192 (aS h46 0) [vS x193,vS x194] /\
 (NB x28.a fun b195 o196=>(Ib x_72 x28.n /\
 (∃ (x197 x198:Int),atC h192 ⟨b195,o196+Int.toNat x_72*2,none⟩ [vI x197,vI x198] /\
 ((Fn Pz 27 #[vS p0,vI (IntKind.wrap .i64 (1+(Int.tmod (IntKind.wrap .i64 p1) 4))),.agg ⟨[vS x193,vS x194]⟩,.agg ⟨[vI x197,vI x198]⟩] h192
 (fun v199 h203=>∃ (x200 x201:Sl) (x202:Int),v199=.tuple ⟨[.agg ⟨[vS x200,vS x201]⟩,vI x202]⟩ /\
 (Wn h203 [.slice none 0 0,.slice none 0 0] 29 fun h204=>
 (Sm [⟨b195,o196+Int.toNat x_72*2,none⟩,(aS h46 0)] h203 h204 /\
 (Wp h204 (aS h203 0) 2 [vS x200,vS x201] fun h205=>
 (∃ (x206 x207:Sl),atC h205 (aS h73 0) [vS x206,vS x207] /\
 (NB x28.a fun b208 o209=>(Ib x_34 x28.n /\
 (∃ (x210 x211:Int),atC h205 ⟨b208,o209+Int.toNat x_34*2,none⟩ [vI x210,vI x211] /\
 ((Fn Pz 27 #[vS p0,vI (IntKind.wrap .i64 (1+(Int.tmod (IntKind.wrap .i64 p1) 4))),.agg ⟨[vS x206,vS x207]⟩,.agg ⟨[vI x210,vI x211]⟩] h205
 (fun v212 h216=>∃ (x213 x214:Sl) (x215:Int),v212=.tuple ⟨[.agg ⟨[vS x213,vS x214]⟩,vI x215]⟩ /\
 (Wn h216 [.slice none 0 0,.slice none 0 0] 29 fun h217=>
 (Sm [⟨b208,o209+Int.toNat x_34*2,none⟩,(aS h73 0)] h216 h217 /\
 (Wp h217 (aS h216 0) 2 [vS x213,vS x214] fun h218=>
 (sB (x190 != 0)
 (R (.bool false) h218)
 ((sB (x202 != 0)
 (R (.bool false) h218)
 ((sB (x215 != 0)
 (R (.bool false) h218)
 ((∃ (x219 x220:Sl),atC h218 (aS h203 0) [vS x219,vS x220] /\
 (∃ (x221 x222:Sl),atC h218 (aS h216 0) [vS x221,vS x222] /\
 (Fn Pz 32 #[.agg ⟨[vS x219,vS x220]⟩,.agg ⟨[vS x221,vS x222]⟩] h218
 (fun v223 h225=>∃ x224,iB v223 x224 /\
 (sB (!x224)
 (R (.bool false) h225)
 ((∃ m226,m226<m71/\I69 (IntKind.wrap .i64 (x_72+1)) h225 m226)))))))))))))))))))/\((Wn h205 [.slice none 0 0,.slice none 0 0] 29 fun h227=>
 (Sm [⟨b208,o209+Int.toNat x_34*2,none⟩,(aS h73 0)] h205 h227 /\
 (Fn Pz 27 #[vS p0,vI (IntKind.wrap .i64 (1+(Int.tmod (IntKind.wrap .i64 p1) 4))),.agg ⟨[vS x206,vS x207]⟩,.agg ⟨[vI x210,vI x211]⟩] h227
 (fun v228 h232=>∃ (x229 x230:Sl) (x231:Int),v228=.tuple ⟨[.agg ⟨[vS x229,vS x230]⟩,vI x231]⟩ /\
 (Wp h232 (aS h205 0) 2 [vS x229,vS x230] fun h233=>
 (sB (x190 != 0)
 (R (.bool false) h233)
 ((sB (x202 != 0)
 (R (.bool false) h233)
 ((sB (x231 != 0)
 (R (.bool false) h233)
 ((∃ (x234 x235:Sl),atC h233 (aS h203 0) [vS x234,vS x235] /\
 (∃ (x236 x237:Sl),atC h233 (aS h205 0) [vS x236,vS x237] /\
 (Fn Pz 32 #[.agg ⟨[vS x234,vS x235]⟩,.agg ⟨[vS x236,vS x237]⟩] h233
 (fun v238 h240=>∃ x239,iB v238 x239 /\
 (sB (!x239)
 (R (.bool false) h240)
 ((∃ m241,m241<m71/\I69 (IntKind.wrap .i64 (x_72+1)) h240 m241)))))))))))))))))))))))))))))/\((Wn h192 [.slice none 0 0,.slice none 0 0] 29 fun h242=>
 (Sm [⟨b195,o196+Int.toNat x_72*2,none⟩,(aS h46 0)] h192 h242 /\
 (Fn Pz 27 #[vS p0,vI (IntKind.wrap .i64 (1+(Int.tmod (IntKind.wrap .i64 p1) 4))),.agg ⟨[vS x193,vS x194]⟩,.agg ⟨[vI x197,vI x198]⟩] h242
 (fun v243 h247=>∃ (x244 x245:Sl) (x246:Int),v243=.tuple ⟨[.agg ⟨[vS x244,vS x245]⟩,vI x246]⟩ /\
 (Wp h247 (aS h192 0) 2 [vS x244,vS x245] fun h248=>
 (∃ (x249 x250:Sl),atC h248 (aS h73 0) [vS x249,vS x250] /\
 (NB x28.a fun b251 o252=>(Ib x_34 x28.n /\
 (∃ (x253 x254:Int),atC h248 ⟨b251,o252+Int.toNat x_34*2,none⟩ [vI x253,vI x254] /\
 ((Fn Pz 27 #[vS p0,vI (IntKind.wrap .i64 (1+(Int.tmod (IntKind.wrap .i64 p1) 4))),.agg ⟨[vS x249,vS x250]⟩,.agg ⟨[vI x253,vI x254]⟩] h248
 (fun v255 h259=>∃ (x256 x257:Sl) (x258:Int),v255=.tuple ⟨[.agg ⟨[vS x256,vS x257]⟩,vI x258]⟩ /\
 (Wn h259 [.slice none 0 0,.slice none 0 0] 29 fun h260=>
 (Sm [⟨b251,o252+Int.toNat x_34*2,none⟩,(aS h73 0)] h259 h260 /\
 (Wp h260 (aS h259 0) 2 [vS x256,vS x257] fun h261=>
 (sB (x190 != 0)
 (R (.bool false) h261)
 ((sB (x246 != 0)
 (R (.bool false) h261)
 ((sB (x258 != 0)
 (R (.bool false) h261)
 ((∃ (x262 x263:Sl),atC h261 (aS h192 0) [vS x262,vS x263] /\
 (∃ (x264 x265:Sl),atC h261 (aS h259 0) [vS x264,vS x265] /\
 (Fn Pz 32 #[.agg ⟨[vS x262,vS x263]⟩,.agg ⟨[vS x264,vS x265]⟩] h261
 (fun v266 h268=>∃ x267,iB v266 x267 /\
 (sB (!x267)
 (R (.bool false) h268)
 ((∃ m269,m269<m71/\I69 (IntKind.wrap .i64 (x_72+1)) h268 m269)))))))))))))))))))/\((Wn h248 [.slice none 0 0,.slice none 0 0] 29 fun h270=>
 (Sm [⟨b251,o252+Int.toNat x_34*2,none⟩,(aS h73 0)] h248 h270 /\
 (Fn Pz 27 #[vS p0,vI (IntKind.wrap .i64 (1+(Int.tmod (IntKind.wrap .i64 p1) 4))),.agg ⟨[vS x249,vS x250]⟩,.agg ⟨[vI x253,vI x254]⟩] h270
 (fun v271 h275=>∃ (x272 x273:Sl) (x274:Int),v271=.tuple ⟨[.agg ⟨[vS x272,vS x273]⟩,vI x274]⟩ /\
 (Wp h275 (aS h248 0) 2 [vS x272,vS x273] fun h276=>
 (sB (x190 != 0)
 (R (.bool false) h276)
 ((sB (x246 != 0)
 (R (.bool false) h276)
 ((sB (x274 != 0)
 (R (.bool false) h276)
 ((∃ (x277 x278:Sl),atC h276 (aS h192 0) [vS x277,vS x278] /\
 (∃ (x279 x280:Sl),atC h276 (aS h248 0) [vS x279,vS x280] /\
 (Fn Pz 32 #[.agg ⟨[vS x277,vS x278]⟩,.agg ⟨[vS x279,vS x280]⟩] h276
 (fun v281 h283=>∃ x282,iB v281 x282 /\
 (sB (!x282)
 (R (.bool false) h283)
 ((∃ m284,m284<m71/\I69 (IntKind.wrap .i64 (x_72+1)) h283 m284))))))))))))))))))))))))))))))))))))))))))))))))))))
 ((∃ m285,m285<m33/\I31 (IntKind.wrap .i64 (x_34+1)) h73 m285))))))))))))))))))))))/\((Wn h48 [.slice none 0 0,.slice none 0 0] 29 fun h286=>
 (Sm [⟨b51,o52+Int.toNat x_34*2,none⟩,(aS h22 0)] h48 h286 /\
 (Fn Pz 27 #[vS p0,vI (imin (IntKind.wrap .i64 ((IntKind.wrap .i64 (1+(Int.tmod (IntKind.wrap .i64 p1) 4)))+1)) 4),.agg ⟨[vS x49,vS x50]⟩,.agg ⟨[vI x53,vI x54]⟩] h286
 (fun v287 h291=>∃ (x288 x289:Sl) (x290:Int),v287=.tuple ⟨[.agg ⟨[vS x288,vS x289]⟩,vI x290]⟩ /\
 (Wp h291 (aS h48 0) 2 [vS x288,vS x289] fun h292=>
 (sB (x45 != 0)
 (R (.bool false) h292)
 ((sB (x290 != 0)
 (R (.bool false) h292)
 ((∃ (x293 x294:Sl),atC h292 (aS h46 0) [vS x293,vS x294] /\
 (∃ (x295 x296:Sl),atC h292 (aS h48 0) [vS x295,vS x296] /\
 (Fn Pz 32 #[.agg ⟨[vS x293,vS x294]⟩,.agg ⟨[vS x295,vS x296]⟩] h292
 (fun v297 h299=>∃ x298,iB v297 x298 /\
 (sB (!x298)
 (R (.bool false) h299)
 ((((0:Int)<=(0:Int)/\(0:Int)<=(x_34:Int)/\(x_34:Int)<=(x28.c:Nat)) /\
 (QI 0 h299 fun I300 x_303 h304 m302=>(
 (sB (decide (x_303<(((Int.toNat x_34 - Int.toNat 0):Nat):Int)))
 ((NB x28.a fun b305 o306=>(Ib x_34 x28.n /\
 (∃ x307,rI h304 ⟨b305,o306+Int.toNat x_34*2,none⟩ x307 /\
 (NB x28.a fun b308 o309=>(Ib x_303 x28.n /\
 (∃ x310,rI h304 ⟨b308,o309+Int.toNat x_303*2,none⟩ x310 /\
 (sB (x307 == x310)
 ((∃ m311,m311<m302/\I300 (IntKind.wrap .i64 (x_303+1)) h304 m311))
 ((∃ (x312 x313:Sl),atC h304 (aS h22 0) [vS x312,vS x313] /\
 (NB x28.a fun b314 o315=>(Ib x_303 x28.n /\
 (∃ (x316 x317:Int),atC h304 ⟨b314,o315+Int.toNat x_303*2,none⟩ [vI x316,vI x317] /\
 ((Fn Pz 27 #[vS p0,vI (IntKind.wrap .i64 (1+(Int.tmod (IntKind.wrap .i64 p1) 4))),.agg ⟨[vS x312,vS x313]⟩,.agg ⟨[vI x316,vI x317]⟩] h304
 (fun v318 h322=>∃ (x319 x320:Sl) (x321:Int),v318=.tuple ⟨[.agg ⟨[vS x319,vS x320]⟩,vI x321]⟩ /\
 (Wn h322 [.slice none 0 0,.slice none 0 0] 29 fun h323=>
 (Sm [⟨b314,o315+Int.toNat x_303*2,none⟩,(aS h22 0)] h322 h323 /\
 (Wp h323 (aS h322 0) 2 [vS x319,vS x320] fun h324=>
 (∃ (x325 x326:Sl),atC h324 (aS h46 0) [vS x325,vS x326] /\
 (NB x28.a fun b327 o328=>(Ib x_303 x28.n /\
 (∃ (x329 x330:Int),atC h324 ⟨b327,o328+Int.toNat x_303*2,none⟩ [vI x329,vI x330] /\
 ((Fn Pz 27 #[vS p0,vI (IntKind.wrap .i64 (1+(Int.tmod (IntKind.wrap .i64 p1) 4))),.agg ⟨[vS x325,vS x326]⟩,.agg ⟨[vI x329,vI x330]⟩] h324
 (fun v331 h335=>∃ (x332 x333:Sl) (x334:Int),v331=.tuple ⟨[.agg ⟨[vS x332,vS x333]⟩,vI x334]⟩ /\
 (Wn h335 [.slice none 0 0,.slice none 0 0] 29 fun h336=>
 (Sm [⟨b327,o328+Int.toNat x_303*2,none⟩,(aS h46 0)] h335 h336 /\
 (Wp h336 (aS h335 0) 2 [vS x332,vS x333] fun h337=>
 (∃ (x338 x339:Sl),atC h337 (aS h322 0) [vS x338,vS x339] /\
 (NB x28.a fun b340 o341=>(Ib x_34 x28.n /\
 (∃ (x342 x343:Int),atC h337 ⟨b340,o341+Int.toNat x_34*2,none⟩ [vI x342,vI x343] /\
 ((Fn Pz 27 #[vS p0,vI (IntKind.wrap .i64 (1+(Int.tmod (IntKind.wrap .i64 p1) 4))),.agg ⟨[vS x338,vS x339]⟩,.agg ⟨[vI x342,vI x343]⟩] h337
 (fun v344 h348=>∃ (x345 x346:Sl) (x347:Int),v344=.tuple ⟨[.agg ⟨[vS x345,vS x346]⟩,vI x347]⟩ /\
 (Wn h348 [.slice none 0 0,.slice none 0 0] 29 fun h349=>
 (Sm [⟨b340,o341+Int.toNat x_34*2,none⟩,(aS h322 0)] h348 h349 /\
 (Wp h349 (aS h348 0) 2 [vS x345,vS x346] fun h350=>
 (sB (x321 != 0)
 (R (.bool false) h350)
 ((sB (x334 != 0)
 (R (.bool false) h350)
 ((sB (x347 != 0)
 (R (.bool false) h350)
 ((∃ (x351 x352:Sl),atC h350 (aS h335 0) [vS x351,vS x352] /\
 (∃ (x353 x354:Sl),atC h350 (aS h348 0) [vS x353,vS x354] /\
 (Fn Pz 32 #[.agg ⟨[vS x351,vS x352]⟩,.agg ⟨[vS x353,vS x354]⟩] h350
 (fun v355 h357=>∃ x356,iB v355 x356 /\
 (sB (!x356)
 (R (.bool false) h357)
 ((∃ m358,m358<m302/\I300 (IntKind.wrap .i64 (x_303+1)) h357 m358)))))))))))))))))))/\((Wn h337 [.slice none 0 0,.slice none 0 0] 29 fun h359=>
 (Sm [⟨b340,o341+Int.toNat x_34*2,none⟩,(aS h322 0)] h337 h359 /\
 (Fn Pz 27 #[vS p0,vI (IntKind.wrap .i64 (1+(Int.tmod (IntKind.wrap .i64 p1) 4))),.agg ⟨[vS x338,vS x339]⟩,.agg ⟨[vI x342,vI x343]⟩] h359
 (fun v360 h364=>∃ (x361 x362:Sl) (x363:Int),v360=.tuple ⟨[.agg ⟨[vS x361,vS x362]⟩,vI x363]⟩ /\
 (Wp h364 (aS h337 0) 2 [vS x361,vS x362] fun h365=>
 (sB (x321 != 0)
 (R (.bool false) h365)
 ((sB (x334 != 0)
 (R (.bool false) h365)
 ((sB (x363 != 0)
 (R (.bool false) h365)
 ((∃ (x366 x367:Sl),atC h365 (aS h335 0) [vS x366,vS x367] /\
 (∃ (x368 x369:Sl),atC h365 (aS h337 0) [vS x368,vS x369] /\
 (Fn Pz 32 #[.agg ⟨[vS x366,vS x367]⟩,.agg ⟨[vS x368,vS x369]⟩] h365
 (fun v370 h372=>∃ x371,iB v370 x371 /\
 (sB (!x371)
 (R (.bool false) h372)
 ((∃ m373,m373<m302/\I300 (IntKind.wrap .i64 (x_303+1)) h372 m373)))))))))))))))))))))))))))))/\((Wn h324 [.slice none 0 0,.slice none 0 0] 29 fun h374=>
 (Sm [⟨b327,o328+Int.toNat x_303*2,none⟩,(aS h46 0)] h324 h374 /\
 (Fn Pz 27 #[vS p0,vI (IntKind.wrap .i64 (1+(Int.tmod (IntKind.wrap .i64 p1) 4))),.agg ⟨[vS x325,vS x326]⟩,.agg ⟨[vI x329,vI x330]⟩] h374
 (fun v375 h379=>∃ (x376 x377:Sl) (x378:Int),v375=.tuple ⟨[.agg ⟨[vS x376,vS x377]⟩,vI x378]⟩ /\
 (Wp h379 (aS h324 0) 2 [vS x376,vS x377] fun h380=>
 (∃ (x381 x382:Sl),atC h380 (aS h322 0) [vS x381,vS x382] /\
 (NB x28.a fun b383 o384=>(Ib x_34 x28.n /\
 (∃ (x385 x386:Int),atC h380 ⟨b383,o384+Int.toNat x_34*2,none⟩ [vI x385,vI x386] /\
 ((Fn Pz 27 #[vS p0,vI (IntKind.wrap .i64 (1+(Int.tmod (IntKind.wrap .i64 p1) 4))),.agg ⟨[vS x381,vS x382]⟩,.agg ⟨[vI x385,vI x386]⟩] h380
 (fun v387 h391=>∃ (x388 x389:Sl) (x390:Int),v387=.tuple ⟨[.agg ⟨[vS x388,vS x389]⟩,vI x390]⟩ /\
 (Wn h391 [.slice none 0 0,.slice none 0 0] 29 fun h392=>
 (Sm [⟨b383,o384+Int.toNat x_34*2,none⟩,(aS h322 0)] h391 h392 /\
 (Wp h392 (aS h391 0) 2 [vS x388,vS x389] fun h393=>
 (sB (x321 != 0)
 (R (.bool false) h393)
 ((sB (x378 != 0)
 (R (.bool false) h393)
 ((sB (x390 != 0)
 (R (.bool false) h393)
 ((∃ (x394 x395:Sl),atC h393 (aS h324 0) [vS x394,vS x395] /\
 (∃ (x396 x397:Sl),atC h393 (aS h391 0) [vS x396,vS x397] /\
 (Fn Pz 32 #[.agg ⟨[vS x394,vS x395]⟩,.agg ⟨[vS x396,vS x397]⟩] h393
 (fun v398 h400=>∃ x399,iB v398 x399 /\
 (sB (!x399)
 (R (.bool false) h400)
 ((∃ m401,m401<m302/\I300 (IntKind.wrap .i64 (x_303+1)) h400 m401)))))))))))))))))))/\((Wn h380 [.slice none 0 0,.slice none 0 0] 29 fun h402=>
 (Sm [⟨b383,o384+Int.toNat x_34*2,none⟩,(aS h322 0)] h380 h402 /\
 (Fn Pz 27 #[vS p0,vI (IntKind.wrap .i64 (1+(Int.tmod (IntKind.wrap .i64 p1) 4))),.agg ⟨[vS x381,vS x382]⟩,.agg ⟨[vI x385,vI x386]⟩] h402
 (fun v403 h407=>∃ (x404 x405:Sl) (x406:Int),v403=.tuple ⟨[.agg ⟨[vS x404,vS x405]⟩,vI x406]⟩ /\
 (Wp h407 (aS h380 0) 2 [vS x404,vS x405] fun h408=>
 (sB (x321 != 0)
 (R (.bool false) h408)
 ((sB (x378 != 0)
 (R (.bool false) h408)
 ((sB (x406 != 0)
 (R (.bool false) h408)
 ((∃ (x409 x410:Sl),atC h408 (aS h324 0) [vS x409,vS x410] /\
 (∃ (x411 x412:Sl),atC h408 (aS h380 0) [vS x411,vS x412] /\
 (Fn Pz 32 #[.agg ⟨[vS x409,vS x410]⟩,.agg ⟨[vS x411,vS x412]⟩] h408
 (fun v413 h415=>∃ x414,iB v413 x414 /\
 (sB (!x414)
 (R (.bool false) h415)
 ((∃ m416,m416<m302/\I300 (IntKind.wrap .i64 (x_303+1)) h415 m416)))))))))))))))))))))))))))))))))))))))/\((Wn h304 [.slice none 0 0,.slice none 0 0] 29 fun h417=>
 (Sm [⟨b314,o315+Int.toNat x_303*2,none⟩,(aS h22 0)] h304 h417 /\
 (Fn Pz 27 #[vS p0,vI (IntKind.wrap .i64 (1+(Int.tmod (IntKind.wrap .i64 p1) 4))),.agg ⟨[vS x312,vS x313]⟩,.agg ⟨[vI x316,vI x317]⟩] h417
 (fun v418 h422=>∃ (x419 x420:Sl) (x421:Int),v418=.tuple ⟨[.agg ⟨[vS x419,vS x420]⟩,vI x421]⟩ /\
 (Wp h422 (aS h304 0) 2 [vS x419,vS x420] fun h423=>
 (∃ (x424 x425:Sl),atC h423 (aS h46 0) [vS x424,vS x425] /\
 (NB x28.a fun b426 o427=>(Ib x_303 x28.n /\
 (∃ (x428 x429:Int),atC h423 ⟨b426,o427+Int.toNat x_303*2,none⟩ [vI x428,vI x429] /\
 ((Fn Pz 27 #[vS p0,vI (IntKind.wrap .i64 (1+(Int.tmod (IntKind.wrap .i64 p1) 4))),.agg ⟨[vS x424,vS x425]⟩,.agg ⟨[vI x428,vI x429]⟩] h423
 (fun v430 h434=>∃ (x431 x432:Sl) (x433:Int),v430=.tuple ⟨[.agg ⟨[vS x431,vS x432]⟩,vI x433]⟩ /\
 (Wn h434 [.slice none 0 0,.slice none 0 0] 29 fun h435=>
 (Sm [⟨b426,o427+Int.toNat x_303*2,none⟩,(aS h46 0)] h434 h435 /\
 (Wp h435 (aS h434 0) 2 [vS x431,vS x432] fun h436=>
 (∃ (x437 x438:Sl),atC h436 (aS h304 0) [vS x437,vS x438] /\
 (NB x28.a fun b439 o440=>(Ib x_34 x28.n /\
 (∃ (x441 x442:Int),atC h436 ⟨b439,o440+Int.toNat x_34*2,none⟩ [vI x441,vI x442] /\
 ((Fn Pz 27 #[vS p0,vI (IntKind.wrap .i64 (1+(Int.tmod (IntKind.wrap .i64 p1) 4))),.agg ⟨[vS x437,vS x438]⟩,.agg ⟨[vI x441,vI x442]⟩] h436
 (fun v443 h447=>∃ (x444 x445:Sl) (x446:Int),v443=.tuple ⟨[.agg ⟨[vS x444,vS x445]⟩,vI x446]⟩ /\
 (Wn h447 [.slice none 0 0,.slice none 0 0] 29 fun h448=>
 (Sm [⟨b439,o440+Int.toNat x_34*2,none⟩,(aS h304 0)] h447 h448 /\
 (Wp h448 (aS h447 0) 2 [vS x444,vS x445] fun h449=>
 (sB (x421 != 0)
 (R (.bool false) h449)
 ((sB (x433 != 0)
 (R (.bool false) h449)
 ((sB (x446 != 0)
 (R (.bool false) h449)
 ((∃ (x450 x451:Sl),atC h449 (aS h434 0) [vS x450,vS x451] /\
 (∃ (x452 x453:Sl),atC h449 (aS h447 0) [vS x452,vS x453] /\
 (Fn Pz 32 #[.agg ⟨[vS x450,vS x451]⟩,.agg ⟨[vS x452,vS x453]⟩] h449
 (fun v454 h456=>∃ x455,iB v454 x455 /\
 (sB (!x455)
 (R (.bool false) h456)
 ((∃ m457,m457<m302/\I300 (IntKind.wrap .i64 (x_303+1)) h456 m457)))))))))))))))))))/\((Wn h436 [.slice none 0 0,.slice none 0 0] 29 fun h458=>
 (Sm [⟨b439,o440+Int.toNat x_34*2,none⟩,(aS h304 0)] h436 h458 /\
 (Fn Pz 27 #[vS p0,vI (IntKind.wrap .i64 (1+(Int.tmod (IntKind.wrap .i64 p1) 4))),.agg ⟨[vS x437,vS x438]⟩,.agg ⟨[vI x441,vI x442]⟩] h458
 (fun v459 h463=>∃ (x460 x461:Sl) (x462:Int),v459=.tuple ⟨[.agg ⟨[vS x460,vS x461]⟩,vI x462]⟩ /\
 (Wp h463 (aS h436 0) 2 [vS x460,vS x461] fun h464=>
 (sB (x421 != 0)
 (R (.bool false) h464)
 ((sB (x433 != 0)
 (R (.bool false) h464)
 ((sB (x462 != 0)
 (R (.bool false) h464)
 ((∃ (x465 x466:Sl),atC h464 (aS h434 0) [vS x465,vS x466] /\
 (∃ (x467 x468:Sl),atC h464 (aS h436 0) [vS x467,vS x468] /\
 (Fn Pz 32 #[.agg ⟨[vS x465,vS x466]⟩,.agg ⟨[vS x467,vS x468]⟩] h464
 (fun v469 h471=>∃ x470,iB v469 x470 /\
 (sB (!x470)
 (R (.bool false) h471)
 ((∃ m472,m472<m302/\I300 (IntKind.wrap .i64 (x_303+1)) h471 m472)))))))))))))))))))))))))))))/\((Wn h423 [.slice none 0 0,.slice none 0 0] 29 fun h473=>
 (Sm [⟨b426,o427+Int.toNat x_303*2,none⟩,(aS h46 0)] h423 h473 /\
 (Fn Pz 27 #[vS p0,vI (IntKind.wrap .i64 (1+(Int.tmod (IntKind.wrap .i64 p1) 4))),.agg ⟨[vS x424,vS x425]⟩,.agg ⟨[vI x428,vI x429]⟩] h473
 (fun v474 h478=>∃ (x475 x476:Sl) (x477:Int),v474=.tuple ⟨[.agg ⟨[vS x475,vS x476]⟩,vI x477]⟩ /\
 (Wp h478 (aS h423 0) 2 [vS x475,vS x476] fun h479=>
 (∃ (x480 x481:Sl),atC h479 (aS h304 0) [vS x480,vS x481] /\
 (NB x28.a fun b482 o483=>(Ib x_34 x28.n /\
 (∃ (x484 x485:Int),atC h479 ⟨b482,o483+Int.toNat x_34*2,none⟩ [vI x484,vI x485] /\
 ((Fn Pz 27 #[vS p0,vI (IntKind.wrap .i64 (1+(Int.tmod (IntKind.wrap .i64 p1) 4))),.agg ⟨[vS x480,vS x481]⟩,.agg ⟨[vI x484,vI x485]⟩] h479
 (fun v486 h490=>∃ (x487 x488:Sl) (x489:Int),v486=.tuple ⟨[.agg ⟨[vS x487,vS x488]⟩,vI x489]⟩ /\
 (Wn h490 [.slice none 0 0,.slice none 0 0] 29 fun h491=>
 (Sm [⟨b482,o483+Int.toNat x_34*2,none⟩,(aS h304 0)] h490 h491 /\
 (Wp h491 (aS h490 0) 2 [vS x487,vS x488] fun h492=>
 (sB (x421 != 0)
 (R (.bool false) h492)
 ((sB (x477 != 0)
 (R (.bool false) h492)
 ((sB (x489 != 0)
 (R (.bool false) h492)
 ((∃ (x493 x494:Sl),atC h492 (aS h423 0) [vS x493,vS x494] /\
 (∃ (x495 x496:Sl),atC h492 (aS h490 0) [vS x495,vS x496] /\
 (Fn Pz 32 #[.agg ⟨[vS x493,vS x494]⟩,.agg ⟨[vS x495,vS x496]⟩] h492
 (fun v497 h499=>∃ x498,iB v497 x498 /\
 (sB (!x498)
 (R (.bool false) h499)
 ((∃ m500,m500<m302/\I300 (IntKind.wrap .i64 (x_303+1)) h499 m500)))))))))))))))))))/\((Wn h479 [.slice none 0 0,.slice none 0 0] 29 fun h501=>
 (Sm [⟨b482,o483+Int.toNat x_34*2,none⟩,(aS h304 0)] h479 h501 /\
 (Fn Pz 27 #[vS p0,vI (IntKind.wrap .i64 (1+(Int.tmod (IntKind.wrap .i64 p1) 4))),.agg ⟨[vS x480,vS x481]⟩,.agg ⟨[vI x484,vI x485]⟩] h501
 (fun v502 h506=>∃ (x503 x504:Sl) (x505:Int),v502=.tuple ⟨[.agg ⟨[vS x503,vS x504]⟩,vI x505]⟩ /\
 (Wp h506 (aS h479 0) 2 [vS x503,vS x504] fun h507=>
 (sB (x421 != 0)
 (R (.bool false) h507)
 ((sB (x477 != 0)
 (R (.bool false) h507)
 ((sB (x505 != 0)
 (R (.bool false) h507)
 ((∃ (x508 x509:Sl),atC h507 (aS h423 0) [vS x508,vS x509] /\
 (∃ (x510 x511:Sl),atC h507 (aS h479 0) [vS x510,vS x511] /\
 (Fn Pz 32 #[.agg ⟨[vS x508,vS x509]⟩,.agg ⟨[vS x510,vS x511]⟩] h507
 (fun v512 h514=>∃ x513,iB v512 x513 /\
 (sB (!x513)
 (R (.bool false) h514)
 ((∃ m515,m515<m302/\I300 (IntKind.wrap .i64 (x_303+1)) h514 m515))))))))))))))))))))))))))))))))))))))))))))))))))))
 ((∃ m516,m516<m33/\I31 (IntKind.wrap .i64 (x_34+1)) h304 m516))))))))))))))))))))))))))))))))/\((Wn h35 [.slice none 0 0,.slice none 0 0] 29 fun h517=>
 (Sm [⟨b38,o39+Int.toNat x_34*2,none⟩,(aS h22 0)] h35 h517 /\
 (Fn Pz 27 #[vS p0,vI (IntKind.wrap .i64 (1+(Int.tmod (IntKind.wrap .i64 p1) 4))),.agg ⟨[vS x36,vS x37]⟩,.agg ⟨[vI x40,vI x41]⟩] h517
 (fun v518 h522=>∃ (x519 x520:Sl) (x521:Int),v518=.tuple ⟨[.agg ⟨[vS x519,vS x520]⟩,vI x521]⟩ /\
 (Wp h522 (aS h35 0) 2 [vS x519,vS x520] fun h523=>
 (∃ (x524 x525:Sl),atC h523 (aS h22 0) [vS x524,vS x525] /\
 (NB x28.a fun b526 o527=>(Ib x_34 x28.n /\
 (∃ (x528 x529:Int),atC h523 ⟨b526,o527+Int.toNat x_34*2,none⟩ [vI x528,vI x529] /\
 ((Fn Pz 27 #[vS p0,vI (imin (IntKind.wrap .i64 ((IntKind.wrap .i64 (1+(Int.tmod (IntKind.wrap .i64 p1) 4)))+1)) 4),.agg ⟨[vS x524,vS x525]⟩,.agg ⟨[vI x528,vI x529]⟩] h523
 (fun v530 h534=>∃ (x531 x532:Sl) (x533:Int),v530=.tuple ⟨[.agg ⟨[vS x531,vS x532]⟩,vI x533]⟩ /\
 (Wn h534 [.slice none 0 0,.slice none 0 0] 29 fun h535=>
 (Sm [⟨b526,o527+Int.toNat x_34*2,none⟩,(aS h22 0)] h534 h535 /\
 (Wp h535 (aS h534 0) 2 [vS x531,vS x532] fun h536=>
 (sB (x521 != 0)
 (R (.bool false) h536)
 ((sB (x533 != 0)
 (R (.bool false) h536)
 ((∃ (x537 x538:Sl),atC h536 (aS h35 0) [vS x537,vS x538] /\
 (∃ (x539 x540:Sl),atC h536 (aS h534 0) [vS x539,vS x540] /\
 (Fn Pz 32 #[.agg ⟨[vS x537,vS x538]⟩,.agg ⟨[vS x539,vS x540]⟩] h536
 (fun v541 h543=>∃ x542,iB v541 x542 /\
 (sB (!x542)
 (R (.bool false) h543)
 ((((0:Int)<=(0:Int)/\(0:Int)<=(x_34:Int)/\(x_34:Int)<=(x28.c:Nat)) /\
 (QI 0 h543 fun I544 x_547 h548 m546=>(
 (sB (decide (x_547<(((Int.toNat x_34 - Int.toNat 0):Nat):Int)))
 ((NB x28.a fun b549 o550=>(Ib x_34 x28.n /\
 (∃ x551,rI h548 ⟨b549,o550+Int.toNat x_34*2,none⟩ x551 /\
 (NB x28.a fun b552 o553=>(Ib x_547 x28.n /\
 (∃ x554,rI h548 ⟨b552,o553+Int.toNat x_547*2,none⟩ x554 /\
 (sB (x551 == x554)
 ((∃ m555,m555<m546/\I544 (IntKind.wrap .i64 (x_547+1)) h548 m555))
 ((∃ (x556 x557:Sl),atC h548 (aS h22 0) [vS x556,vS x557] /\
 (NB x28.a fun b558 o559=>(Ib x_547 x28.n /\
 (∃ (x560 x561:Int),atC h548 ⟨b558,o559+Int.toNat x_547*2,none⟩ [vI x560,vI x561] /\
 ((Fn Pz 27 #[vS p0,vI (IntKind.wrap .i64 (1+(Int.tmod (IntKind.wrap .i64 p1) 4))),.agg ⟨[vS x556,vS x557]⟩,.agg ⟨[vI x560,vI x561]⟩] h548
 (fun v562 h566=>∃ (x563 x564:Sl) (x565:Int),v562=.tuple ⟨[.agg ⟨[vS x563,vS x564]⟩,vI x565]⟩ /\
 (Wn h566 [.slice none 0 0,.slice none 0 0] 29 fun h567=>
 (Sm [⟨b558,o559+Int.toNat x_547*2,none⟩,(aS h22 0)] h566 h567 /\
 (Wp h567 (aS h566 0) 2 [vS x563,vS x564] fun h568=>
 (∃ (x569 x570:Sl),atC h568 (aS h35 0) [vS x569,vS x570] /\
 (NB x28.a fun b571 o572=>(Ib x_547 x28.n /\
 (∃ (x573 x574:Int),atC h568 ⟨b571,o572+Int.toNat x_547*2,none⟩ [vI x573,vI x574] /\
 ((Fn Pz 27 #[vS p0,vI (IntKind.wrap .i64 (1+(Int.tmod (IntKind.wrap .i64 p1) 4))),.agg ⟨[vS x569,vS x570]⟩,.agg ⟨[vI x573,vI x574]⟩] h568
 (fun v575 h579=>∃ (x576 x577:Sl) (x578:Int),v575=.tuple ⟨[.agg ⟨[vS x576,vS x577]⟩,vI x578]⟩ /\
 (Wn h579 [.slice none 0 0,.slice none 0 0] 29 fun h580=>
 (Sm [⟨b571,o572+Int.toNat x_547*2,none⟩,(aS h35 0)] h579 h580 /\
 (Wp h580 (aS h579 0) 2 [vS x576,vS x577] fun h581=>
 (∃ (x582 x583:Sl),atC h581 (aS h566 0) [vS x582,vS x583] /\
 (NB x28.a fun b584 o585=>(Ib x_34 x28.n /\
 (∃ (x586 x587:Int),atC h581 ⟨b584,o585+Int.toNat x_34*2,none⟩ [vI x586,vI x587] /\
 ((Fn Pz 27 #[vS p0,vI (IntKind.wrap .i64 (1+(Int.tmod (IntKind.wrap .i64 p1) 4))),.agg ⟨[vS x582,vS x583]⟩,.agg ⟨[vI x586,vI x587]⟩] h581
 (fun v588 h592=>∃ (x589 x590:Sl) (x591:Int),v588=.tuple ⟨[.agg ⟨[vS x589,vS x590]⟩,vI x591]⟩ /\
 (Wn h592 [.slice none 0 0,.slice none 0 0] 29 fun h593=>
 (Sm [⟨b584,o585+Int.toNat x_34*2,none⟩,(aS h566 0)] h592 h593 /\
 (Wp h593 (aS h592 0) 2 [vS x589,vS x590] fun h594=>
 (sB (x565 != 0)
 (R (.bool false) h594)
 ((sB (x578 != 0)
 (R (.bool false) h594)
 ((sB (x591 != 0)
 (R (.bool false) h594)
 ((∃ (x595 x596:Sl),atC h594 (aS h579 0) [vS x595,vS x596] /\
 (∃ (x597 x598:Sl),atC h594 (aS h592 0) [vS x597,vS x598] /\
 (Fn Pz 32 #[.agg ⟨[vS x595,vS x596]⟩,.agg ⟨[vS x597,vS x598]⟩] h594
 (fun v599 h601=>∃ x600,iB v599 x600 /\
 (sB (!x600)
 (R (.bool false) h601)
 ((∃ m602,m602<m546/\I544 (IntKind.wrap .i64 (x_547+1)) h601 m602)))))))))))))))))))/\((Wn h581 [.slice none 0 0,.slice none 0 0] 29 fun h603=>
 (Sm [⟨b584,o585+Int.toNat x_34*2,none⟩,(aS h566 0)] h581 h603 /\
 (Fn Pz 27 #[vS p0,vI (IntKind.wrap .i64 (1+(Int.tmod (IntKind.wrap .i64 p1) 4))),.agg ⟨[vS x582,vS x583]⟩,.agg ⟨[vI x586,vI x587]⟩] h603
 (fun v604 h608=>∃ (x605 x606:Sl) (x607:Int),v604=.tuple ⟨[.agg ⟨[vS x605,vS x606]⟩,vI x607]⟩ /\
 (Wp h608 (aS h581 0) 2 [vS x605,vS x606] fun h609=>
 (sB (x565 != 0)
 (R (.bool false) h609)
 ((sB (x578 != 0)
 (R (.bool false) h609)
 ((sB (x607 != 0)
 (R (.bool false) h609)
 ((∃ (x610 x611:Sl),atC h609 (aS h579 0) [vS x610,vS x611] /\
 (∃ (x612 x613:Sl),atC h609 (aS h581 0) [vS x612,vS x613] /\
 (Fn Pz 32 #[.agg ⟨[vS x610,vS x611]⟩,.agg ⟨[vS x612,vS x613]⟩] h609
 (fun v614 h616=>∃ x615,iB v614 x615 /\
 (sB (!x615)
 (R (.bool false) h616)
 ((∃ m617,m617<m546/\I544 (IntKind.wrap .i64 (x_547+1)) h616 m617)))))))))))))))))))))))))))))/\((Wn h568 [.slice none 0 0,.slice none 0 0] 29 fun h618=>
 (Sm [⟨b571,o572+Int.toNat x_547*2,none⟩,(aS h35 0)] h568 h618 /\
 (Fn Pz 27 #[vS p0,vI (IntKind.wrap .i64 (1+(Int.tmod (IntKind.wrap .i64 p1) 4))),.agg ⟨[vS x569,vS x570]⟩,.agg ⟨[vI x573,vI x574]⟩] h618
 (fun v619 h623=>∃ (x620 x621:Sl) (x622:Int),v619=.tuple ⟨[.agg ⟨[vS x620,vS x621]⟩,vI x622]⟩ /\
 (Wp h623 (aS h568 0) 2 [vS x620,vS x621] fun h624=>
 (∃ (x625 x626:Sl),atC h624 (aS h566 0) [vS x625,vS x626] /\
 (NB x28.a fun b627 o628=>(Ib x_34 x28.n /\
 (∃ (x629 x630:Int),atC h624 ⟨b627,o628+Int.toNat x_34*2,none⟩ [vI x629,vI x630] /\
 ((Fn Pz 27 #[vS p0,vI (IntKind.wrap .i64 (1+(Int.tmod (IntKind.wrap .i64 p1) 4))),.agg ⟨[vS x625,vS x626]⟩,.agg ⟨[vI x629,vI x630]⟩] h624
 (fun v631 h635=>∃ (x632 x633:Sl) (x634:Int),v631=.tuple ⟨[.agg ⟨[vS x632,vS x633]⟩,vI x634]⟩ /\
 (Wn h635 [.slice none 0 0,.slice none 0 0] 29 fun h636=>
 (Sm [⟨b627,o628+Int.toNat x_34*2,none⟩,(aS h566 0)] h635 h636 /\
 (Wp h636 (aS h635 0) 2 [vS x632,vS x633] fun h637=>
 (sB (x565 != 0)
 (R (.bool false) h637)
 ((sB (x622 != 0)
 (R (.bool false) h637)
 ((sB (x634 != 0)
 (R (.bool false) h637)
 ((∃ (x638 x639:Sl),atC h637 (aS h568 0) [vS x638,vS x639] /\
 (∃ (x640 x641:Sl),atC h637 (aS h635 0) [vS x640,vS x641] /\
 (Fn Pz 32 #[.agg ⟨[vS x638,vS x639]⟩,.agg ⟨[vS x640,vS x641]⟩] h637
 (fun v642 h644=>∃ x643,iB v642 x643 /\
 (sB (!x643)
 (R (.bool false) h644)
 ((∃ m645,m645<m546/\I544 (IntKind.wrap .i64 (x_547+1)) h644 m645)))))))))))))))))))/\((Wn h624 [.slice none 0 0,.slice none 0 0] 29 fun h646=>
 (Sm [⟨b627,o628+Int.toNat x_34*2,none⟩,(aS h566 0)] h624 h646 /\
 (Fn Pz 27 #[vS p0,vI (IntKind.wrap .i64 (1+(Int.tmod (IntKind.wrap .i64 p1) 4))),.agg ⟨[vS x625,vS x626]⟩,.agg ⟨[vI x629,vI x630]⟩] h646
 (fun v647 h651=>∃ (x648 x649:Sl) (x650:Int),v647=.tuple ⟨[.agg ⟨[vS x648,vS x649]⟩,vI x650]⟩ /\
 (Wp h651 (aS h624 0) 2 [vS x648,vS x649] fun h652=>
 (sB (x565 != 0)
 (R (.bool false) h652)
 ((sB (x622 != 0)
 (R (.bool false) h652)
 ((sB (x650 != 0)
 (R (.bool false) h652)
 ((∃ (x653 x654:Sl),atC h652 (aS h568 0) [vS x653,vS x654] /\
 (∃ (x655 x656:Sl),atC h652 (aS h624 0) [vS x655,vS x656] /\
 (Fn Pz 32 #[.agg ⟨[vS x653,vS x654]⟩,.agg ⟨[vS x655,vS x656]⟩] h652
 (fun v657 h659=>∃ x658,iB v657 x658 /\
 (sB (!x658)
 (R (.bool false) h659)
 ((∃ m660,m660<m546/\I544 (IntKind.wrap .i64 (x_547+1)) h659 m660)))))))))))))))))))))))))))))))))))))))/\((Wn h548 [.slice none 0 0,.slice none 0 0] 29 fun h661=>
 (Sm [⟨b558,o559+Int.toNat x_547*2,none⟩,(aS h22 0)] h548 h661 /\
 (Fn Pz 27 #[vS p0,vI (IntKind.wrap .i64 (1+(Int.tmod (IntKind.wrap .i64 p1) 4))),.agg ⟨[vS x556,vS x557]⟩,.agg ⟨[vI x560,vI x561]⟩] h661
 (fun v662 h666=>∃ (x663 x664:Sl) (x665:Int),v662=.tuple ⟨[.agg ⟨[vS x663,vS x664]⟩,vI x665]⟩ /\
 (Wp h666 (aS h548 0) 2 [vS x663,vS x664] fun h667=>
 (∃ (x668 x669:Sl),atC h667 (aS h35 0) [vS x668,vS x669] /\
 (NB x28.a fun b670 o671=>(Ib x_547 x28.n /\
 (∃ (x672 x673:Int),atC h667 ⟨b670,o671+Int.toNat x_547*2,none⟩ [vI x672,vI x673] /\
 ((Fn Pz 27 #[vS p0,vI (IntKind.wrap .i64 (1+(Int.tmod (IntKind.wrap .i64 p1) 4))),.agg ⟨[vS x668,vS x669]⟩,.agg ⟨[vI x672,vI x673]⟩] h667
 (fun v674 h678=>∃ (x675 x676:Sl) (x677:Int),v674=.tuple ⟨[.agg ⟨[vS x675,vS x676]⟩,vI x677]⟩ /\
 (Wn h678 [.slice none 0 0,.slice none 0 0] 29 fun h679=>
 (Sm [⟨b670,o671+Int.toNat x_547*2,none⟩,(aS h35 0)] h678 h679 /\
 (Wp h679 (aS h678 0) 2 [vS x675,vS x676] fun h680=>
 (∃ (x681 x682:Sl),atC h680 (aS h548 0) [vS x681,vS x682] /\
 (NB x28.a fun b683 o684=>(Ib x_34 x28.n /\
 (∃ (x685 x686:Int),atC h680 ⟨b683,o684+Int.toNat x_34*2,none⟩ [vI x685,vI x686] /\
 ((Fn Pz 27 #[vS p0,vI (IntKind.wrap .i64 (1+(Int.tmod (IntKind.wrap .i64 p1) 4))),.agg ⟨[vS x681,vS x682]⟩,.agg ⟨[vI x685,vI x686]⟩] h680
 (fun v687 h691=>∃ (x688 x689:Sl) (x690:Int),v687=.tuple ⟨[.agg ⟨[vS x688,vS x689]⟩,vI x690]⟩ /\
 (Wn h691 [.slice none 0 0,.slice none 0 0] 29 fun h692=>
 (Sm [⟨b683,o684+Int.toNat x_34*2,none⟩,(aS h548 0)] h691 h692 /\
 (Wp h692 (aS h691 0) 2 [vS x688,vS x689] fun h693=>
 (sB (x665 != 0)
 (R (.bool false) h693)
 ((sB (x677 != 0)
 (R (.bool false) h693)
 ((sB (x690 != 0)
 (R (.bool false) h693)
 ((∃ (x694 x695:Sl),atC h693 (aS h678 0) [vS x694,vS x695] /\
 (∃ (x696 x697:Sl),atC h693 (aS h691 0) [vS x696,vS x697] /\
 (Fn Pz 32 #[.agg ⟨[vS x694,vS x695]⟩,.agg ⟨[vS x696,vS x697]⟩] h693
 (fun v698 h700=>∃ x699,iB v698 x699 /\
 (sB (!x699)
 (R (.bool false) h700)
 ((∃ m701,m701<m546/\I544 (IntKind.wrap .i64 (x_547+1)) h700 m701)))))))))))))))))))/\((Wn h680 [.slice none 0 0,.slice none 0 0] 29 fun h702=>
 (Sm [⟨b683,o684+Int.toNat x_34*2,none⟩,(aS h548 0)] h680 h702 /\
 (Fn Pz 27 #[vS p0,vI (IntKind.wrap .i64 (1+(Int.tmod (IntKind.wrap .i64 p1) 4))),.agg ⟨[vS x681,vS x682]⟩,.agg ⟨[vI x685,vI x686]⟩] h702
 (fun v703 h707=>∃ (x704 x705:Sl) (x706:Int),v703=.tuple ⟨[.agg ⟨[vS x704,vS x705]⟩,vI x706]⟩ /\
 (Wp h707 (aS h680 0) 2 [vS x704,vS x705] fun h708=>
 (sB (x665 != 0)
 (R (.bool false) h708)
 ((sB (x677 != 0)
 (R (.bool false) h708)
 ((sB (x706 != 0)
 (R (.bool false) h708)
 ((∃ (x709 x710:Sl),atC h708 (aS h678 0) [vS x709,vS x710] /\
 (∃ (x711 x712:Sl),atC h708 (aS h680 0) [vS x711,vS x712] /\
 (Fn Pz 32 #[.agg ⟨[vS x709,vS x710]⟩,.agg ⟨[vS x711,vS x712]⟩] h708
 (fun v713 h715=>∃ x714,iB v713 x714 /\
 (sB (!x714)
 (R (.bool false) h715)
 ((∃ m716,m716<m546/\I544 (IntKind.wrap .i64 (x_547+1)) h715 m716)))))))))))))))))))))))))))))/\((Wn h667 [.slice none 0 0,.slice none 0 0] 29 fun h717=>
 (Sm [⟨b670,o671+Int.toNat x_547*2,none⟩,(aS h35 0)] h667 h717 /\
 (Fn Pz 27 #[vS p0,vI (IntKind.wrap .i64 (1+(Int.tmod (IntKind.wrap .i64 p1) 4))),.agg ⟨[vS x668,vS x669]⟩,.agg ⟨[vI x672,vI x673]⟩] h717
 (fun v718 h722=>∃ (x719 x720:Sl) (x721:Int),v718=.tuple ⟨[.agg ⟨[vS x719,vS x720]⟩,vI x721]⟩ /\
 (Wp h722 (aS h667 0) 2 [vS x719,vS x720] fun h723=>
 (∃ (x724 x725:Sl),atC h723 (aS h548 0) [vS x724,vS x725] /\
 (NB x28.a fun b726 o727=>(Ib x_34 x28.n /\
 (∃ (x728 x729:Int),atC h723 ⟨b726,o727+Int.toNat x_34*2,none⟩ [vI x728,vI x729] /\
 ((Fn Pz 27 #[vS p0,vI (IntKind.wrap .i64 (1+(Int.tmod (IntKind.wrap .i64 p1) 4))),.agg ⟨[vS x724,vS x725]⟩,.agg ⟨[vI x728,vI x729]⟩] h723
 (fun v730 h734=>∃ (x731 x732:Sl) (x733:Int),v730=.tuple ⟨[.agg ⟨[vS x731,vS x732]⟩,vI x733]⟩ /\
 (Wn h734 [.slice none 0 0,.slice none 0 0] 29 fun h735=>
 (Sm [⟨b726,o727+Int.toNat x_34*2,none⟩,(aS h548 0)] h734 h735 /\
 (Wp h735 (aS h734 0) 2 [vS x731,vS x732] fun h736=>
 (sB (x665 != 0)
 (R (.bool false) h736)
 ((sB (x721 != 0)
 (R (.bool false) h736)
 ((sB (x733 != 0)
 (R (.bool false) h736)
 ((∃ (x737 x738:Sl),atC h736 (aS h667 0) [vS x737,vS x738] /\
 (∃ (x739 x740:Sl),atC h736 (aS h734 0) [vS x739,vS x740] /\
 (Fn Pz 32 #[.agg ⟨[vS x737,vS x738]⟩,.agg ⟨[vS x739,vS x740]⟩] h736
 (fun v741 h743=>∃ x742,iB v741 x742 /\
 (sB (!x742)
 (R (.bool false) h743)
 ((∃ m744,m744<m546/\I544 (IntKind.wrap .i64 (x_547+1)) h743 m744)))))))))))))))))))/\((Wn h723 [.slice none 0 0,.slice none 0 0] 29 fun h745=>
 (Sm [⟨b726,o727+Int.toNat x_34*2,none⟩,(aS h548 0)] h723 h745 /\
 (Fn Pz 27 #[vS p0,vI (IntKind.wrap .i64 (1+(Int.tmod (IntKind.wrap .i64 p1) 4))),.agg ⟨[vS x724,vS x725]⟩,.agg ⟨[vI x728,vI x729]⟩] h745
 (fun v746 h750=>∃ (x747 x748:Sl) (x749:Int),v746=.tuple ⟨[.agg ⟨[vS x747,vS x748]⟩,vI x749]⟩ /\
 (Wp h750 (aS h723 0) 2 [vS x747,vS x748] fun h751=>
 (sB (x665 != 0)
 (R (.bool false) h751)
 ((sB (x721 != 0)
 (R (.bool false) h751)
 ((sB (x749 != 0)
 (R (.bool false) h751)
 ((∃ (x752 x753:Sl),atC h751 (aS h667 0) [vS x752,vS x753] /\
 (∃ (x754 x755:Sl),atC h751 (aS h723 0) [vS x754,vS x755] /\
 (Fn Pz 32 #[.agg ⟨[vS x752,vS x753]⟩,.agg ⟨[vS x754,vS x755]⟩] h751
 (fun v756 h758=>∃ x757,iB v756 x757 /\
 (sB (!x757)
 (R (.bool false) h758)
 ((∃ m759,m759<m546/\I544 (IntKind.wrap .i64 (x_547+1)) h758 m759))))))))))))))))))))))))))))))))))))))))))))))))))))
 ((∃ m760,m760<m33/\I31 (IntKind.wrap .i64 (x_34+1)) h548 m760))))))))))))))))))))))/\((Wn h523 [.slice none 0 0,.slice none 0 0] 29 fun h761=>
 (Sm [⟨b526,o527+Int.toNat x_34*2,none⟩,(aS h22 0)] h523 h761 /\
 (Fn Pz 27 #[vS p0,vI (imin (IntKind.wrap .i64 ((IntKind.wrap .i64 (1+(Int.tmod (IntKind.wrap .i64 p1) 4)))+1)) 4),.agg ⟨[vS x524,vS x525]⟩,.agg ⟨[vI x528,vI x529]⟩] h761
 (fun v762 h766=>∃ (x763 x764:Sl) (x765:Int),v762=.tuple ⟨[.agg ⟨[vS x763,vS x764]⟩,vI x765]⟩ /\
 (Wp h766 (aS h523 0) 2 [vS x763,vS x764] fun h767=>
 (sB (x521 != 0)
 (R (.bool false) h767)
 ((sB (x765 != 0)
 (R (.bool false) h767)
 ((∃ (x768 x769:Sl),atC h767 (aS h35 0) [vS x768,vS x769] /\
 (∃ (x770 x771:Sl),atC h767 (aS h523 0) [vS x770,vS x771] /\
 (Fn Pz 32 #[.agg ⟨[vS x768,vS x769]⟩,.agg ⟨[vS x770,vS x771]⟩] h767
 (fun v772 h774=>∃ x773,iB v772 x773 /\
 (sB (!x773)
 (R (.bool false) h774)
 ((((0:Int)<=(0:Int)/\(0:Int)<=(x_34:Int)/\(x_34:Int)<=(x28.c:Nat)) /\
 (QI 0 h774 fun I775 x_778 h779 m777=>(
 (sB (decide (x_778<(((Int.toNat x_34 - Int.toNat 0):Nat):Int)))
 ((NB x28.a fun b780 o781=>(Ib x_34 x28.n /\
 (∃ x782,rI h779 ⟨b780,o781+Int.toNat x_34*2,none⟩ x782 /\
 (NB x28.a fun b783 o784=>(Ib x_778 x28.n /\
 (∃ x785,rI h779 ⟨b783,o784+Int.toNat x_778*2,none⟩ x785 /\
 (sB (x782 == x785)
 ((∃ m786,m786<m777/\I775 (IntKind.wrap .i64 (x_778+1)) h779 m786))
 ((∃ (x787 x788:Sl),atC h779 (aS h22 0) [vS x787,vS x788] /\
 (NB x28.a fun b789 o790=>(Ib x_778 x28.n /\
 (∃ (x791 x792:Int),atC h779 ⟨b789,o790+Int.toNat x_778*2,none⟩ [vI x791,vI x792] /\
 ((Fn Pz 27 #[vS p0,vI (IntKind.wrap .i64 (1+(Int.tmod (IntKind.wrap .i64 p1) 4))),.agg ⟨[vS x787,vS x788]⟩,.agg ⟨[vI x791,vI x792]⟩] h779
 (fun v793 h797=>∃ (x794 x795:Sl) (x796:Int),v793=.tuple ⟨[.agg ⟨[vS x794,vS x795]⟩,vI x796]⟩ /\
 (Wn h797 [.slice none 0 0,.slice none 0 0] 29 fun h798=>
 (Sm [⟨b789,o790+Int.toNat x_778*2,none⟩,(aS h22 0)] h797 h798 /\
 (Wp h798 (aS h797 0) 2 [vS x794,vS x795] fun h799=>
 (∃ (x800 x801:Sl),atC h799 (aS h35 0) [vS x800,vS x801] /\
 (NB x28.a fun b802 o803=>(Ib x_778 x28.n /\
 (∃ (x804 x805:Int),atC h799 ⟨b802,o803+Int.toNat x_778*2,none⟩ [vI x804,vI x805] /\
 ((Fn Pz 27 #[vS p0,vI (IntKind.wrap .i64 (1+(Int.tmod (IntKind.wrap .i64 p1) 4))),.agg ⟨[vS x800,vS x801]⟩,.agg ⟨[vI x804,vI x805]⟩] h799
 (fun v806 h810=>∃ (x807 x808:Sl) (x809:Int),v806=.tuple ⟨[.agg ⟨[vS x807,vS x808]⟩,vI x809]⟩ /\
 (Wn h810 [.slice none 0 0,.slice none 0 0] 29 fun h811=>
 (Sm [⟨b802,o803+Int.toNat x_778*2,none⟩,(aS h35 0)] h810 h811 /\
 (Wp h811 (aS h810 0) 2 [vS x807,vS x808] fun h812=>
 (∃ (x813 x814:Sl),atC h812 (aS h797 0) [vS x813,vS x814] /\
 (NB x28.a fun b815 o816=>(Ib x_34 x28.n /\
 (∃ (x817 x818:Int),atC h812 ⟨b815,o816+Int.toNat x_34*2,none⟩ [vI x817,vI x818] /\
 ((Fn Pz 27 #[vS p0,vI (IntKind.wrap .i64 (1+(Int.tmod (IntKind.wrap .i64 p1) 4))),.agg ⟨[vS x813,vS x814]⟩,.agg ⟨[vI x817,vI x818]⟩] h812
 (fun v819 h823=>∃ (x820 x821:Sl) (x822:Int),v819=.tuple ⟨[.agg ⟨[vS x820,vS x821]⟩,vI x822]⟩ /\
 (Wn h823 [.slice none 0 0,.slice none 0 0] 29 fun h824=>
 (Sm [⟨b815,o816+Int.toNat x_34*2,none⟩,(aS h797 0)] h823 h824 /\
 (Wp h824 (aS h823 0) 2 [vS x820,vS x821] fun h825=>
 (sB (x796 != 0)
 (R (.bool false) h825)
 ((sB (x809 != 0)
 (R (.bool false) h825)
 ((sB (x822 != 0)
 (R (.bool false) h825)
 ((∃ (x826 x827:Sl),atC h825 (aS h810 0) [vS x826,vS x827] /\
 (∃ (x828 x829:Sl),atC h825 (aS h823 0) [vS x828,vS x829] /\
 (Fn Pz 32 #[.agg ⟨[vS x826,vS x827]⟩,.agg ⟨[vS x828,vS x829]⟩] h825
 (fun v830 h832=>∃ x831,iB v830 x831 /\
 (sB (!x831)
 (R (.bool false) h832)
 ((∃ m833,m833<m777/\I775 (IntKind.wrap .i64 (x_778+1)) h832 m833)))))))))))))))))))/\((Wn h812 [.slice none 0 0,.slice none 0 0] 29 fun h834=>
 (Sm [⟨b815,o816+Int.toNat x_34*2,none⟩,(aS h797 0)] h812 h834 /\
 (Fn Pz 27 #[vS p0,vI (IntKind.wrap .i64 (1+(Int.tmod (IntKind.wrap .i64 p1) 4))),.agg ⟨[vS x813,vS x814]⟩,.agg ⟨[vI x817,vI x818]⟩] h834
 (fun v835 h839=>∃ (x836 x837:Sl) (x838:Int),v835=.tuple ⟨[.agg ⟨[vS x836,vS x837]⟩,vI x838]⟩ /\
 (Wp h839 (aS h812 0) 2 [vS x836,vS x837] fun h840=>
 (sB (x796 != 0)
 (R (.bool false) h840)
 ((sB (x809 != 0)
 (R (.bool false) h840)
 ((sB (x838 != 0)
 (R (.bool false) h840)
 ((∃ (x841 x842:Sl),atC h840 (aS h810 0) [vS x841,vS x842] /\
 (∃ (x843 x844:Sl),atC h840 (aS h812 0) [vS x843,vS x844] /\
 (Fn Pz 32 #[.agg ⟨[vS x841,vS x842]⟩,.agg ⟨[vS x843,vS x844]⟩] h840
 (fun v845 h847=>∃ x846,iB v845 x846 /\
 (sB (!x846)
 (R (.bool false) h847)
 ((∃ m848,m848<m777/\I775 (IntKind.wrap .i64 (x_778+1)) h847 m848)))))))))))))))))))))))))))))/\((Wn h799 [.slice none 0 0,.slice none 0 0] 29 fun h849=>
 (Sm [⟨b802,o803+Int.toNat x_778*2,none⟩,(aS h35 0)] h799 h849 /\
 (Fn Pz 27 #[vS p0,vI (IntKind.wrap .i64 (1+(Int.tmod (IntKind.wrap .i64 p1) 4))),.agg ⟨[vS x800,vS x801]⟩,.agg ⟨[vI x804,vI x805]⟩] h849
 (fun v850 h854=>∃ (x851 x852:Sl) (x853:Int),v850=.tuple ⟨[.agg ⟨[vS x851,vS x852]⟩,vI x853]⟩ /\
 (Wp h854 (aS h799 0) 2 [vS x851,vS x852] fun h855=>
 (∃ (x856 x857:Sl),atC h855 (aS h797 0) [vS x856,vS x857] /\
 (NB x28.a fun b858 o859=>(Ib x_34 x28.n /\
 (∃ (x860 x861:Int),atC h855 ⟨b858,o859+Int.toNat x_34*2,none⟩ [vI x860,vI x861] /\
 ((Fn Pz 27 #[vS p0,vI (IntKind.wrap .i64 (1+(Int.tmod (IntKind.wrap .i64 p1) 4))),.agg ⟨[vS x856,vS x857]⟩,.agg ⟨[vI x860,vI x861]⟩] h855
 (fun v862 h866=>∃ (x863 x864:Sl) (x865:Int),v862=.tuple ⟨[.agg ⟨[vS x863,vS x864]⟩,vI x865]⟩ /\
 (Wn h866 [.slice none 0 0,.slice none 0 0] 29 fun h867=>
 (Sm [⟨b858,o859+Int.toNat x_34*2,none⟩,(aS h797 0)] h866 h867 /\
 (Wp h867 (aS h866 0) 2 [vS x863,vS x864] fun h868=>
 (sB (x796 != 0)
 (R (.bool false) h868)
 ((sB (x853 != 0)
 (R (.bool false) h868)
 ((sB (x865 != 0)
 (R (.bool false) h868)
 ((∃ (x869 x870:Sl),atC h868 (aS h799 0) [vS x869,vS x870] /\
 (∃ (x871 x872:Sl),atC h868 (aS h866 0) [vS x871,vS x872] /\
 (Fn Pz 32 #[.agg ⟨[vS x869,vS x870]⟩,.agg ⟨[vS x871,vS x872]⟩] h868
 (fun v873 h875=>∃ x874,iB v873 x874 /\
 (sB (!x874)
 (R (.bool false) h875)
 ((∃ m876,m876<m777/\I775 (IntKind.wrap .i64 (x_778+1)) h875 m876)))))))))))))))))))/\((Wn h855 [.slice none 0 0,.slice none 0 0] 29 fun h877=>
 (Sm [⟨b858,o859+Int.toNat x_34*2,none⟩,(aS h797 0)] h855 h877 /\
 (Fn Pz 27 #[vS p0,vI (IntKind.wrap .i64 (1+(Int.tmod (IntKind.wrap .i64 p1) 4))),.agg ⟨[vS x856,vS x857]⟩,.agg ⟨[vI x860,vI x861]⟩] h877
 (fun v878 h882=>∃ (x879 x880:Sl) (x881:Int),v878=.tuple ⟨[.agg ⟨[vS x879,vS x880]⟩,vI x881]⟩ /\
 (Wp h882 (aS h855 0) 2 [vS x879,vS x880] fun h883=>
 (sB (x796 != 0)
 (R (.bool false) h883)
 ((sB (x853 != 0)
 (R (.bool false) h883)
 ((sB (x881 != 0)
 (R (.bool false) h883)
 ((∃ (x884 x885:Sl),atC h883 (aS h799 0) [vS x884,vS x885] /\
 (∃ (x886 x887:Sl),atC h883 (aS h855 0) [vS x886,vS x887] /\
 (Fn Pz 32 #[.agg ⟨[vS x884,vS x885]⟩,.agg ⟨[vS x886,vS x887]⟩] h883
 (fun v888 h890=>∃ x889,iB v888 x889 /\
 (sB (!x889)
 (R (.bool false) h890)
 ((∃ m891,m891<m777/\I775 (IntKind.wrap .i64 (x_778+1)) h890 m891)))))))))))))))))))))))))))))))))))))))/\((Wn h779 [.slice none 0 0,.slice none 0 0] 29 fun h892=>
 (Sm [⟨b789,o790+Int.toNat x_778*2,none⟩,(aS h22 0)] h779 h892 /\
 (Fn Pz 27 #[vS p0,vI (IntKind.wrap .i64 (1+(Int.tmod (IntKind.wrap .i64 p1) 4))),.agg ⟨[vS x787,vS x788]⟩,.agg ⟨[vI x791,vI x792]⟩] h892
 (fun v893 h897=>∃ (x894 x895:Sl) (x896:Int),v893=.tuple ⟨[.agg ⟨[vS x894,vS x895]⟩,vI x896]⟩ /\
 (Wp h897 (aS h779 0) 2 [vS x894,vS x895] fun h898=>
 (∃ (x899 x900:Sl),atC h898 (aS h35 0) [vS x899,vS x900] /\
 (NB x28.a fun b901 o902=>(Ib x_778 x28.n /\
 (∃ (x903 x904:Int),atC h898 ⟨b901,o902+Int.toNat x_778*2,none⟩ [vI x903,vI x904] /\
 ((Fn Pz 27 #[vS p0,vI (IntKind.wrap .i64 (1+(Int.tmod (IntKind.wrap .i64 p1) 4))),.agg ⟨[vS x899,vS x900]⟩,.agg ⟨[vI x903,vI x904]⟩] h898
 (fun v905 h909=>∃ (x906 x907:Sl) (x908:Int),v905=.tuple ⟨[.agg ⟨[vS x906,vS x907]⟩,vI x908]⟩ /\
 (Wn h909 [.slice none 0 0,.slice none 0 0] 29 fun h910=>
 (Sm [⟨b901,o902+Int.toNat x_778*2,none⟩,(aS h35 0)] h909 h910 /\
 (Wp h910 (aS h909 0) 2 [vS x906,vS x907] fun h911=>
 (∃ (x912 x913:Sl),atC h911 (aS h779 0) [vS x912,vS x913] /\
 (NB x28.a fun b914 o915=>(Ib x_34 x28.n /\
 (∃ (x916 x917:Int),atC h911 ⟨b914,o915+Int.toNat x_34*2,none⟩ [vI x916,vI x917] /\
 ((Fn Pz 27 #[vS p0,vI (IntKind.wrap .i64 (1+(Int.tmod (IntKind.wrap .i64 p1) 4))),.agg ⟨[vS x912,vS x913]⟩,.agg ⟨[vI x916,vI x917]⟩] h911
 (fun v918 h922=>∃ (x919 x920:Sl) (x921:Int),v918=.tuple ⟨[.agg ⟨[vS x919,vS x920]⟩,vI x921]⟩ /\
 (Wn h922 [.slice none 0 0,.slice none 0 0] 29 fun h923=>
 (Sm [⟨b914,o915+Int.toNat x_34*2,none⟩,(aS h779 0)] h922 h923 /\
 (Wp h923 (aS h922 0) 2 [vS x919,vS x920] fun h924=>
 (sB (x896 != 0)
 (R (.bool false) h924)
 ((sB (x908 != 0)
 (R (.bool false) h924)
 ((sB (x921 != 0)
 (R (.bool false) h924)
 ((∃ (x925 x926:Sl),atC h924 (aS h909 0) [vS x925,vS x926] /\
 (∃ (x927 x928:Sl),atC h924 (aS h922 0) [vS x927,vS x928] /\
 (Fn Pz 32 #[.agg ⟨[vS x925,vS x926]⟩,.agg ⟨[vS x927,vS x928]⟩] h924
 (fun v929 h931=>∃ x930,iB v929 x930 /\
 (sB (!x930)
 (R (.bool false) h931)
 ((∃ m932,m932<m777/\I775 (IntKind.wrap .i64 (x_778+1)) h931 m932)))))))))))))))))))/\((Wn h911 [.slice none 0 0,.slice none 0 0] 29 fun h933=>
 (Sm [⟨b914,o915+Int.toNat x_34*2,none⟩,(aS h779 0)] h911 h933 /\
 (Fn Pz 27 #[vS p0,vI (IntKind.wrap .i64 (1+(Int.tmod (IntKind.wrap .i64 p1) 4))),.agg ⟨[vS x912,vS x913]⟩,.agg ⟨[vI x916,vI x917]⟩] h933
 (fun v934 h938=>∃ (x935 x936:Sl) (x937:Int),v934=.tuple ⟨[.agg ⟨[vS x935,vS x936]⟩,vI x937]⟩ /\
 (Wp h938 (aS h911 0) 2 [vS x935,vS x936] fun h939=>
 (sB (x896 != 0)
 (R (.bool false) h939)
 ((sB (x908 != 0)
 (R (.bool false) h939)
 ((sB (x937 != 0)
 (R (.bool false) h939)
 ((∃ (x940 x941:Sl),atC h939 (aS h909 0) [vS x940,vS x941] /\
 (∃ (x942 x943:Sl),atC h939 (aS h911 0) [vS x942,vS x943] /\
 (Fn Pz 32 #[.agg ⟨[vS x940,vS x941]⟩,.agg ⟨[vS x942,vS x943]⟩] h939
 (fun v944 h946=>∃ x945,iB v944 x945 /\
 (sB (!x945)
 (R (.bool false) h946)
 ((∃ m947,m947<m777/\I775 (IntKind.wrap .i64 (x_778+1)) h946 m947)))))))))))))))))))))))))))))/\((Wn h898 [.slice none 0 0,.slice none 0 0] 29 fun h948=>
 (Sm [⟨b901,o902+Int.toNat x_778*2,none⟩,(aS h35 0)] h898 h948 /\
 (Fn Pz 27 #[vS p0,vI (IntKind.wrap .i64 (1+(Int.tmod (IntKind.wrap .i64 p1) 4))),.agg ⟨[vS x899,vS x900]⟩,.agg ⟨[vI x903,vI x904]⟩] h948
 (fun v949 h953=>∃ (x950 x951:Sl) (x952:Int),v949=.tuple ⟨[.agg ⟨[vS x950,vS x951]⟩,vI x952]⟩ /\
 (Wp h953 (aS h898 0) 2 [vS x950,vS x951] fun h954=>
 (∃ (x955 x956:Sl),atC h954 (aS h779 0) [vS x955,vS x956] /\
 (NB x28.a fun b957 o958=>(Ib x_34 x28.n /\
 (∃ (x959 x960:Int),atC h954 ⟨b957,o958+Int.toNat x_34*2,none⟩ [vI x959,vI x960] /\
 ((Fn Pz 27 #[vS p0,vI (IntKind.wrap .i64 (1+(Int.tmod (IntKind.wrap .i64 p1) 4))),.agg ⟨[vS x955,vS x956]⟩,.agg ⟨[vI x959,vI x960]⟩] h954
 (fun v961 h965=>∃ (x962 x963:Sl) (x964:Int),v961=.tuple ⟨[.agg ⟨[vS x962,vS x963]⟩,vI x964]⟩ /\
 (Wn h965 [.slice none 0 0,.slice none 0 0] 29 fun h966=>
 (Sm [⟨b957,o958+Int.toNat x_34*2,none⟩,(aS h779 0)] h965 h966 /\
 (Wp h966 (aS h965 0) 2 [vS x962,vS x963] fun h967=>
 (sB (x896 != 0)
 (R (.bool false) h967)
 ((sB (x952 != 0)
 (R (.bool false) h967)
 ((sB (x964 != 0)
 (R (.bool false) h967)
 ((∃ (x968 x969:Sl),atC h967 (aS h898 0) [vS x968,vS x969] /\
 (∃ (x970 x971:Sl),atC h967 (aS h965 0) [vS x970,vS x971] /\
 (Fn Pz 32 #[.agg ⟨[vS x968,vS x969]⟩,.agg ⟨[vS x970,vS x971]⟩] h967
 (fun v972 h974=>∃ x973,iB v972 x973 /\
 (sB (!x973)
 (R (.bool false) h974)
 ((∃ m975,m975<m777/\I775 (IntKind.wrap .i64 (x_778+1)) h974 m975)))))))))))))))))))/\((Wn h954 [.slice none 0 0,.slice none 0 0] 29 fun h976=>
 (Sm [⟨b957,o958+Int.toNat x_34*2,none⟩,(aS h779 0)] h954 h976 /\
 (Fn Pz 27 #[vS p0,vI (IntKind.wrap .i64 (1+(Int.tmod (IntKind.wrap .i64 p1) 4))),.agg ⟨[vS x955,vS x956]⟩,.agg ⟨[vI x959,vI x960]⟩] h976
 (fun v977 h981=>∃ (x978 x979:Sl) (x980:Int),v977=.tuple ⟨[.agg ⟨[vS x978,vS x979]⟩,vI x980]⟩ /\
 (Wp h981 (aS h954 0) 2 [vS x978,vS x979] fun h982=>
 (sB (x896 != 0)
 (R (.bool false) h982)
 ((sB (x952 != 0)
 (R (.bool false) h982)
 ((sB (x980 != 0)
 (R (.bool false) h982)
 ((∃ (x983 x984:Sl),atC h982 (aS h898 0) [vS x983,vS x984] /\
 (∃ (x985 x986:Sl),atC h982 (aS h954 0) [vS x985,vS x986] /\
 (Fn Pz 32 #[.agg ⟨[vS x983,vS x984]⟩,.agg ⟨[vS x985,vS x986]⟩] h982
 (fun v987 h989=>∃ x988,iB v987 x988 /\
 (sB (!x988)
 (R (.bool false) h989)
 ((∃ m990,m990<m777/\I775 (IntKind.wrap .i64 (x_778+1)) h989 m990))))))))))))))))))))))))))))))))))))))))))))))))))))
 ((∃ m991,m991<m33/\I31 (IntKind.wrap .i64 (x_34+1)) h779 m991)))))))))))))))))))))))))))))))))))))
 (R (.bool true) h35)))))))))))))))))))))))))))))))))
theorem vc6 (p0:Sl) (p1:Int) (p2:Sl) (h:Heap) (R:Value->Heap->Prop) (H:W6 p0 p1 p2 h R):Fn Pz 6 #[vS p0,.int .u8 p1,vS p2] h R:=fnI (A:=(.s .z (.s .z (.s .z (.s .z (.s .z (.s .z (.s .z (.s .z (.s (.s .z (.b (.l [(65,.one (.int .i64))] (.s .z (.s .z (.s (.b (.s .z (.s .z (.s .z (.s .z (.s .z (.b (.l [(108,.one (.int .i64))] .z)))))))) .z)))))) .z)))))))))) (by kernel_rfl) H

end Go.VC
end

section
/- The law ComposeCommutes. (Numbers of layer 27's development dump.) -/
namespace Go.VC
open Go.Proofs Go.LexS
theorem doOk (L:List MR) (s:Sl) (k:Int) (ss sb:Sl) (S:List Int) (B:List Bx) (BL:List (List Int)) (a b:Nat) (m:Mch) (x:Mv) (h:Heap) (hS:SyI h s L) (hC:CfI h ss sb S B) (hB:B.map Bx.l=BL) (hP:ProS (L.map MR.m) k S BL) (gm:(L.map MR.m)[a]?=some m) (gx:m.mv[b]?=some x) (hc:canS (L.map MR.m).length k S BL a x=0) :
  Fn Pz 27 #[.slice s.a s.n s.c,.int .i64 k,.agg ⟨[.slice ss.a ss.n ss.c,.slice sb.a sb.n sb.c]⟩,.agg ⟨[.int .i64 (a:Int),.int .i64 (b:Int)]⟩] h (DoV (0,S.set a x.t,doB (L.map MR.m).length a x BL) h):=by
 subst hB
 have h1:=do27 L s k ss sb S B (a:Int) (b:Int) h hS hC
 rw [doS_at hP gm gx,if_pos hc] at h1
 exact h1
theorem imin4 {k:Int} (h:1<=k/\k<=4):k<=imin (IntKind.wrap .i64 (k+1)) 4/\imin (IntKind.wrap .i64 (k+1)) 4<=4:=by
 rw [w64 (by omega) (by omega)]
 unfold imin
 split <;> omega
set_option maxHeartbeats 6400000 in
theorem composeCommutes6 (L:List MR) (s:Sl) (p1:Int) (D:List Int) (ds:Sl) (h:Heap) (hx:Gx h) (hS:SyI h s L) (hp0:0<=p1) (hp1:p1<256) (hD:RL h 1 ds u8C D) (hb:∀ b ∈ D,0<=b/\b<256) :
  Fn Pz 6 #[.slice s.a s.n s.c,.int .u8 p1,.slice ds.a ds.n ds.c] h fun v h'=>v=.bool true/\Ext h h':=by
 apply vc6 s p1 ds; unfold W6
 have hk:=room4 hp0 hp1
 generalize IntKind.wrap .i64 (1+Int.tmod (IntKind.wrap .i64 p1) 4)=k at *
 have hk2:=imin4 hk
 generalize imin (IntKind.wrap .i64 (k+1)) 4=k2 at *
 have hlm:(L.map MR.m).length=L.length:=Yc _
 have hn:=hS.r.ln
 refine (awake12 h hx).mono ?_
 rintro _ h3 ⟨rfl,E3⟩
 refine ⟨true,rfl,sB_f rfl ?_⟩
 refine (fewC13 L s ⟨none,0,0⟩ ⟨none,0,0⟩ [] [] h3 (hS.ext E3) CfI.none_).mono ?_
 rintro _ h6 ⟨⟨b,rfl,-⟩,E⟩
 have E6:=E3.trans E
 refine ⟨b,rfl,sB_intro (fun c=>⟨rfl,E6⟩) (fun _=>?_)⟩
 refine (refSys23 L s h6 (hS.ext E6)).mono ?_
 rintro _ h9 ⟨⟨b2,rfl,hb2⟩,E⟩
 have E9:=E6.trans E
 refine ⟨b2,rfl,sB_intro (fun c=>⟨rfl,E9⟩) (fun c=>?_)⟩
 have hV:=hb2.1 (bT c)
 have hV6:=hV.n
 rw [hlm] at hV6
 refine sBi (fun c=>⟨rfl,E9⟩) (fun c40=>⟨by decide,?_⟩)
 refine (walk26 L s k D ds h9 (hS.ext E9) hV hk (hD.ext E9) hb).mono ?_
 rintro _ h14 ⟨out,ts,tb,S,T,l,A,rfl,hs,hM,hP,-⟩
 have hs:=((St.refl h).step E9).join hs
 have hM:=hM.mono (A':=[]++A) fun i hi=>List.mem_append_right _ hi
 refine ⟨out,ts,tb,rfl,?_⟩
 refine hs.newput (vs:=[.slice ts.a ts.n ts.c,.slice tb.a tb.n tb.c]) rfl rfl fun h16 hs=>?_
 refine ⟨ts,tb,hs.at 0 rfl (o:=0) (n:=2) rfl,?_⟩
 refine (own17 ts tb h16).mono ?_
 rintro _ h22 ⟨rfl,E⟩
 have hs:=hs.step E
 refine ⟨ts,tb,rfl,?_⟩
 refine hs.newput (vs:=[.slice ts.a ts.n ts.c,.slice tb.a tb.n tb.c]) rfl rfl fun h24 hs=>?_
 refine ⟨ts,tb,hs.at 0 rfl (o:=0) (n:=2) rfl,?_⟩
 have hC:=(hM.mono fun i hi=>Yn _ (Yn _ hi)).cfi hs
 refine (steps16 L s k ts tb S T h24 (hS.ext hs.ext) hC).mono ?_
 rintro _ h30 ⟨E30,r,e,l0,rfl,hr,hp,-⟩
 obtain ⟨rfl,rfl⟩:=hp hP
 have hs:=hs.step E30
 have hC:=hC.ext E30
 refine ⟨r,0,rfl,sB_f rfl ?_⟩
 have hat:atC h30 ⟨h22.size,0,none⟩ [.slice ts.a ts.n ts.c,.slice tb.a tb.n tb.c]:=hs.at 0 rfl (o:=0) (n:=2) rfl
 have hS30:=hS.ext hs.ext
 have hE0:=hs.ext
 clear hs hM E30 hS hD hx
 have hrn:=hr.ln
 have hrc:=hr.cap
 have hTl:(T.map Bx.l).length=(L.map MR.m).length*(L.map MR.m).length:=hP.p.b
 have hstep:∀ a b,(a,b) ∈ stepsS (L.map MR.m) k S (T.map Bx.l)->∃ m x,(L.map MR.m)[a]?=some m/\m.mv[b]?=some x/\canS (L.map MR.m).length k S (T.map Bx.l) a x=0/\StepOk (L.map MR.m).length a x:=fun a b hab=>by
  obtain ⟨m,x,gm,gx,hc⟩:=steps_mem hab
  have hvm:=hV.m a m gm
  have hxm:=Yb gx
  exact ⟨m,x,gm,gx,hc,(Ya.1 gm).1,(hvm.2.1.n.mv x hxm).2.2.2.2.1,hvm.2.2 x hxm⟩
 have hP2:=pro_mono hk2.1 hk2.2 hP
 have hrsz:r.n<=2400:=by
  rw [hrn]
  have h1:stepsS (L.map MR.m) k S (T.map Bx.l)=(List.range L.length).flatMap (stepsR L.length k S (T.map Bx.l) (L.map MR.m)):=by unfold stepsS; rw [hlm]
  rw [h1]
  have:=steps_len (n:=L.length) (k:=k) (S:=S) (BL:=T.map Bx.l) hV L.length
  omega
 generalize hSS:stepsS (L.map MR.m) k S (T.map Bx.l)=SS at *
 generalize hTT:T.map Bx.l=BL at *
 refine ⟨fun x h' μ=>∃ i:Nat,x=(i:Int)/\μ=SS.length - i/\i<=SS.length/\Ext h30 h',⟨_,0,rfl,rfl,Nat.zero_le _,.rfl'⟩,?_⟩
 rintro - _ h35 μ ⟨i,rfl,rfl,hi,E35⟩
 refine sBi (fun c1=>?_) (fun c1=>⟨rfl,hE0.trans E35⟩)
 obtain ⟨⟨a,b⟩,gz⟩:=get_some (l:=SS) (i:=i) (by omega)
 obtain ⟨m,x,gm,gx,hcx,ox⟩:=hstep a b (Yb gz)
 have hPx:=pro_do hP gm (Yb gx) hcx
 refine ⟨ts,tb,atC_ext E35 hat,?_⟩
 refine (hr.rw.ext E35).nbI (by omega) (by omega) fun b38 o39 z gz' t=>?_
 rw [Ys,gz] at gz'; cases gz'
 refine ⟨(a:Int),(b:Int),t,?_⟩
 have hD1:=fun h' (E:Ext h30 h')=>doOk L s k ts tb S T BL a b m x h' (hS30.ext E) (hC.ext E) hTT hP gm gx hcx
 have hD2:=fun h' (E:Ext h30 h')=>doOk L s k2 ts tb S T BL a b m x h' (hS30.ext E) (hC.ext E) hTT hP2 gm gx (can_mono hk2.1 hcx)
 refine And.intro ?_ ?_
 any_goals first
  | (refine (hD1 _ E35).mono ?_
     rintro _ h46 ⟨ua,va,Ta,Aa,rfl,hTa,hs,hMa⟩
     refine ⟨ua,va,0,rfl,?_⟩
     refine hs.newbE fun h47 E47 hs=>⟨E47.sm,?_⟩
     refine hs.put 0 rfl (o:=0) (vs:=[.slice ua.a ua.n ua.c,.slice va.a va.n va.c]) rfl (show 2<=2 by decide) fun h48 hs=>?_)
  | (refine (St.refl h35).newbE fun h47 E47 hs0=>⟨E47.sm,?_⟩
     refine (hD1 _ (E35.trans E47)).mono ?_
     rintro _ h46 ⟨ua,va,Ta,Aa,rfl,hTa,hs1,hMa⟩
     refine ⟨ua,va,0,rfl,?_⟩
     have hs:=hs0.join hs1
     refine hs.put 0 rfl (o:=0) (vs:=[.slice ua.a ua.n ua.c,.slice va.a va.n va.c]) rfl (show 2<=2 by decide) fun h48 hs=>?_)
 all_goals
  have E48:=E35.trans hs.ext
  have pa:=hs.at 0 rfl (o:=0) (n:=2) rfl
  have hCa:=(hMa.mono fun i hi=>Yn _ hi).cfi hs
  refine ⟨ts,tb,atC_ext E48 hat,?_⟩
  refine (hr.rw.ext E48).nbI (by omega) (by omega) fun b51 o52 z gz' t=>?_
  rw [Ys,gz] at gz'; cases gz'
  refine ⟨(a:Int),(b:Int),t,?_⟩
  clear hs hMa
  refine And.intro ?_ ?_
  any_goals first
   | (refine (hD2 _ E48).mono ?_
      rintro _ h59 ⟨ub,vb,Tb,Ab,rfl,hTb,hs,hMb⟩
      refine ⟨ub,vb,0,rfl,?_⟩
      refine hs.newbE fun h60 E60 hs=>⟨E60.sm,?_⟩
      refine hs.put 0 rfl (o:=0) (vs:=[.slice ub.a ub.n ub.c,.slice vb.a vb.n vb.c]) rfl (show 2<=2 by decide) fun h61 hs=>?_)
   | (refine (St.refl h48).newbE fun h60 E60 hs0=>⟨E60.sm,?_⟩
      refine (hD2 _ (E48.trans E60)).mono ?_
      rintro _ h59 ⟨ub,vb,Tb,Ab,rfl,hTb,hs1,hMb⟩
      refine ⟨ub,vb,0,rfl,?_⟩
      have hs:=hs0.join hs1
      refine hs.put 0 rfl (o:=0) (vs:=[.slice ub.a ub.n ub.c,.slice vb.a vb.n vb.c]) rfl (show 2<=2 by decide) fun h61 hs=>?_)
  all_goals
   have pb:=hs.at 0 rfl (o:=0) (n:=2) rfl
   have hCb:=(hMb.mono fun i hi=>Yn _ hi).cfi hs
   have E61:=E48.trans hs.ext
   have pa:=atC_ext hs.ext pa
   have hCa:=hCa.ext hs.ext
   clear hs hMb
   refine sB_f rfl (sB_f rfl ⟨ua,va,pa,ub,vb,pb,?_⟩)
   refine (equal32 ua va ub vb _ _ Ta Tb h61 hCa hCb).mono ?_
   rintro _ h68 ⟨⟨c,rfl,hc⟩,E68⟩
   have hc:=hc.2 ⟨rfl,hTa.trans hTb.symm⟩
   subst hc
   have E68:=E61.trans E68
   have pa:=atC_ext (by assumption:Ext h61 h68) pa
   have hCa:=hCa.ext (by assumption:Ext h61 h68)
   refine ⟨true,rfl,sB_f rfl ⟨⟨by omega,by omega,by omega⟩,?_⟩⟩
   clear pb hCb hTb
   refine ⟨fun y h' μ=>∃ j:Nat,y=(j:Int)/\μ=i - j/\j<=i/\Ext h68 h',⟨_,0,rfl,rfl,Nat.zero_le _,.rfl'⟩,?_⟩
   rintro - _ h73 μ ⟨j,rfl,rfl,hj,E73⟩
   have hti:Int.toNat (i:Int) - Int.toNat 0=i:=rfl
   rw [hti]
   have F73:=E68.trans E73
   have pa:=atC_ext E73 pa
   have hCa:=hCa.ext E73
   refine sBi (fun c2=>?_) (fun c2=>⟨_,(show SS.length - (i+1)<SS.length - i by omega),i+1,by rw [w64 (by omega) (by omega)]; omega,rfl,by omega,F73⟩)
   obtain ⟨⟨a2,b2⟩,gy⟩:=get_some (l:=SS) (i:=j) (by omega)
   obtain ⟨m2,y,gm2,gx2,hcy,oy⟩:=hstep a2 b2 (Yb gy)
   refine (hr.rw.ext F73).nbI (by omega) (by omega) fun b74 o75 z gz' t=>?_
   rw [Ys,gz] at gz'; cases gz'
   refine ⟨(a:Int),t.hd,?_⟩
   refine (hr.rw.ext F73).nbI (by omega) (by omega) fun b77 o78 z gz' t=>?_
   rw [Ys,gy] at gz'; cases gz'
   refine ⟨(a2:Int),t.hd,sBe (fun c3=>⟨_,(show i - (j+1)<i - j by omega),j+1,by rw [w64 (by omega) (by omega)]; omega,rfl,by omega,E73⟩) (fun c3=>?_)⟩
   have hpq:a ≠ a2:=fun e=>c3 (by rw [e])
   have hcy2:=comm_can ox oy hpq hTl hcx hcy
   have hcx2:=comm_can oy ox (Ne.symm hpq) hTl hcy hcx
   have hbox:=comm_box ox oy hpq hTl hcx hcy
   have hPy:=pro_do hP gm2 (Yb gx2) hcy
   refine ⟨ts,tb,atC_ext F73 hat,?_⟩
   refine (hr.rw.ext F73).nbI (by omega) (by omega) fun b83 o84 z gz' t=>?_
   rw [Ys,gy] at gz'; cases gz'
   refine ⟨(a2:Int),(b2:Int),t,?_⟩
   have hD3:=fun h' (E:Ext h30 h')=>doOk L s k ts tb S T BL a2 b2 m2 y h' (hS30.ext E) (hC.ext E) hTT hP gm2 gx2 hcy
   have hD4:=fun h' (E:Ext h30 h') (hC:CfI h' ua va _ Ta)=>doOk L s k ua va (S.set a x.t) Ta _ a2 b2 m2 y h' (hS30.ext E) hC hTa hPx gm2 gx2 hcy2
   refine And.intro ?_ ?_
   any_goals first
    | (refine (hD3 _ F73).mono ?_
       rintro _ h91 ⟨uc,vc,Tc,Ac,rfl,hTc,hs,hMc⟩
       refine ⟨uc,vc,0,rfl,?_⟩
       refine hs.newbE fun h92 E92 hs=>⟨E92.sm,?_⟩
       refine hs.put 0 rfl (o:=0) (vs:=[.slice uc.a uc.n uc.c,.slice vc.a vc.n vc.c]) rfl (show 2<=2 by decide) fun h93 hs=>?_)
    | (refine (St.refl h73).newbE fun h92 E92 hs0=>⟨E92.sm,?_⟩
       refine (hD3 _ (F73.trans E92)).mono ?_
       rintro _ h91 ⟨uc,vc,Tc,Ac,rfl,hTc,hs1,hMc⟩
       refine ⟨uc,vc,0,rfl,?_⟩
       have hs:=hs0.join hs1
       refine hs.put 0 rfl (o:=0) (vs:=[.slice uc.a uc.n uc.c,.slice vc.a vc.n vc.c]) rfl (show 2<=2 by decide) fun h93 hs=>?_)
   all_goals
    have pc:=hs.at 0 rfl (o:=0) (n:=2) rfl
    have hCc:=(hMc.mono fun i hi=>Yn _ hi).cfi hs
    have F93:=F73.trans hs.ext
    have E93:=E73.trans hs.ext
    have pa:=atC_ext hs.ext pa
    have hCa:=hCa.ext hs.ext
    clear hs hMc
    have hD5:=fun h' (E:Ext h30 h') (hC:CfI h' uc vc _ Tc)=>doOk L s k uc vc (S.set a2 y.t) Tc _ a b m x h' (hS30.ext E) hC hTc hPy gm gx hcx2
    refine ⟨ua,va,pa,?_⟩
    refine (hr.rw.ext F93).nbI (by omega) (by omega) fun b96 o97 z gz' t=>?_
    rw [Ys,gy] at gz'; cases gz'
    refine ⟨(a2:Int),(b2:Int),t,?_⟩
    refine And.intro ?_ ?_
    any_goals first
     | (refine (hD4 _ F93 hCa).mono ?_
        rintro _ h104 ⟨ud,vd,Td,Ad,rfl,hTd,hs,hMd⟩
        refine ⟨ud,vd,0,rfl,?_⟩
        refine hs.newbE fun h105 E105 hs=>⟨E105.sm,?_⟩
        refine hs.put 0 rfl (o:=0) (vs:=[.slice ud.a ud.n ud.c,.slice vd.a vd.n vd.c]) rfl (show 2<=2 by decide) fun h106 hs=>?_)
     | (refine (St.refl h93).newbE fun h105 E105 hs0=>⟨E105.sm,?_⟩
        refine (hD4 _ (F93.trans E105) (hCa.ext E105)).mono ?_
        rintro _ h104 ⟨ud,vd,Td,Ad,rfl,hTd,hs1,hMd⟩
        refine ⟨ud,vd,0,rfl,?_⟩
        have hs:=hs0.join hs1
        refine hs.put 0 rfl (o:=0) (vs:=[.slice ud.a ud.n ud.c,.slice vd.a vd.n vd.c]) rfl (show 2<=2 by decide) fun h106 hs=>?_)
    all_goals
     have pd:=hs.at 0 rfl (o:=0) (n:=2) rfl
     have hCd:=(hMd.mono fun i hi=>Yn _ hi).cfi hs
     have F106:=F93.trans hs.ext
     have E106:=E93.trans hs.ext
     have pc:=atC_ext hs.ext pc
     have hCc:=hCc.ext hs.ext
     clear hs hMd pa
     refine ⟨uc,vc,pc,?_⟩
     refine (hr.rw.ext F106).nbI (by omega) (by omega) fun b109 o110 z gz' t=>?_
     rw [Ys,gz] at gz'; cases gz'
     refine ⟨(a:Int),(b:Int),t,?_⟩
     refine And.intro ?_ ?_
     any_goals first
      | (refine (hD5 _ F106 hCc).mono ?_
         rintro _ h117 ⟨ue,ve,Te,Ae,rfl,hTe,hs,hMe⟩
         refine ⟨ue,ve,0,rfl,?_⟩
         refine hs.newbE fun h118 E118 hs=>⟨E118.sm,?_⟩
         refine hs.put 0 rfl (o:=0) (vs:=[.slice ue.a ue.n ue.c,.slice ve.a ve.n ve.c]) rfl (show 2<=2 by decide) fun h119 hs=>?_)
      | (refine (St.refl h106).newbE fun h118 E118 hs0=>⟨E118.sm,?_⟩
         refine (hD5 _ (F106.trans E118) (hCc.ext E118)).mono ?_
         rintro _ h117 ⟨ue,ve,Te,Ae,rfl,hTe,hs1,hMe⟩
         refine ⟨ue,ve,0,rfl,?_⟩
         have hs:=hs0.join hs1
         refine hs.put 0 rfl (o:=0) (vs:=[.slice ue.a ue.n ue.c,.slice ve.a ve.n ve.c]) rfl (show 2<=2 by decide) fun h119 hs=>?_)
     all_goals
      have pe:=hs.at 0 rfl (o:=0) (n:=2) rfl
      have hCe:=(hMe.mono fun i hi=>Yn _ hi).cfi hs
      have E119:=E106.trans hs.ext
      have pd:=atC_ext hs.ext pd
      have hCd:=hCd.ext hs.ext
      clear hs hMe pc
      refine sB_f rfl (sB_f rfl (sB_f rfl ⟨ud,vd,pd,ue,ve,pe,?_⟩))
      refine (equal32 ud vd ue ve _ _ Td Te h119 hCd hCe).mono ?_
      rintro _ h126 ⟨⟨c,rfl,hc⟩,E126⟩
      have hc:=hc.2 ⟨comm_states hpq,(hTd.trans hbox).trans hTe.symm⟩
      subst hc
      exact ⟨true,rfl,sB_f rfl ⟨_,(show i - (j+1)<i - j by omega),j+1,by rw [w64 (by omega) (by omega)]; omega,rfl,by omega,E119.trans E126⟩⟩
end Go.VC
end

section
/- Plain: the encoding of integers, lists and configurations; it is injective. -/
namespace Go.VC
open Go.Proofs Go.LexS
/-! ### What the words of bits are -/
end Go.VC
end

section
namespace Go.VC
open Go.Proofs

end Go.VC
end

section
/- Contracts: the encodings, on both sides. (Numbers of layer 27's development dump.) -/
namespace Go.VC
open Go.Proofs Go.LexS
end Go.VC
end

section
/- What systems of machines, configurations and lists of bytes look like in memory where all that is read is of bulk at most 1048576. -/
namespace Go.VC
open Go.Proofs Go.LexS Go.RowKit Go.ChangeShapes Go.WideShapes Go.Proofs.YtnfkibjnkiojnaaGreatDoor
theorem bulk_pos {H:Type} (d:DataW H):1<=Rows.uptoBulk d:=by
 cases d with
 | lit l=>cases l <;> simp [Rows.uptoBulk]
 | _=>simp [Rows.uptoBulk]
theorem bulk_part {H:Type}:∀ {l:List (DataW H)} {d:DataW H},d ∈ l->Rows.uptoBulk d<=Rows.uptoBulkAll l
 | [],_,h=>by cases h
 | x::r,d,h=>by
  rw [Rows.uptoBulkAll]
  rcases Yr.1 h with rfl | h
  ·
   omega
  ·
   have:=bulk_part h; omega
theorem bulk_len {H:Type}:∀ l:List (DataW H),l.length<=Rows.uptoBulkAll l
 | []=>by simp
 | x::r=>by
  have h1:=bulk_pos x
  have h2:=bulk_len r
  rw [Rows.uptoBulkAll,Yyj]; omega
def Rdb (P:Program) (W:World) (t:TypeId) (cs:List Value):Prop:=
 ∃ (H:Type) (enc:TypeId × Value->H) (n:Nat) (x:DataW H × List MemPlace),DataW.trod enc P W 0 (fun _=>true) true n t cs=some x/\Rows.uptoBulk x.1<=1048576
theorem Rdb.rdt {P:Program} {W:World} {t:TypeId} {cs:List Value} (h:Rdb P W t cs):Rdt P W t cs:=by
 obtain ⟨H,enc,n,x,h1,_⟩:=h; exact ⟨H,enc,n,x,h1⟩
theorem rdb_of_trod {H:Type} {enc:TypeId × Value->H} {P:Program} {W:World} {t:TypeId} {v:Value} {d:DataW H} {p:List MemPlace} (h:DataW.Trod enc P W 0 (fun _=>true) true t v d p) (hw:Rows.uptoBulk d<=1048576):Rdb P W t v.cells.toList:=by
 obtain ⟨n,h⟩:=h
 exact ⟨H,enc,n,_,h,hw⟩
theorem Rdb.field {P:Program} {W:World} {t ft:TypeId} {cs:List Value} {i off:Nat} (h:Rdb P W t cs) (hf:fieldAt P t i=some (ft,off)):Rdb P W ft ((cs.drop off).take (P.cellsOf ft)):=by
 unfold fieldAt at hf
 split at hf
 ·
  rename_i fs hu
  obtain ⟨f,h1,h2⟩:=Yya.1 hf
  cases h2
  obtain ⟨H,enc,n,x,h,hw⟩:=h
  obtain ⟨xs,m,_,hx,hl,hxl,hfi⟩:=DataW.trod_struct hu h
  have hlt:i<xs.length:=by rw [hxl]; exact (Yyg.1 h1).1
  refine ⟨H,enc,m,xs[i],by rw [hfi i f h1,Yi hlt],?_⟩
  rw [hx,Rows.uptoBulk] at hw
  have:=bulk_part (l:=xs.map (·.1)) (d:=xs[i].1) (Yp.2 ⟨xs[i],List.getElem_mem hlt,rfl⟩)
  omega
 ·
  cases hf
theorem Rdb.rows {P:Program} {W:World} {t e:TypeId} {cs:List Value} (ht:P.underlying t=some (.slice e)) (h:Rdb P W t cs) (hpos:0<P.cellsOf e) :
  ∃ (s:Sl) (rows:List (List Value)),cs=[.slice s.a s.n s.c]/\s.n<=s.c/\s.n<=1048576/\(s.a=none->s.n=0/\s.c=0)/\Rw W.heap (P.cellsOf e) s rows/\∀ r ∈ rows,r.length=P.cellsOf e/\Rdb P W e r:=by
 obtain ⟨H,enc,n,x,h,hw⟩:=h
 rcases DataW.trod_slice ht h with ⟨rfl,_⟩ | ⟨a,len,cap,elems,rest,m,_,rfl,hx,_,hlc,hcm,hel,helem,_,_⟩
 ·
  exact ⟨⟨none,0,0⟩,[],rfl,Yyt _,Nat.zero_le _,fun _=>⟨rfl,rfl⟩,Rw.nil,fun r hr=>by cases hr⟩
 ·
  rw [hx,Rows.uptoBulk] at hw
  have hle:len<=1048576:=by
   have:=bulk_len (elems.map (·.1))
   rw [Yc] at this; omega
  have hwe:∀ (i:Nat) (hi:i<elems.length),Rows.uptoBulk elems[i].1<=1048576:=fun i hi=>by
   have:=bulk_part (l:=elems.map (·.1)) (d:=elems[i].1) (Yp.2 ⟨elems[i],List.getElem_mem hi,rfl⟩)
   omega
  by_cases h0:len=0
  ·
   subst h0
   exact ⟨⟨some a,0,cap⟩,[],rfl,hlc,hle,fun e=>(by cases e),Rw.empty rfl,fun r hr=>by cases hr⟩
  ·
   have hrow:∀ i,i<len->∃ r,W.cells? 0 (a.add (i*P.cellsOf e)) (P.cellsOf e)=some r/\Rdb P W e r:=by
    intro i hi
    have h1:=helem i hi
    rw [Yi (by omega)] at h1
    obtain ⟨r,hr,hx2⟩:=Option.bind_eq_some_iff.1 h1
    exact ⟨r,hr,H,enc,m,_,hx2,hwe i (by omega)⟩
   let row:Nat->List Value:=fun i=>(W.cells? 0 (a.add (i*P.cellsOf e)) (P.cellsOf e)).getD []
   have hrow':∀ i,i<len->W.cells? 0 (a.add (i*P.cellsOf e)) (P.cellsOf e)=some (row i)/\Rdb P W e (row i):=fun i hi=>by
    obtain ⟨r,hr,hx⟩:=hrow i hi
    have:row i=r:=by show (W.cells? 0 _ _).getD []=r; rw [hr]; rfl
    rw [this]; exact ⟨hr,hx⟩
   have hget:∀ i,i<len->((List.range len).map row)[i]?=some (row i):=fun i hi=>by
    rw [Yd,Yyb hi]; rfl
   have hspot:a=⟨a.block,a.off,none⟩:=by
    have hc:=(cells_at (hrow' 0 (by omega)).1)
    have hl0:0<(row 0).length:=by rw [hc.1]; exact hpos
    have:=hc.2 0 _ (Yi hl0)
    rw [Nat.zero_mul,show (a.add 0).add 0=a from rfl] at this
    unfold World.cell? at this
    split at this
    ·
     split at this
     ·
      cases this
     ·
      rename_i hs
      cases a with
      | mk b o s=>
       cases s with
       | none=>rfl
       | some s=>exact absurd rfl hs
    ·
     cases this
   refine ⟨⟨some a,len,cap⟩,(List.range len).map row,rfl,hlc,hle,fun e=>(by cases e),⟨by simp,fun _=>⟨a.block,a.off,by rw [<- hspot],fun i r hi j v hj=>?_⟩⟩,fun r hr=>?_⟩
   ·
    have hil:i<len:=by have:=(Ya.1 hi).1; simpa using this
    rw [hget i hil] at hi; cases hi
    have h4:=(cells_at (hrow' i hil).1).2 _ _ hj
    rw [hspot] at h4
    have e:((⟨a.block,a.off,none⟩:Addr).add (i*P.cellsOf e)).add j=addk ⟨a.block,a.off+i*P.cellsOf e,none⟩ j:=by
     rw [addk_at,add_n,add_n]
    rw [e] at h4
    exact h4
   ·
    obtain ⟨i,hi,rfl⟩:=Yp.1 hr
    have:=hrow' i (List.mem_range.1 hi)
    exact ⟨(cells_at this.1).1,this.2⟩
theorem Rdb.list {α:Type} {P:Program} {W:World} {t e:TypeId} {k:Nat} {v:Value} {cs:α->List Value} {Q:α->Prop} (ht:P.underlying t=some (.slice e)) (hk:P.cellsOf e=k) (hpos:0<k)
  (ho:∀ r,Rdb P W e r->∃ x,r=cs x/\Q x) (h:Rdb P W t [v]):∃ (s:Sl) (L:List α),v=.slice s.a s.n s.c/\RL W.heap k s cs L/\∀ x ∈ L,Q x:=by
 subst hk
 obtain ⟨s,rows,e1,hc,hm,hna,hrw,hr⟩:=h.rows ht hpos
 have key:∀ rows:List (List Value),(∀ r ∈ rows,r.length=P.cellsOf e/\Rdb P W e r)->∃ L:List α,rows=L.map cs/\∀ x ∈ L,Q x:=by
  intro rows
  induction rows with
  | nil=>intro _; exact ⟨[],rfl,fun x hx=>by cases hx⟩
  | cons r rows ih=>
   intro h
   obtain ⟨x,hx,hq⟩:=ho r (h r (by simp)).2
   obtain ⟨L,hL,hQ⟩:=ih fun y hy=>h y (Yn _ hy)
   exact ⟨x::L,by rw [hx,hL]; rfl,fun y hy=>by rcases Yr.1 hy with rfl | hy; exact hq; exact hQ y hy⟩
 obtain ⟨L,rfl,hQ⟩:=key rows hr
 have hn:=hrw.ln
 exact ⟨s,L,by simpa using e1,⟨hrw,hc,hna,by omega⟩,hQ⟩
theorem v3:Pz.underlying 3=some (.int .i64):=by kernel_rfl
theorem v4b:Pz.underlying 4=some .bool:=by kernel_rfl
theorem cz3:Pz.cellsOf 3=1:=by kernel_rfl
theorem cz4:Pz.cellsOf 4=1:=by kernel_rfl
theorem cz51:Pz.cellsOf 51=1:=by kernel_rfl
theorem cz52:Pz.cellsOf 52=1:=by kernel_rfl
theorem cz53:Pz.cellsOf 53=1:=by kernel_rfl
theorem cz55:Pz.cellsOf 55=6:=by kernel_rfl
theorem cz190:Pz.cellsOf 190=3:=by kernel_rfl
theorem cz108:Pz.cellsOf 108=6:=by kernel_rfl
theorem vs51:Pz.underlying 51=some (.slice 4):=by kernel_rfl
theorem vs52:Pz.underlying 52=some (.slice 108):=by kernel_rfl
theorem vs53:Pz.underlying 53=some (.slice 190):=by kernel_rfl
theorem open_three {W:World} {t:TypeId} {r:List Value} (hc:Pz.cellsOf t=3) (h0:fieldAt Pz t 0=some (3,0)) (h1:fieldAt Pz t 1=some (3,1)) (h2:fieldAt Pz t 2=some (3,2)) (h:Rdt Pz W t r) :
  ∃ a b c:Int,r=[.int .i64 a,.int .i64 b,.int .i64 c]:=by
 have hl:=h.flen h0
 rw [hc] at hl
 match r,hl with
 | [x0,x1,x2],_=>
  have f0:=h.field h0
  have f1:=h.field h1
  have f2:=h.field h2
  rw [cz3] at f0 f1 f2
  obtain ⟨k0,e0,_⟩:=f0.int v3
  obtain ⟨k1,e1,_⟩:=f1.int v3
  obtain ⟨k2,e2,_⟩:=f2.int v3
  simp only [List.drop_zero,List.take_succ_cons,Yyk,List.drop_succ_cons,List.cons.injEq,and_true] at e0 e1 e2
  subst e0 e1 e2
  exact ⟨k0,k1,k2,rfl⟩
theorem open_boolv {W:World} {r:List Value} (h:Rdb Pz W 4 r):∃ x:Bool,r=bC x/\True:=by
 obtain ⟨k,e⟩:=h.rdt.bool v4b
 exact ⟨k,e,trivial⟩
theorem open_limit {W:World} {r:List Value} (h:Rdb Pz W 190 r):∃ x:To,r=x.cs/\True:=by
 obtain ⟨a,b,c,e⟩:=open_three cz190 (by kernel_rfl) (by kernel_rfl) (by kernel_rfl) h.rdt
 exact ⟨⟨a,b,c⟩,e,trivial⟩
theorem open_move {W:World} {r:List Value} (h:Rdb Pz W 108 r):∃ x:Mv,r=x.cs/\True:=by
 have hl:=h.rdt.flen (i:=0) (ft:=3) (off:=0) (by kernel_rfl)
 rw [cz108] at hl
 match r,hl with
 | [x0,x1,x2,x3,x4,x5],_=>
  have f0:=h.rdt.field (i:=0) (ft:=3) (off:=0) (by kernel_rfl)
  have f1:=h.rdt.field (i:=1) (ft:=4) (off:=1) (by kernel_rfl)
  have f2:=h.rdt.field (i:=2) (ft:=3) (off:=2) (by kernel_rfl)
  have f3:=h.rdt.field (i:=3) (ft:=3) (off:=3) (by kernel_rfl)
  have f4:=h.rdt.field (i:=4) (ft:=3) (off:=4) (by kernel_rfl)
  have f5:=h.rdt.field (i:=5) (ft:=4) (off:=5) (by kernel_rfl)
  rw [cz3] at f0 f2 f3 f4
  rw [cz4] at f1 f5
  obtain ⟨k0,e0,_⟩:=f0.int v3
  obtain ⟨k1,e1⟩:=f1.bool v4b
  obtain ⟨k2,e2,_⟩:=f2.int v3
  obtain ⟨k3,e3,_⟩:=f3.int v3
  obtain ⟨k4,e4,_⟩:=f4.int v3
  obtain ⟨k5,e5⟩:=f5.bool v4b
  simp only [List.drop_zero,List.take_succ_cons,Yyk,List.drop_succ_cons,List.cons.injEq,and_true] at e0 e1 e2 e3 e4 e5
  subst e0 e1 e2 e3 e4 e5
  exact ⟨⟨k0,k1,k2,k3,k4,k5⟩,rfl,trivial⟩
theorem open_machine {W:World} {r:List Value} (h:Rdb Pz W 55 r):∃ (m:Mch) (sf sm sl:Sl),r=mC m sf sm sl/\MI W.heap m sf sm sl:=by
 have hl:=h.rdt.flen (i:=0) (ft:=3) (off:=0) (by kernel_rfl)
 rw [cz55] at hl
 match r,hl with
 | [x0,x1,x2,x3,x4,x5],_=>
  have f0:=h.rdt.field (i:=0) (ft:=3) (off:=0) (by kernel_rfl)
  have f1:=h.rdt.field (i:=1) (ft:=3) (off:=1) (by kernel_rfl)
  have f2:=h.rdt.field (i:=2) (ft:=3) (off:=2) (by kernel_rfl)
  have f3:=h.field (i:=3) (ft:=51) (off:=3) (by kernel_rfl)
  have f4:=h.field (i:=4) (ft:=52) (off:=4) (by kernel_rfl)
  have f5:=h.field (i:=5) (ft:=53) (off:=5) (by kernel_rfl)
  rw [cz3] at f0 f1 f2
  rw [cz51] at f3
  rw [cz52] at f4
  rw [cz53] at f5
  obtain ⟨k0,e0,_⟩:=f0.int v3
  obtain ⟨k1,e1,_⟩:=f1.int v3
  obtain ⟨k2,e2,_⟩:=f2.int v3
  obtain ⟨sf,lf,e3,hf,_⟩:=Rdb.list vs51 cz4 (by omega) (fun r hr=>open_boolv hr) (show Rdb Pz W 51 [x3] from f3)
  obtain ⟨sm,lm,e4,hm,_⟩:=Rdb.list vs52 cz108 (by omega) (fun r hr=>open_move hr) (show Rdb Pz W 52 [x4] from f4)
  obtain ⟨sl,ll,e5,hl,_⟩:=Rdb.list vs53 cz190 (by omega) (fun r hr=>open_limit hr) (show Rdb Pz W 53 [x5] from f5)
  simp only [List.drop_zero,List.take_succ_cons,Yyk,List.drop_succ_cons,List.cons.injEq,and_true] at e0 e1 e2
  subst e0 e1 e2 e3 e4 e5
  exact ⟨⟨k0,k1,k2,lf,lm,ll⟩,sf,sm,sl,rfl,⟨hf,hm,hl⟩⟩
theorem cz5:Pz.cellsOf 5=1:=by kernel_rfl
theorem vs48:Pz.underlying 48=some (.slice 5):=by kernel_rfl
theorem v5u:Pz.underlying 5=some (.int .u8):=by kernel_rfl
theorem vsS22:Pz.underlying 22=some (.slice 55):=by kernel_rfl
theorem open_mr {W:World} {r:List Value} (h:Rdb Pz W 55 r):∃ x:MR,r=x.cs/\MI W.heap x.m x.f x.g x.l:=by
 obtain ⟨m,f,g,l,e,hm⟩:=open_machine h
 exact ⟨⟨m,f,g,l⟩,e,hm⟩
theorem open_sys {W:World} {v:Value} (h:Rdb Pz W 22 [v]):∃ (s:Sl) (L:List MR),v=.slice s.a s.n s.c/\SyI W.heap s L:=by
 obtain ⟨s,L,e,hr,hq⟩:=Rdb.list vsS22 cz55 (by omega) (fun r hr=>open_mr hr) h
 exact ⟨s,L,e,hr,hq⟩
theorem open_u8n {W:World} {r:List Value} (h:Rdb Pz W 5 r):∃ x:Int,r=u8C x/\(0<=x/\x<256):=by
 obtain ⟨n,e,hw⟩:=h.rdt.int v5u
 have h3:(decide (IntKind.u8.min<=n) && decide (n<=IntKind.u8.max))=true:=hw
 rw [Yt] at h3
 have h4:(0:Int)<=n:=Yyn h3.1
 have h5:n<=(255:Int):=Yyn h3.2
 exact ⟨n,e,h4,by omega⟩
theorem open_u8s {W:World} {v:Value} (h:Rdb Pz W 48 [v]):∃ (s:Sl) (L:List Int),v=.slice s.a s.n s.c/\(RL W.heap 1 s u8C L/\∀ n ∈ L,0<=n/\n<256):=by
 obtain ⟨s,L,e,hr,hb⟩:=Rdb.list vs48 cz5 (by omega) (fun r hr=>open_u8n hr) h
 exact ⟨s,L,e,hr,hb⟩
theorem u8_rng {W:World} {k:Int} (h:Rdb Pz W 5 [.int .u8 k]):0<=k/\k<256:=by
 obtain ⟨x,e,hx⟩:=open_u8n h
 injection e with e1 _
 injection e1 with _ e2
 rw [e2]; exact hx
end Go.VC
end
