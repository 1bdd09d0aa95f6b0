/- WkVcH WkZ WkAa WkAk WkAm WkVcW WkAn WkAb WkVcL WkAc WkVcQ WkAh WkVcU WkAl WkAo WkAf WkVcR WkAg WkArgs. -/
import Derived.Test.YtnfkibjnkiojnaaGreatDoorM02
import Derived.Test.YtnfkibjnkiojnaaGreatDoorProg
import Derived.KernelRfl
import Derived.Test.YtnfkibjnkiojnaaGreatDoorM01
import Derived.Test.YtnfkibjnkiojnaaGreatDoorM27
import Derived.Test.YtnfkibjnkiojnaaGreatDoorM26
import Derived.Test.YtnfkibjnkiojnaaGreatDoorM22
import Derived.Test.YtnfkibjnkiojnaaGreatDoorM25
import Derived.Test.YtnfkibjnkiojnaaGreatDoorM23
import Derived.Test.YtnfkibjnkiojnaaGreatDoorM19
import Derived.Test.YtnfkibjnkiojnaaGreatDoorRows
set_option linter.unusedVariables false
set_option linter.unusedSimpArgs false
set_option maxRecDepth 100000

section
namespace Go.VC
open Go.Proofs

def W26 (p0:Sl) (p1:Int) (p2:Sl) (h:Heap) (R:Value->Heap->Prop):Prop:=
 (Wn h [.slice none 0 0,.slice none 0 0] 26 fun h1=>
 (Fn Pz 46 #[vS p0] h1
 (fun v2 h5=>∃ (x3 x4:Sl),v2=.agg ⟨[vS x3,vS x4]⟩ /\
 (Wn h5 [.slice none 0 0,.slice none 0 0] 26 fun h6=>
 (Wp h6 (aS h5 0) 2 [vS x3,vS x4] fun h7=>
 (QSI ⟨none,0,0⟩ 0 h7 fun I8 out_11 i_12 h13 m10=>(
 (sB (decide (i_12<(p2.n:Int)))
 ((∃ (x14 x15:Sl),atC h13 (aS h5 0) [vS x14,vS x15] /\
 (Fn Pz 48 #[vS p0,vI p1,.agg ⟨[vS x14,vS x15]⟩] h13
 (fun v16 h18=>∃ x17,iS v16 x17 /\
 (sB ((x17.n:Int) == 0)
 ((∃ (x19 x20:Sl),atC h18 (aS h5 0) [vS x19,vS x20] /\
 (Wp h18 (aS h 0) 2 [vS x19,vS x20] fun h21=>
 (∃ (x22 x23:Sl),atC h21 (aS h 0) [vS x22,vS x23] /\
 R (.tuple ⟨[vS out_11,.agg ⟨[vS x22,vS x23]⟩]⟩) h21))))
 ((NB p2.a fun b24 o25=>(Ib i_12 p2.n /\
 (∃ x26:Int,hc h18 ⟨b24,o25+Int.toNat i_12*1,none⟩=some (.int .u8 x26) /\
 ((x17.n:Int) ≠ 0/\(NB x17.a fun b27 o28=>((0<=((Int.tmod (IntKind.wrap .i64 x26) (x17.n:Int)):Int)/\((Int.tmod (IntKind.wrap .i64 x26) (x17.n:Int)):Int)<(x17.n:Nat)) /\
 (∃ (x29 x30:Int),atC h18 ⟨b27,o28+Int.toNat (Int.tmod (IntKind.wrap .i64 x26) (x17.n:Int))*2,none⟩ [vI x29,vI x30] /\
 (Wn h18 [vI 0,vI 0] 60 fun h31=>
 (Wp h31 (aS h18 0) 2 [vI x29,vI x30] fun h32=>
 (∃ (x33 x34:Int),atC h32 (aS h18 0) [vI x33,vI x34] /\
 (Wn h32 [vI x33,vI x34] 60 fun h35=>
 (App Pz 39 39 (vS out_11) (.slice (some (aS h32 0)) 1 1) h35 fun s36 h37=>
 (∃ (x38 x39:Sl),atC h37 (aS h5 0) [vS x38,vS x39] /\
 (∃ (x40 x41:Int),atC h37 (aS h18 0) [vI x40,vI x41] /\
 (Fn Pz 56 #[vS p0,.agg ⟨[vS x38,vS x39]⟩,.agg ⟨[vI x40,vI x41]⟩] h37
 (fun v42 h45=>∃ (x43 x44:Sl),v42=.agg ⟨[vS x43,vS x44]⟩ /\
 (Wp h45 (aS h5 0) 2 [vS x43,vS x44] fun h46=>
 (∃ m47,m47<m10/\I8 s36 (IntKind.wrap .i64 (i_12+1)) h46 m47))))))))))))))))))))))))
 ((∃ (x48 x49:Sl),atC h13 (aS h5 0) [vS x48,vS x49] /\
 (Wp h13 (aS h 0) 2 [vS x48,vS x49] fun h50=>
 (∃ (x51 x52:Sl),atC h50 (aS h 0) [vS x51,vS x52] /\
 R (.tuple ⟨[vS out_11,.agg ⟨[vS x51,vS x52]⟩]⟩) h50))))))))))))
theorem vc26 (p0:Sl) (p1:Int) (p2:Sl) (h:Heap) (R:Value->Heap->Prop) (H:W26 p0 p1 p2 h R):Fn Pz 26 #[vS p0,vI p1,vS p2] h R:=fnI (A:=(.s .z (.s .z (.s .z (.s (.s .z (.b (.l [(9,.one (.slice)),(10,.one (.int .i64))] .z))) .z))))) (by kernel_rfl) H

end Go.VC
end

section
/- Contract: Walk. (Numbers of layer 27's development dump.) -/
namespace Go.VC
open Go.Proofs Go.LexS
def u8C (b:Int):List Value:=[.int .u8 b]
theorem w8 {b:Int} (h0:0<=b) (h1:b<256):IntKind.wrap .i64 b=b:=w64 (by omega) (by omega)
theorem xpro_start {L:List Mch} {k:Int} (hV:SysV L) (hk:1<=k/\k<=4):ProS L k (startS L) ((List.replicate (L.length*L.length) bx0).map Bx.l):=by
 refine ⟨hV,hk,⟨by unfold startS; rw [Yc],by rw [Yc,Yg],fun p s m h1 h2=>?_,fun i b hb=>?_⟩⟩
 ·
  unfold startS at h1
  rw [Yd,h2] at h1
  cases h1
  exact (hV.m p m h2).2.1.n.s
 ·
  obtain ⟨q,hq,rfl⟩:=Yp.1 (Yb hb)
  rw [List.eq_of_mem_replicate hq]
  exact ⟨by show ((0:Nat):Int)<=k; omega,fun _=>rfl,fun x hx=>by cases hx⟩
theorem doS_at {L:List Mch} {k:Int} {S:List Int} {BL:List (List Int)} {a b:Nat} {m:Mch} {x:Mv} (hP:ProS L k S BL) (gm:L[a]?=some m) (gx:m.mv[b]?=some x):doS L k S BL (a:Int) (b:Int)=if canS L.length k S BL a x=0 then (0,S.set a x.t,doB L.length a x BL) else (canS L.length k S BL a x,[],[]):=by
 have ha:=(Ya.1 gm).1
 have hb:=(Ya.1 gx).1
 have hmo:mvO L (a:Int) (b:Int)=some x:=by
  unfold mvO
  rw [if_neg (by omega),Ys,gm]
  dsimp only
  rw [if_neg (by omega),Ys,gx]
 unfold doS
 rw [if_pos hP,hmo,Ys]
noncomputable def stpS (L:List Mch) (k:Int) (c:List Int × List (List Int)) (q:Nat × Nat):Option (List Int × List (List Int)):=if (doS L k c.1 c.2 (q.1:Int) (q.2:Int)).1=0 then some (doS L k c.1 c.2 (q.1:Int) (q.2:Int)).2 else none
noncomputable def runS (L:List Mch) (k:Int) (l:List (Nat × Nat)):Option (List Int × List (List Int)):=l.foldl (fun o q=>o.bind fun c=>stpS L k c q) (some (startS L,(List.replicate (L.length*L.length) bx0).map Bx.l))
theorem runS_snoc {L:List Mch} {k:Int} {l:List (Nat × Nat)} {q:Nat × Nat}:runS L k (l++[q])=(runS L k l).bind fun c=>stpS L k c q:=by
 unfold runS; rw [List.foldl_append]; rfl
theorem stpS_ok {L:List Mch} {k:Int} {S:List Int} {BL:List (List Int)} {a b:Nat} {m:Mch} {x:Mv} (hP:ProS L k S BL) (gm:L[a]?=some m) (gx:m.mv[b]?=some x) (hc:canS L.length k S BL a x=0):stpS L k (S,BL) (a,b)=some (S.set a x.t,doB L.length a x BL):=by
 unfold stpS
 rw [doS_at hP gm gx,if_pos hc,if_pos rfl]
def WalV (L:List Mch) (k:Int) (h:Heap) (v:Value) (h':Heap):Prop:=∃ (out ts tb:Sl) (S:List Int) (T:List Bx) (l:List (Nat × Nat)) (A:List It),v=.tuple ⟨[.slice out.a out.n out.c,cfA ts tb]⟩/\St h h' A/\CfM A ts tb S T/\ProS L k S (T.map Bx.l)/\It.sl out 60 2 (l.map stpC) ∈ A/\runS L k l=some (S,T.map Bx.l)/\l.length<=1048576
theorem steps_mem {L:List Mch} {k:Int} {S:List Int} {BL:List (List Int)} {a b:Nat} (h:(a,b) ∈ stepsS L k S BL):∃ m x,L[a]?=some m/\m.mv[b]?=some x/\canS L.length k S BL a x=0:=by
 unfold stepsS at h
 obtain ⟨p,_,h⟩:=List.mem_flatMap.1 h
 unfold stepsR at h
 cases gm:L[p]? with
 | none=>rw [gm] at h; cases h
 | some m=>
  rw [gm] at h
  obtain ⟨i,hi,e⟩:=Yp.1 h
  cases e
  unfold stepsP at hi
  obtain ⟨h1,h2⟩:=List.mem_filter.1 hi
  obtain ⟨x,gx,_⟩:=outIx_mem.1 ((mvS_srt m _).1.mem_iff.1 h1)
  refine ⟨m,x,gm,gx,?_⟩
  have:=Yyn h2
  rwa [mvD_of gx] at this
set_option maxHeartbeats 3200000 in
theorem walk26 (L:List MR) (s:Sl) (k:Int) (D:List Int) (ds:Sl) (h:Heap) (hS:SyI h s L) (hV:SysV (L.map MR.m)) (hk:1<=k/\k<=4) (hD:RL h 1 ds u8C D) (hb:∀ b ∈ D,0<=b/\b<256) :
  Fn Pz 26 #[.slice s.a s.n s.c,.int .i64 k,.slice ds.a ds.n ds.c] h (WalV (L.map MR.m) k h):=by
 apply vc26 s k ds; unfold W26
 have hlm:(L.map MR.m).length=L.length:=Yc _
 have hV6:=hV.n
 rw [hlm] at hV6
 have hdn:=hD.ln
 have h36:=sq6 hV6.2
 have hds:=hD.sm
 refine (St.refl h).newb fun h1 hs=>?_
 refine (first46 L s h1 (hS.ext hs.ext) hV6.2).mono ?_
 rintro _ h5 ⟨ss,sb,A,rfl,hs1,hM⟩
 have hs:=hs.join hs1
 refine ⟨ss,sb,rfl,?_⟩
 refine hs.newput (vs:=[.slice ss.a ss.n ss.c,.slice sb.a sb.n sb.c]) rfl rfl fun h7 hs=>?_
 have hs:=hs.nil_ 60 2
 have hpro:=xpro_start (k:=k) hV hk
 rw [hlm] at hpro
 refine ⟨fun out x h' μ=>∃ (i:Nat) (S:List Int) (T:List Bx) (l:List (Nat × Nat)) (A:List It) (ts tb:Sl),x=(i:Int)/\μ=D.length - i/\i<=D.length/\l.length=i/\St h h' (.sl out 60 2 (l.map stpC) :: .blk h5.size [.slice ts.a ts.n ts.c,.slice tb.a tb.n tb.c] 26 :: .blk h.size [.slice none 0 0,.slice none 0 0] 26::A)/\CfM A ts tb S T/\ProS (L.map MR.m) k S (T.map Bx.l)/\runS (L.map MR.m) k l=some (S,T.map Bx.l),⟨_,0,_,_,[],A,ss,sb,rfl,rfl,Nat.zero_le _,rfl,hs,hM,hpro,by unfold runS; rw [List.foldl_nil,hlm]⟩,?_⟩
 clear hs hM hpro hs1
 rintro - out _ h13 μ ⟨i,S,T,l,A,ts,tb,rfl,rfl,hi,hll,hs,hM,hP,hR⟩
 have hC:∀ {h':Heap} {A':List It},St h h' (A'++A)->CfI h' ts tb S T:=fun hs=>(hM.mono fun i hi=>List.mem_append_right _ hi).cfi hs
 have hSl:S.length=L.length:=by rw [hP.p.s,hlm]
 have hTl:T.length=L.length*L.length:=by rw [<- Yc (f:=Bx.l),hP.p.b,hlm]
 refine sBi (fun c=>?_) (fun c=>?_)
 ·
  refine ⟨ts,tb,hs.at 1 rfl (o:=0) (n:=2) rfl,?_⟩
  refine (refAll48 L s k ts tb S T h13 (hS.ext hs.ext) hV (hC (A':=[_,_,_]) hs) hSl hTl).mono ?_
  rintro _ h18 ⟨E,r,rfl,hr⟩
  have hs:=hs.step E
  have hrn:=hr.ln
  refine ⟨r,rfl,sBe (fun c2=>?_) (fun c2=>?_)⟩
  ·
   refine ⟨ts,tb,hs.at 1 rfl (o:=0) (n:=2) rfl,?_⟩
   refine hs.put 2 rfl (o:=0) (vs:=[.slice ts.a ts.n ts.c,.slice tb.a tb.n tb.c]) rfl (show 2<=2 by decide) fun h21 hs=>?_
   exact ⟨ts,tb,hs.at 2 rfl (o:=0) (n:=2) rfl,out,ts,tb,S,T,l,_,rfl,hs,hM.mono fun i hi=>Yn _ (Yn _ (Yn _ hi)),hP,Yx,hR,by omega⟩
  ·
   obtain ⟨d,gd⟩:=get_some (l:=D) (i:=i) (by omega)
   have hd:=hb d (Yb gd)
   refine (hD.rw.ext hs.ext).nbI (by omega) (by omega) fun b24 o25 d' gd' t=>?_
   rw [Ys,gd] at gd'; cases gd'
   refine ⟨d,t.hd,c2,?_⟩
   rw [w8 hd.1 hd.2]
   obtain ⟨dn,rfl⟩:∃ dn:Nat,d=(dn:Int):=⟨d.toNat,by omega⟩
   rw [tmod_nat]
   have hlt:dn % r.n<r.n:=Nat.mod_lt _ (by omega)
   refine hr.rw.nbI (by omega) (by omega) fun b27 o28 q gq t2=>?_
   obtain ⟨a,b⟩:=q
   obtain ⟨m,x,gm,gx,hc⟩:=steps_mem (Yb gq)
   refine ⟨(a:Int),(b:Int),t2,?_⟩
   refine hs.newput (vs:=stpC (a,b)) rfl rfl fun h32 hs=>?_
   refine ⟨_,_,hs.at 0 rfl (o:=0) (n:=2) rfl,?_⟩
   have hon:=(hs.rows 1 (s:=out) (cs:=stpC) rfl (by omega)).ln
   refine hs.app 1 (s:=out) (n:=2) (rows:=l.map stpC) rfl app39 (m:=1) [stpC (a,b)] rfl rfl (fun r hr=>by rw [Ye] at hr; rw [hr]; rfl) rfl (by omega) (by simp only [maxLen]; omega) fun o2 h37 no hs=>?_
   refine ⟨ts,tb,hs.at 2 rfl (o:=0) (n:=2) rfl,(a:Int),(b:Int),hs.at 0 rfl (o:=0) (n:=2) rfl,?_⟩
   have gm0:=gm
   rw [Yd] at gm
   cases gy:L[a]? with
   | none=>rw [gy] at gm; cases gm
   | some y=>
    rw [gy] at gm; cases gm
    have hxm:=Yb gx
    have hp:=(Ya.1 gy).1
    have hvm:=hV.m a y.m gm0
    have hx0:0<=x.peer:=(hvm.2.1.n.mv x hxm).2.2.2.2.1
    have hx1:x.peer<(L.length:Int):=by have:=hvm.2.2 x hxm; rw [hlm] at this; exact this
    have hj:=bxI_lt (n:=L.length) (x:=x) hp hx0 hx1
    obtain ⟨q,gq2⟩:=get_some (l:=T) (i:=bxI L.length a x) (by omega)
    have hall:∀ z ∈ T,z.l.length<=4:=fun z hz=>by
     obtain ⟨j',gj⟩:=Yf.1 hz
     have:=(hP.p.bx j' z.l (by rw [Yd,gj]; rfl)).1
     omega
    have hqm:=Yb gq2
    have hql:(T.map Bx.l).getD (bxI L.length a x) []=q.l:=getD_map gq2
    have hpd:=pro_do hP gm0 hxm hc
    have hR2:runS (L.map MR.m) k (l++[(a,b)])=some (S.set a x.t,doB (L.map MR.m).length a x (T.map Bx.l)):=by
     rw [runS_snoc,hR]
     exact stpS_ok hP gm0 gx hc
    rw [hlm] at hc hpd hR2
    refine (next56 L L.length s ts tb S T a b y x q (if x.send=true then q.l++[x.label] else q.l.tail) h37 (hS.ext hs.ext) (hC (A':=[_,_,_,_]) hs) rfl hV6.2 gy gx hx0 hx1 hSl hTl gq2 (hall q hqm) rfl (fun d=>?_)).mono ?_
    ·
     unfold canS at hc
     rw [hql] at hc
     split at hc
     ·
      exact absurd hc (by decide)
     ·
      rw [if_neg (by rw [d]; decide)] at hc
      cases hq:q.l with
      | nil=>rw [hq] at hc; exact absurd hc (show ¬ ((23:Int)=0) by decide)
      | cons a b=>rw [Yyj]; omega
    ·
     rintro _ h45 ⟨t2,b2,u,rfl,hs2⟩
     have hs:=hs.join hs2
     refine ⟨t2,b2,rfl,?_⟩
     refine hs.put 2 rfl (o:=0) (vs:=[.slice t2.a t2.n t2.c,.slice b2.a b2.n b2.c]) rfl (show 2<=2 by decide) fun h46 hs=>?_
     refine ⟨_,(show D.length - (i+1)<D.length - i by omega),i+1,S.set a x.t,T.set (bxI L.length a x) ⟨u,if x.send=true then q.l++[x.label] else q.l.tail⟩,l++[(a,b)],A++_,t2,b2,by rw [w64 (by omega) (by omega)]; omega,rfl,by omega,by rw [Yh,Yv,hll],by rw [Ym]; exact hs.drop 1,⟨List.mem_append_right _ Yx,List.mem_append_right _ (Yn _ Yx),fun z hz=>?_,by rw [Yyh]; omega,by rw [Yyh]; omega,fun z hz=>?_⟩,?_⟩
     ·
      rcases List.mem_or_eq_of_mem_set hz with hz | rfl
      ·
       exact (hM.i z hz).imp id (Or.imp (List.mem_append_left _) (List.mem_append_left _))
      ·
       exact .inr (.inl (List.mem_append_right _ (Yn _ (Yn _ Yx))))
     ·
      rcases List.mem_or_eq_of_mem_set hz with hz | rfl
      ·
       have:=hall z hz; omega
      ·
       have:=hall q hqm
       dsimp only
       split
       ·
        rw [Yh,Yv]; omega
       ·
        rw [List.length_tail]; omega
     ·
      have e:(T.set (bxI L.length a x) ⟨u,if x.send=true then q.l++[x.label] else q.l.tail⟩).map Bx.l=doB L.length a x (T.map Bx.l):=by
       rw [List.map_set]; unfold doB; rw [hql]
      rw [e]; exact ⟨hpd,hR2⟩
 ·
  refine ⟨ts,tb,hs.at 1 rfl (o:=0) (n:=2) rfl,?_⟩
  refine hs.put 2 rfl (o:=0) (vs:=[.slice ts.a ts.n ts.c,.slice tb.a tb.n tb.c]) rfl (show 2<=2 by decide) fun h21 hs=>?_
  exact ⟨ts,tb,hs.at 2 rfl (o:=0) (n:=2) rfl,out,ts,tb,S,T,l,_,rfl,hs,hM.mono fun i hi=>Yn _ (Yn _ (Yn _ hi)),hP,Yx,hR,by omega⟩
end Go.VC
end

section
/- The law ComposePossible. (Numbers of layer 27's development dump.) -/
namespace Go.VC
open Go.Proofs Go.LexS
end Go.VC
end

section
/- Plain: possible steps of different roles commute; a greater capacity keeps steps possible. (Numbers of layer 27's development dump.) -/
namespace Go.VC
open Go.Proofs Go.LexS
theorem can_parts {n:Nat} {k:Int} {S:List Int} {BL:List (List Int)} {p:Nat} {x:Mv}:canS n k S BL p x=0 ↔ x.f=S.getD p 0/\(x.send=true->((BL.getD (bxI n p x) []).length:Int)<k)/\(x.send=false->∃ r,BL.getD (bxI n p x) []=x.label::r):=by
 unfold canS
 by_cases hf:x.f=S.getD p 0
 ·
  rw [if_neg (fun h=>h hf)]
  cases hs:x.send with
  | true=>
   rw [if_pos rfl]
   constructor
   ·
    intro h
    split at h
    ·
     exact absurd h (by decide)
    ·
     exact ⟨hf,fun _=>by omega,fun h=>by cases h⟩
   ·
    rintro ⟨_,h,_⟩
    rw [if_neg (by have:=h rfl; omega)]
  | false=>
   rw [if_neg (by decide)]
   cases hb:BL.getD (bxI n p x) [] with
   | nil=>
    refine ⟨fun h=>absurd h (show ¬ ((23:Int)=0) by decide),?_⟩
    rintro ⟨_,_,h⟩
    obtain ⟨r,h⟩:=h rfl
    cases h
   | cons a l=>
    dsimp only
    constructor
    ·
     intro h
     split at h
     ·
      exact absurd h (by decide)
     ·
      rename_i e
      exact ⟨hf,(fun h=>by cases h),fun _=>⟨l,by rw [Classical.not_not.1 e]⟩⟩
    ·
     rintro ⟨_,_,h⟩
     obtain ⟨r,h⟩:=h rfl
     cases h
     rw [if_neg (fun h=>h rfl)]
 ·
  rw [if_pos hf]
  exact ⟨fun h=>absurd h (show ¬ ((7:Int)=0) by decide),fun h=>absurd h.1 hf⟩
theorem getD_set_ne {α:Type} {l:List α} {i j:Nat} {a d:α} (h:i ≠ j):(l.set i a).getD j d=l.getD j d:=by
 rw [Yo,Yo,Yy h]
theorem getD_set_self {α:Type} {l:List α} {i:Nat} {a d:α} (h:i<l.length):(l.set i a).getD i d=a:=by
 rw [Yo,Yq h]; rfl
end Go.VC
end

section
/- Plain: what was received from a peer, followed by what is in the box, is what the peer has sent. (Numbers of layer 27's development dump.) -/
namespace Go.VC
open Go.Proofs Go.LexS
abbrev Ev4:=Int × Bool × Int × Int
def evO (L:List Mch) (q:Nat × Nat):Ev4:=match mvO L (q.1:Int) (q.2:Int) with
 | some x=>((q.1:Int),x.send,x.peer,x.label)
 | none=>ev00
def histP (L:List Mch) (X:List (Nat × Nat)) (p:Nat):List Ev4:=(X.filter fun z=>z.1 == p).map (evO L)
def sentL (H:List Ev4) (q:Nat):List Int:=(H.filter fun e=>e.2.1 && e.2.2.1 == (q:Int)).map fun e=>e.2.2.2
def gotL (H:List Ev4) (p:Nat):List Int:=(H.filter fun e=>!e.2.1 && e.2.2.1 == (p:Int)).map fun e=>e.2.2.2
theorem histP_snoc {L:List Mch} {X:List (Nat × Nat)} {z:Nat × Nat} {p:Nat}:histP L (X++[z]) p=histP L X p++(if z.1=p then [evO L z] else []):=by
 unfold histP
 rw [List.filter_append,Ym]
 by_cases h:z.1=p
 ·
  rw [if_pos h]; simp [List.filter,h]
 ·
  have hb:(z.1 == p)=false:=beq_eq_false_iff_ne.2 h
  rw [if_neg h]; simp [List.filter,hb]
theorem sentL_snoc {H:List Ev4} {e:Ev4} {q:Nat}:sentL (H++[e]) q=sentL H q++(if e.2.1=true/\e.2.2.1=(q:Int) then [e.2.2.2] else []):=by
 unfold sentL
 rw [List.filter_append,Ym]
 by_cases h:e.2.1=true/\e.2.2.1=(q:Int)
 ·
  rw [if_pos h]; simp [List.filter,h.1,h.2]
 ·
  rw [if_neg h]
  have:(e.2.1 && e.2.2.1 == (q:Int))=false:=by
   rw [Bool.and_eq_false_iff]
   by_cases h1:e.2.1=true
   ·
    exact .inr (beq_eq_false_iff_ne.2 fun h2=>h ⟨h1,h2⟩)
   ·
    exact .inl (by simpa using h1)
  simp [List.filter,this]
theorem gotL_snoc {H:List Ev4} {e:Ev4} {p:Nat}:gotL (H++[e]) p=gotL H p++(if e.2.1=false/\e.2.2.1=(p:Int) then [e.2.2.2] else []):=by
 unfold gotL
 rw [List.filter_append,Ym]
 by_cases h:e.2.1=false/\e.2.2.1=(p:Int)
 ·
  rw [if_pos h]; simp [List.filter,h.1,h.2]
 ·
  rw [if_neg h]
  have:(!e.2.1 && e.2.2.1 == (p:Int))=false:=by
   rw [Bool.and_eq_false_iff]
   by_cases h1:e.2.1=false
   ·
    exact .inr (beq_eq_false_iff_ne.2 fun h2=>h ⟨h1,h2⟩)
   ·
    exact .inl (by simpa using h1)
  simp [List.filter,this]
theorem runS_nil {L:List Mch} {k:Int}:runS L k []=some (startS L,(List.replicate (L.length*L.length) bx0).map Bx.l):=rfl
theorem runS_pre {L:List Mch} {k:Int} {X:List (Nat × Nat)}:∀ {Y:List (Nat × Nat)} {c:List Int × List (List Int)},runS L k (X++Y)=some c->∃ c',runS L k X=some c':=by
 intro Y c h
 unfold runS at h ⊢
 rw [List.foldl_append] at h
 generalize hz:X.foldl (fun o q=>o.bind fun c=>stpS L k c q) (some (startS L,(List.replicate (L.length*L.length) bx0).map Bx.l))=z at *
 cases z with
 | some c'=>exact ⟨c',rfl⟩
 | none=>
  exfalso
  have key:∀ Y:List (Nat × Nat),Y.foldl (fun (o:Option (List Int × List (List Int))) q=>o.bind fun c=>stpS L k c q) none=none:=by
   intro Y
   induction Y with
   | nil=>rfl
   | cons a Y ih=>exact ih
  rw [key] at h
  cases h
theorem stpS_inv {L:List Mch} {k:Int} {S:List Int} {BL:List (List Int)} {q:Nat × Nat} {c:List Int × List (List Int)} (hP:ProS L k S BL) (h:stpS L k (S,BL) q=some c):∃ m x,L[q.1]?=some m/\m.mv[q.2]?=some x/\canS L.length k S BL q.1 x=0/\c=(S.set q.1 x.t,doB L.length q.1 x BL):=by
 obtain ⟨a,b⟩:=q
 unfold stpS at h
 split at h
 ·
  rename_i h0
  have h1:∃ x,mvO L (a:Int) (b:Int)=some x:=by
   cases hm:mvO L (a:Int) (b:Int) with
   | some x=>exact ⟨x,rfl⟩
   | none=>
    exfalso
    have:doS L k S BL (a:Int) (b:Int)=(2,[],[]):=by unfold doS; rw [if_pos hP,hm]
    dsimp only at h0
    rw [this] at h0
    exact absurd h0 (by decide)
  obtain ⟨x,hx⟩:=h1
  have hx2:=hx
  unfold mvO at hx2
  have ha:a<L.length:=Classical.byContradiction fun hn=>by rw [if_pos (by omega)] at hx2; cases hx2
  rw [if_neg (by omega),Ys] at hx2
  cases gm:L[a]? with
  | none=>rw [gm] at hx2; cases hx2
  | some m=>
   rw [gm] at hx2
   dsimp only at hx2
   have hb:b<m.mv.length:=Classical.byContradiction fun hn=>by rw [if_pos (by omega)] at hx2; cases hx2
   rw [if_neg (by omega),Ys] at hx2
   have hd:=doS_at hP gm hx2
   dsimp only at h0 h
   rw [hd] at h0 h
   split at h0
   ·
    rename_i hc
    rw [if_pos hc] at h
    exact ⟨m,x,rfl,hx2,hc,(Yyp h).symm⟩
   ·
    rename_i hc
    exact absurd h0 hc
 ·
  cases h
theorem mvO_at {L:List Mch} {a b:Nat} {m:Mch} {x:Mv} (gm:L[a]?=some m) (gx:m.mv[b]?=some x):mvO L (a:Int) (b:Int)=some x:=by
 have ha:=(Ya.1 gm).1
 have hb:=(Ya.1 gx).1
 unfold mvO
 rw [if_neg (by omega),Ys,gm]
 dsimp only
 rw [if_neg (by omega),Ys,gx]
theorem order_law {L:List Mch} {k:Int} (hV:SysV L) (hk:1<=k/\k<=4):∀ (n:Nat) (X:List (Nat × Nat)) (S:List Int) (BL:List (List Int)),X.length=n->runS L k X=some (S,BL) ->
  ProS L k S BL/\∀ p q,p<L.length->q<L.length->p ≠ q->gotL (histP L X q) p++BL.getD (L.length*p+q) []=sentL (histP L X p) q
 | 0,X,S,BL,hn,hr=>by
  obtain rfl:=List.eq_nil_of_length_eq_zero hn
  rw [runS_nil] at hr
  cases hr
  refine ⟨xpro_start hV hk,fun p q hp hq hpq=>?_⟩
  show []++_=[]
  rw [List.nil_append,Yo,Yd,List.getElem?_replicate]
  split <;> rfl
 | n+1,X,S,BL,hn,hr=>by
  rcases List.eq_nil_or_concat X with rfl | ⟨Y,z,rfl⟩
  ·
   cases hn
  ·
   rw [List.concat_eq_append] at hr hn ⊢
   rw [runS_snoc] at hr
   cases hy:runS L k Y with
   | none=>rw [hy] at hr; cases hr
   | some c=>
    obtain ⟨S',BL'⟩:=c
    rw [hy] at hr
    obtain ⟨hP,ih⟩:=order_law hV hk n Y S' BL' (by rw [Yh,Yv] at hn; omega) hy
    obtain ⟨m,x,gm,gx,hc,e⟩:=stpS_inv hP hr
    cases e
    obtain ⟨a,b⟩:=z
    dsimp only at gm gx hc ⊢
    have hxm:=Yb gx
    have hvm:=hV.m a m gm
    have ha:=(Ya.1 gm).1
    have hx0:=(hvm.2.1.n.mv x hxm).2.2.2.2.1
    have hx1:=hvm.2.2 x hxm
    have hxr:=(hvm.2.1.n.mv x hxm).2.2.2.2.2.2.1
    rw [hvm.1] at hxr
    have hev:evO L (a,b)=((a:Int),x.send,x.peer,x.label):=by unfold evO; rw [mvO_at gm gx]
    refine ⟨pro_do hP gm hxm hc,fun p q hp hq hpq=>?_⟩
    have hi:=ih p q hp hq hpq
    obtain ⟨_,cb,cc⟩:=can_parts.1 hc
    have hbl:=hP.p.b
    have hbi:=bxI_lt (n:=L.length) (x:=x) ha hx0 hx1
    rw [histP_snoc,histP_snoc,hev]
    dsimp only
    cases hs:x.send with
    | true=>
     have hg:gotL (histP L Y q++(if a=q then [((a:Int),true,x.peer,x.label)] else [])) p=gotL (histP L Y q) p:=by
      by_cases e:a=q
      ·
       rw [if_pos e,gotL_snoc,if_neg (fun h=>by cases h.1),Yw]
      ·
       rw [if_neg e,Yw]
     rw [hg]
     have hbx:bxI L.length a x=L.length*a+x.peer.toNat:=by unfold bxI; rw [if_pos hs]
     by_cases e:a=p/\x.peer=(q:Int)
     ·
      obtain ⟨rfl,e2⟩:=e
      have e3:x.peer.toNat=q:=by omega
      rw [if_pos rfl,sentL_snoc,if_pos ⟨rfl,e2⟩,<- hi]
      unfold doB
      rw [hbx,e3,getD_set_self (by rw [hbl,<- e3,<- hbx]; exact hbi),if_pos hs,Yz]
     ·
      have hse:sentL (histP L Y p++(if a=p then [((a:Int),true,x.peer,x.label)] else [])) q=sentL (histP L Y p) q:=by
       by_cases e1:a=p
       ·
        rw [if_pos e1,sentL_snoc,if_neg (fun h=>e ⟨e1,h.2⟩),Yw]
       ·
        rw [if_neg e1,Yw]
      rw [hse,<- hi]
      unfold doB
      rw [getD_set_ne]
      intro h
      rw [hbx] at h
      obtain ⟨h1,h2⟩:=divmod_two (n:=L.length) (a:=a) (b:=x.peer.toNat) (by omega)
      obtain ⟨h3,h4⟩:=divmod_two (n:=L.length) (a:=p) (b:=q) hq
      rw [h] at h1 h2
      exact e ⟨by omega,by omega⟩
    | false=>
     have hse:sentL (histP L Y p++(if a=p then [((a:Int),false,x.peer,x.label)] else [])) q=sentL (histP L Y p) q:=by
      by_cases e:a=p
      ·
       rw [if_pos e,sentL_snoc,if_neg (fun h=>by cases h.1),Yw]
      ·
       rw [if_neg e,Yw]
     rw [hse]
     have hbx:bxI L.length a x=L.length*x.peer.toNat+a:=by unfold bxI; rw [if_neg (by rw [hs]; decide)]
     obtain ⟨r,hr2⟩:=cc hs
     by_cases e:a=q/\x.peer=(p:Int)
     ·
      obtain ⟨rfl,e2⟩:=e
      have e3:x.peer.toNat=p:=by omega
      rw [if_pos rfl,gotL_snoc,if_pos ⟨rfl,e2⟩,<- hi]
      unfold doB
      rw [hbx,e3] at hr2 ⊢
      rw [getD_set_self (by rw [hbl,<- e3,<- hbx]; exact hbi),if_neg (by rw [hs]; decide),hr2,Yz]
      rfl
     ·
      have hg:gotL (histP L Y q++(if a=q then [((a:Int),false,x.peer,x.label)] else [])) p=gotL (histP L Y q) p:=by
       by_cases e1:a=q
       ·
        rw [if_pos e1,gotL_snoc,if_neg (fun h=>e ⟨e1,h.2⟩),Yw]
       ·
        rw [if_neg e1,Yw]
      rw [hg,<- hi]
      unfold doB
      rw [getD_set_ne]
      intro h
      rw [hbx] at h
      obtain ⟨h1,h2⟩:=divmod_two (n:=L.length) (a:=x.peer.toNat) (b:=a) ha
      obtain ⟨h3,h4⟩:=divmod_two (n:=L.length) (a:=p) (b:=q) hq
      rw [h] at h1 h2
      exact e ⟨by omega,by omega⟩
end Go.VC
end

section
namespace Go.VC
open Go.Proofs

def W33 (p0 p1:Sl) (h:Heap) (R:Value->Heap->Prop):Prop:=
 (Fn Pz 22 #[vS p0] h
 (fun v1 h3=>∃ x2,iB v1 x2 /\
 (sB (!x2)
 (R (.tuple ⟨[.slice none 0 0,vI 1]⟩) h3)
 ((((0:Int)<=(p0.n:Int)/\((p0.n:Int):Int)<=(p0.n:Int)/\((24:Nat):Int)*(p0.n:Int)<=140737488355328)/\Wn h3 (madeL Pz 76 (Int.toNat (p0.n:Int))) 76 fun h4=>
 (QI 0 h4 fun I5 x_8 h9 m7=>(
 (sB (decide (x_8<(p1.n:Int)))
 ((NB p1.a fun b10 o11=>(Ib x_8 p1.n /\
 (∃ (x12 x13:Int),atC h9 ⟨b10,o11+Int.toNat x_8*2,none⟩ [vI x12,vI x13] /\
 (Wn h9 [vI 0,vI 0] 57 fun h14=>
 (Wp h14 (aS h9 0) 2 [vI x12,vI x13] fun h15=>
 (∃ (x16 x17:Int),atC h15 (aS h9 0) [vI x16,vI x17] /\
 (Fn Pz 57 #[vS p0,.agg ⟨[vI x16,vI x17]⟩] h15
 (fun v18 h26=>∃ (x19:Int) (x20:Bool) (x21 x22 x23:Int) (x24 x25:Bool),v18=.tuple ⟨[.agg ⟨(L0 x19 x20 x21 x22 x23 x24)⟩,.bool x25]⟩ /\
 (Wn h26 [vI 0,.bool false,vI 0,vI 0,vI 0,.bool false] 108 fun h27=>
 (Wp h27 (aS h26 0) 6 (L0 x19 x20 x21 x22 x23 x24) fun h28=>
 (sB (!x25)
 (R (.tuple ⟨[.slice none 0 0,vI 2]⟩) h28)
 ((∃ x29,rI h28 (aS h9 0) x29 /\
 (∃ x30,rI h28 (aS h9 0) x30 /\
 ((0<=(x30:Int)/\(x30:Int)<((Int.toNat (p0.n:Int)):Nat)) /\
 (∃ x31,rS h28 (aS h3 (0+Int.toNat x30*1)) x31 /\
 (∃ x32,rI h28 (aS h9 0) x32 /\
 (∃ x33 x34 x35 x36 x37 x38,aL0 h28 (aS h26 0) x33 x34 x35 x36 x37 x38 /\
 (Fn Pz 62 #[vI x32,.agg ⟨(L0 x33 x34 x35 x36 x37 x38)⟩] h28
 (fun v39 h45=>∃ (x40:Int) (x41:Bool) (x42 x43:Int) (x44:Sl),v39=.agg ⟨(L7 x40 x41 x42 x43 x44)⟩ /\
 (Sm [(aS h3 (0+Int.toNat x30*1)),(aS h9 0),(aS h9 0)] h28 h45 /\
 (Wn h45 (L7 x40 x41 x42 x43 x44) 66 fun h46=>
 (Sm [(aS h3 (0+Int.toNat x30*1)),(aS h9 0),(aS h9 0)] h45 h46 /\
 (App Pz 76 76 (vS x31) (.slice (some (aS h45 0)) 1 1) h46 fun s47 h48=>
 (Sm [(aS h9 0)] h46 h48 /\
 ((0<=(x29:Int)/\(x29:Int)<((Int.toNat (p0.n:Int)):Nat)) /\
 (Wp h48 (aS h3 (0+Int.toNat x29*1)) 1 [vS s47] fun h49=>
 (∃ m50,m50<m7/\I5 (IntKind.wrap .i64 (x_8+1)) h49 m50)))))))))))))))))))))))))))))
 (R (.tuple ⟨[.slice (some (aS h3 0)) (Int.toNat (p0.n:Int)) (Int.toNat (p0.n:Int)),vI 0]⟩) h9)))))))))
theorem vc33 (p0 p1:Sl) (h:Heap) (R:Value->Heap->Prop) (H:W33 p0 p1 h R):Fn Pz 33 #[vS p0,vS p1] h R:=fnI (A:=(.s .z (.s .z (.s .z (.s (.s .z (.b (.l [(19,.one (.int .i64))] .z))) .z))))) (by kernel_rfl) H

def W7 (p0:Sl) (p1:Int) (p2:Sl) (h:Heap) (R:Value->Heap->Prop):Prop:=
 (Fn Pz 12 #[] h
 (fun v1 h3=>∃ x2,iB v1 x2 /\
 (sB (!x2)
 (R (.bool false) h3)
 ((Fn Pz 13 #[vS p0,.agg ⟨[.slice none 0 0,.slice none 0 0]⟩] h3
 (fun v4 h6=>∃ x5,iB v4 x5 /\
 (sB (!x5)
 (R (.bool true) h6)
 ((Fn Pz 23 #[vS p0] h6
 (fun v7 h9=>∃ x8,iB v7 x8 /\
 (sB (!x8)
 (R (.bool true) h9)
 ((sB (decide ((p2.n:Int) > 40))
 (R (.bool true) h9)
 (((4:Int) ≠ 0/\(Fn Pz 26 #[vS p0,vI (IntKind.wrap .i64 (1+(Int.tmod (IntKind.wrap .i64 p1) 4))),vS p2] h9
 (fun v10 h14=>∃ (x11 x12 x13:Sl),v10=.tuple ⟨[vS x11,.agg ⟨[vS x12,vS x13]⟩]⟩ /\
 (Wn h14 [.slice none 0 0,.slice none 0 0] 26 fun h15=>
 (Wp h15 (aS h14 0) 2 [vS x12,vS x13] fun h16=>
 (Fn Pz 14 #[vS p0] h16
 (fun v17 h21=>∃ (x18 x19:Sl) (x20:Int),v17=.tuple ⟨[.agg ⟨[vS x18,vS x19]⟩,vI x20]⟩ /\
 (Wn h21 [.slice none 0 0,.slice none 0 0] 29 fun h22=>
 (Wp h22 (aS h21 0) 2 [vS x18,vS x19] fun h23=>
 (sB (x20 != 0)
 (R (.bool false) h23)
 ((QSI ⟨none,0,0⟩ 0 h23 fun I24 l_27 x_28 h29 m26=>(
 (sB (decide (x_28<(x11.n:Int)))
 ((NB x11.a fun b30 o31=>(Ib x_28 x11.n /\
 (∃ (x32 x33:Int),atC h29 ⟨b30,o31+Int.toNat x_28*2,none⟩ [vI x32,vI x33] /\
 (Wn h29 [vI 0,vI 0] 60 fun h34=>
 (Wp h34 (aS h29 0) 2 [vI x32,vI x33] fun h35=>
 (∃ (x36 x37:Sl),atC h35 (aS h21 0) [vS x36,vS x37] /\
 (∃ (x38 x39:Int),atC h35 (aS h29 0) [vI x38,vI x39] /\
 (Fn Pz 27 #[vS p0,vI (IntKind.wrap .i64 (1+(Int.tmod (IntKind.wrap .i64 p1) 4))),.agg ⟨[vS x36,vS x37]⟩,.agg ⟨[vI x38,vI x39]⟩] h35
 (fun v40 h44=>∃ (x41 x42:Sl) (x43:Int),v40=.tuple ⟨[.agg ⟨[vS x41,vS x42]⟩,vI x43]⟩ /\
 (Wn h44 [.slice none 0 0,.slice none 0 0] 29 fun h45=>
 (Wp h45 (aS h44 0) 2 [vS x41,vS x42] fun h46=>
 (sB (x43 != 0)
 (R (.bool false) h46)
 ((∃ (x47 x48:Sl),atC h46 (aS h44 0) [vS x47,vS x48] /\
 (∃ (x49 x50:Int),atC h46 (aS h29 0) [vI x49,vI x50] /\
 (Wn h46 [vI x49,vI x50] 57 fun h51=>
 (Sm [(aS h44 0)] h46 h51 /\
 (App Pz 35 35 (vS l_27) (.slice (some (aS h46 0)) 1 1) h51 fun s52 h53=>
 (Sm [(aS h44 0)] h51 h53 /\
 (Wp h53 (aS h21 0) 2 [vS x47,vS x48] fun h54=>
 (Sm [(aS h29 0)] h53 h54 /\
 (∃ m55,m55<m26/\I24 s52 (IntKind.wrap .i64 (x_28+1)) h54 m55)))))))))))))))))))))))
 ((Fn Pz 33 #[vS p0,vS l_27] h29
 (fun v56 h59=>∃ (x57:Sl) (x58:Int),v56=.tuple ⟨[vS x57,vI x58]⟩ /\
 (sB (x58 != 0)
 (R (.bool false) h59)
 ((sB ((x57.n:Int) != (p0.n:Int))
 (R (.bool false) h59)
 ((∃ (x60 x61:Sl),atC h59 (aS h21 0) [vS x60,vS x61] /\
 (Fn Pz 24 #[vS p0,vI (IntKind.wrap .i64 (1+(Int.tmod (IntKind.wrap .i64 p1) 4))),.agg ⟨[vS x60,vS x61]⟩] h59
 (fun v62 h64=>∃ x63,iB v62 x63 /\
 (sB (!x63)
 (R (.bool false) h64)
 ((QI 0 h64 fun I65 x_68 h69 m67=>(
 (sB (decide (x_68<(p0.n:Int)))
 ((QI 0 h69 fun I70 x_73 h74 m72=>(
 (sB (decide (x_73<(p0.n:Int)))
 ((NB x57.a fun b75 o76=>(Ib x_68 x57.n /\
 (∃ x77,rS h74 ⟨b75,o76+Int.toNat x_68*1,none⟩ x77 /\
 (QSI ⟨none,0,0⟩ 0 h74 fun I78 sent_81 x_82 h83 m80=>(
 (sB (decide (x_82<(x77.n:Int)))
 ((NB x77.a fun b84 o85=>(Ib x_82 x77.n /\
 (∃ x86 x87 x88 x89 x90,aL7 h83 ⟨b84,o85+Int.toNat x_82*5,none⟩ x86 x87 x88 x89 x90 /\
 (Wn h83 [vI 0,.bool false,vI 0,vI 0,.slice none 0 0] 66 fun h91=>
 (Wp h91 (aS h83 0) 5 (L7 x86 x87 x88 x89 x90) fun h92=>
 (∃ x93,rB h92 (aS h83 1) x93 /\
 (sB x93
 ((∃ x94,rI h92 (aS h83 2) x94 /\
 (sB (x94 == x_73)
 ((∃ x95,rI h92 (aS h83 3) x95 /\
 (Wn h92 [vI x95] 3 fun h96=>
 (App Pz 23 23 (vS sent_81) (.slice (some (aS h92 0)) 1 1) h96 fun s97 h98=>
 (∃ m99,m99<m80/\I78 s97 (IntKind.wrap .i64 (x_82+1)) h98 m99)))))
 ((∃ m100,m100<m80/\I78 sent_81 (IntKind.wrap .i64 (x_82+1)) h92 m100)))))
 ((∃ m101,m101<m80/\I78 sent_81 (IntKind.wrap .i64 (x_82+1)) h92 m101))))))))))
 ((NB x57.a fun b102 o103=>(Ib x_73 x57.n /\
 (∃ x104,rS h83 ⟨b102,o103+Int.toNat x_73*1,none⟩ x104 /\
 (QSI ⟨none,0,0⟩ 0 h83 fun I105 got_108 x_109 h110 m107=>(
 (sB (decide (x_109<(x104.n:Int)))
 ((NB x104.a fun b111 o112=>(Ib x_109 x104.n /\
 (∃ x113 x114 x115 x116 x117,aL7 h110 ⟨b111,o112+Int.toNat x_109*5,none⟩ x113 x114 x115 x116 x117 /\
 (Wn h110 [vI 0,.bool false,vI 0,vI 0,.slice none 0 0] 66 fun h118=>
 (Wp h118 (aS h110 0) 5 (L7 x113 x114 x115 x116 x117) fun h119=>
 (∃ x120,rB h119 (aS h110 1) x120 /\
 (sB (!x120)
 ((∃ x121,rI h119 (aS h110 2) x121 /\
 (sB (x121 == x_68)
 ((∃ x122,rI h119 (aS h110 3) x122 /\
 (Wn h119 [vI x122] 3 fun h123=>
 (App Pz 23 23 (vS got_108) (.slice (some (aS h119 0)) 1 1) h123 fun s124 h125=>
 (∃ m126,m126<m107/\I105 s124 (IntKind.wrap .i64 (x_109+1)) h125 m126)))))
 ((∃ m127,m127<m107/\I105 got_108 (IntKind.wrap .i64 (x_109+1)) h119 m127)))))
 ((∃ m128,m128<m107/\I105 got_108 (IntKind.wrap .i64 (x_109+1)) h119 m128))))))))))
 ((sB (x_68 != x_73)
 ((∃ x129,rS h110 (aS h21 1) x129 /\
 (NB x129.a fun b130 o131=>((0<=((IntKind.wrap .i64 ((IntKind.wrap .i64 ((p0.n:Int)*x_68))+x_73)):Int)/\((IntKind.wrap .i64 ((IntKind.wrap .i64 ((p0.n:Int)*x_68))+x_73)):Int)<(x129.n:Nat)) /\
 (∃ x132,rS h110 ⟨b130,o131+Int.toNat (IntKind.wrap .i64 ((IntKind.wrap .i64 ((p0.n:Int)*x_68))+x_73))*1,none⟩ x132 /\
 (App Pz 23 23 (vS got_108) (vS x132) h110 fun s133 h134=>
 (Fn Pz 34 #[vS s133,vS sent_81] h134
 (fun v135 h137=>∃ x136,iB v135 x136 /\
 (sB (!x136)
 (R (.bool false) h137)
 ((∃ m138,m138<m72/\I70 (IntKind.wrap .i64 (x_73+1)) h137 m138)))))))))))
 ((∃ m139,m139<m72/\I70 (IntKind.wrap .i64 (x_73+1)) h110 m139))))))))))))))))))
 ((∃ m140,m140<m67/\I65 (IntKind.wrap .i64 (x_68+1)) h74 m140))))))
 (R (.bool true) h69))))))))))))))))))))))))))))))))))))))))))))
theorem vc7 (p0:Sl) (p1:Int) (p2:Sl) (h:Heap) (R:Value->Heap->Prop) (H:W7 p0 p1 p2 h R):Fn Pz 7 #[vS p0,.int .u8 p1,vS p2] h R:=fnI (A:=(.s .z (.s .z (.s .z (.s .z (.s .z (.s .z (.s .z (.s .z (.s (.s .z (.b (.l [(12,.one (.slice)),(63,.one (.int .i64))] .z))) (.s .z (.s .z (.s (.s .z (.b (.l [(107,.one (.int .i64))] (.s .z (.s .z (.s (.b (.s .z (.s .z (.b (.l [(112,.one (.int .i64))] (.s .z (.s .z (.s (.b (.s .z (.s .z (.s (.s .z (.b (.l [(21,.one (.slice)),(120,.one (.int .i64))] .z))) (.s (.s .z (.b (.l [(22,.one (.slice)),(143,.one (.int .i64))] .z))) .z))))) .z)))))))) .z)))))) .z))))))))))))) (by kernel_rfl) H

end Go.VC
end

section
/- Contract: Histories. (Numbers of layer 27's development dump.) -/
namespace Go.VC
open Go.Proofs Go.LexS
structure HB where
 s:Sl
 l:List Ev4
def HB.v (q:HB):Value:=.slice q.s.a q.s.n q.s.c
def HB.cs (q:HB):List Value:=[q.v]
def HB.it (q:HB):It:=.sl q.s 66 5 (q.l.map evC)
def hb0:HB:=⟨⟨none,0,0⟩,[]⟩
theorem made76 (n:Nat):madeL Pz 76 n=(List.replicate n hb0).map HB.v:=by
 have e:zeroC Pz 76=[.slice none 0 0]:=by kernel_rfl
 unfold madeL
 rw [e,List.map_replicate]
 induction n with
 | zero=>rfl
 | succ n ih=>rw [List.replicate_succ,List.replicate_succ,Yyu,ih]; rfl
theorem app76:appB Pz 76 66 5 56=true:=by kernel_rfl
theorem St.nils {h0 h:Heap} {L:List It} (hs:St h0 h L):∀ n,St h0 h ((List.replicate n hb0).map HB.it++L)
 | 0=>hs
 | n+1=>(St.nils hs n).nil_ 66 5
theorem at_q {T R:List It} {Q:List HB} {a:Nat} {q:HB} (h:Q[a]?=some q):(T++(Q.map HB.it++R))[a+T.length]?=some q.it:=by
 have ha:=(Ya.1 h).1
 rw [Yyc (by omega),Nat.add_sub_cancel,Yyi (by rw [Yc]; exact ha),Yd,h]; rfl
theorem at_r {T R:List It} {Q:List HB} {r:It}:(T++(Q.map HB.it++r::R))[Q.length+T.length]?=some r:=by
 rw [Yyc (by omega),Nat.add_sub_cancel,Yyc (by rw [Yc]; exact Yyt _),Yc,Nat.sub_self]; rfl
theorem set_q {T R:List It} {Q:List HB} {a:Nat} {q:HB} (h:a<Q.length):(T++(Q.map HB.it++R)).set (a+T.length) q.it=T++((Q.set a q).map HB.it++R):=by
 rw [List.set_append_right _ _ (by omega),Nat.add_sub_cancel,List.set_append_left _ _ (by rw [Yc]; exact h),List.map_set]
theorem set_r {T R:List It} {Q:List HB} {r r':It}:(T++(Q.map HB.it++r::R)).set (Q.length+T.length) r'=T++(Q.map HB.it++r'::R):=by
 rw [List.set_append_right _ _ (by omega),Nat.add_sub_cancel,List.set_append_right _ _ (by rw [Yc]; exact Yyt _),Yc,Nat.sub_self]; rfl
theorem histP_len {L:List Mch} {X:List (Nat × Nat)} {p:Nat}:(histP L X p).length<=X.length:=by
 unfold histP
 rw [Yc]; exact List.length_filter_le _ _
set_option maxHeartbeats 3200000 in
theorem hist33 (L:List MR) (s:Sl) (X:List (Nat × Nat)) (xs:Sl) (h:Heap) (hS:SyI h s L) (hV:SysV (L.map MR.m)) (hX:RL h 2 xs stpC X) (hXm:∀ z ∈ X,∃ m x,(L.map MR.m)[z.1]?=some m/\m.mv[z.2]?=some x) :
  Fn Pz 33 #[.slice s.a s.n s.c,.slice xs.a xs.n xs.c] h fun v h'=>Ext h h'/\∃ (hn:Sl) (Q:List HB),v=.tuple ⟨[.slice hn.a hn.n hn.c,.int .i64 0]⟩/\Rw h' 1 hn (Q.map HB.cs)/\Q.length=L.length/\(∀ (p:Nat) q,Q[p]?=some q->Rw h' 5 q.s (q.l.map evC)/\q.l=histP (L.map MR.m) X p):=by
 apply vc33 s xs; unfold W33
 have hn:=hS.r.ln
 have hsm:=hS.r.sm
 have hxn:=hX.ln
 have hxm:=hX.sm
 have hlm:(L.map MR.m).length=L.length:=Yc _
 refine (valid22 L s h hS).mono ?_
 rintro _ h3 ⟨⟨b,rfl,hb⟩,E3⟩
 refine ⟨b,rfl,sB_f (by rw [hb.2 hV]; rfl) ⟨⟨by omega,by omega,by omega⟩,?_⟩⟩
 rw [Ys,made76]
 refine ((St.refl h).step E3).newb fun h4 hs=>?_
 have hs:=hs.nils s.n
 refine ⟨fun x h' μ=>∃ (i:Nat) (Q:List HB),x=(i:Int)/\μ=X.length - i/\i<=X.length/\Q.length=s.n/\St h h' (Q.map HB.it++[.blk h3.size (Q.map HB.v) 76])/\(∀ (p:Nat) q,Q[p]?=some q->q.l=histP (L.map MR.m) (X.take i) p),⟨_,0,List.replicate s.n hb0,rfl,rfl,Nat.zero_le _,Yg,hs,fun p q hq=>?_⟩,?_⟩
 ·
  have:=List.eq_of_mem_replicate (Yb hq)
  rw [this]; rfl
 clear hs
 rintro - _ h9 μ ⟨i,Q,rfl,rfl,hi,hQ,hs,hq⟩
 refine sBi (fun c1=>?_) (fun c1=>?_)
 ·
  obtain ⟨⟨a,b⟩,gz⟩:=get_some (l:=X) (i:=i) (by omega)
  obtain ⟨m,x,gm,gx⟩:=hXm _ (Yb gz)
  have ha:a<s.n:=by have:=(Ya.1 gm).1; omega
  have hmo:=mvO_at gm gx
  have hev:evO (L.map MR.m) (a,b)=((a:Int),x.send,x.peer,x.label):=by unfold evO; rw [hmo]
  refine (hX.rw.ext hs.ext).nbI (by omega) (by omega) fun b10 o11 z gz' t=>?_
  rw [Ys,gz] at gz'; cases gz'
  refine ⟨(a:Int),(b:Int),t,?_⟩
  refine hs.newput (vs:=[.int .i64 (a:Int),.int .i64 (b:Int)]) rfl rfl fun h15 hs=>?_
  refine ⟨(a:Int),(b:Int),hs.at 0 rfl (o:=0) (n:=2) rfl,?_⟩
  refine (move57 L s (a:Int) (b:Int) h15 (hS.ext hs.ext)).mono ?_
  rintro _ h26 ⟨rfl,E⟩
  have hs:=hs.step E
  refine ⟨x.f,x.send,x.peer,x.label,x.t,x.ag,true,by rw [hmo]; rfl,?_⟩
  refine hs.newput (vs:=x.cs) rfl rfl fun h28 hs=>sB_f rfl ?_
  obtain ⟨q,gq⟩:=get_some (l:=Q) (i:=a) (by omega)
  have hql:=hq a q gq
  have hqn:q.l.length<=i:=by
   rw [hql]
   refine Yys histP_len ?_
   rw [Yu]; omega
  have e1:0+Int.toNat (a:Int)*1=a:=by omega
  have hgs:=hs.get (k:=a+2) (at_q (T:=[.blk h26.size x.cs 108,.blk h9.size [.int .i64 (a:Int),.int .i64 (b:Int)] 57]) gq)
  refine ⟨(a:Int),hs.rd 1 rfl (i:=0) rfl,(a:Int),hs.rd 1 rfl (i:=0) rfl,⟨by omega,by omega⟩,?_⟩
  rw [e1]
  refine ⟨q.s,hs.rd (Q.length+2) (at_r (T:=[_,_])) (i:=a) (by rw [Yd,gq]; rfl),(a:Int),hs.rd 1 rfl (i:=0) rfl,x.f,x.send,x.peer,x.label,x.t,x.ag,hs.at 0 rfl (o:=0) (n:=6) rfl,?_⟩
  refine (event62 (a:Int) x h28).mono ?_
  rintro _ h45 ⟨rfl,E⟩
  have hs:=hs.step E
  refine ⟨_,_,_,_,⟨none,0,0⟩,rfl,E.sm,?_⟩
  refine hs.newbE fun h46 E46 hs=>⟨E46.sm,?_⟩
  have hs46:=hs
  have gq3:=at_q (T:=[.blk h45.size (evC ((a:Int),x.send,x.peer,x.label)) 66,.blk h26.size x.cs 108,.blk h9.size [.int .i64 (a:Int),.int .i64 (b:Int)] 57]) (R:=[.blk h3.size (Q.map HB.v) 76]) gq
  have hqs:=(hs.len (a+3) (s:=q.s) (e:=66) (n:=5) (rows:=q.l.map evC) gq3 (by omega)).1
  rw [Yc] at hqs
  refine hs.appended (a+3) (s:=q.s) (n:=5) (rows:=q.l.map evC) gq3 app76 (m:=1) (news:=[evC ((a:Int),x.send,x.peer,x.label)]) (hs.at 0 rfl (n:=5) rfl) rfl (by simp [evC]) rfl (by omega) (by simp only [maxLen]; omega) fun u h48 nr hs=>?_
  refine ⟨hs46.smbO hs 2 2 0 rfl rfl,⟨by omega,by omega⟩,?_⟩
  have hset:=set_q (T:=[.blk h45.size (evC ((a:Int),x.send,x.peer,x.label)) 66,.blk h26.size x.cs 108,.blk h9.size [.int .i64 (a:Int),.int .i64 (b:Int)] 57]) (R:=[.blk h3.size (Q.map HB.v) 76]) (Q:=Q) (a:=a) (q:=⟨u,q.l++[((a:Int),x.send,x.peer,x.label)]⟩) (by omega)
  have hs:St h h48 ([.blk h45.size (evC ((a:Int),x.send,x.peer,x.label)) 66,.blk h26.size x.cs 108,.blk h9.size [.int .i64 (a:Int),.int .i64 (b:Int)] 57]++((Q.set a ⟨u,q.l++[((a:Int),x.send,x.peer,x.label)]⟩).map HB.it++[.blk h3.size (Q.map HB.v) 76])):=by
   rw [<- hset]
   have e:HB.it ⟨u,q.l++[((a:Int),x.send,x.peer,x.label)]⟩=.sl u 66 5 (q.l.map evC++[evC ((a:Int),x.send,x.peer,x.label)]):=by
    unfold HB.it; rw [Ym]; rfl
   rw [e]; exact hs
  have hQl:(Q.set a ⟨u,q.l++[((a:Int),x.send,x.peer,x.label)]⟩).length=Q.length:=Yyh
  refine hs.put ((Q.set a ⟨u,q.l++[((a:Int),x.send,x.peer,x.label)]⟩).length+3) (at_r (T:=[_,_,_])) (o:=a) (vs:=[.slice u.a u.n u.c]) rfl (by rw [Yc,Yv]; omega) fun h49 hs=>?_
  have hset2:=set_r (T:=[.blk h45.size (evC ((a:Int),x.send,x.peer,x.label)) 66,.blk h26.size x.cs 108,.blk h9.size [.int .i64 (a:Int),.int .i64 (b:Int)] 57]) (R:=[]) (Q:=Q.set a ⟨u,q.l++[((a:Int),x.send,x.peer,x.label)]⟩) (r:=.blk h3.size (Q.map HB.v) 76) (r':=.blk h3.size ((Q.set a ⟨u,q.l++[((a:Int),x.send,x.peer,x.label)]⟩).map HB.v) 76)
  have hsp:splice (Q.map HB.v) a [.slice u.a u.n u.c]=(Q.set a ⟨u,q.l++[((a:Int),x.send,x.peer,x.label)]⟩).map HB.v:=map_splice HB.v (by omega) (⟨u,q.l++[((a:Int),x.send,x.peer,x.label)]⟩:HB)
  rw [hsp] at hs
  have hs:=(show St h h49 ([.blk h45.size (evC ((a:Int),x.send,x.peer,x.label)) 66,.blk h26.size x.cs 108,.blk h9.size [.int .i64 (a:Int),.int .i64 (b:Int)] 57]++((Q.set a ⟨u,q.l++[((a:Int),x.send,x.peer,x.label)]⟩).map HB.it++[.blk h3.size ((Q.set a ⟨u,q.l++[((a:Int),x.send,x.peer,x.label)]⟩).map HB.v) 76])) from hset2 ▸ hs).drop 3
  refine ⟨_,(show X.length - (i+1)<X.length - i by omega),i+1,Q.set a ⟨u,q.l++[((a:Int),x.send,x.peer,x.label)]⟩,by rw [w64 (by omega) (by omega)]; omega,rfl,by omega,by omega,hs,fun p q' hp=>?_⟩
  rw [take_snoc gz,histP_snoc,hev]
  dsimp only
  by_cases e:a=p
  ·
   subst e
   rw [Yq (by omega)] at hp
   cases hp
   rw [if_pos rfl,<- hql]
  ·
   rw [Yy e] at hp
   rw [if_neg e,Yw]
   exact hq p q' hp
 ·
  have hie:i=X.length:=by omega
  subst hie
  rw [Yye] at hq
  have hblk:=hs.get (k:=Q.length) (i:=.blk h3.size (Q.map HB.v) 76) (by rw [Yyc (by rw [Yc]; exact Yyt _),Yc,Nat.sub_self]; rfl)
  refine ⟨hs.ext,⟨some ⟨h3.size,0,none⟩,s.n,s.n⟩,Q,rfl,?_,by omega,fun p q gq=>⟨?_,hq p q gq⟩⟩
  ·
   refine ⟨by rw [Yc]; exact hQ.symm,fun _=>⟨h3.size,0,rfl,fun j r hj=>?_⟩⟩
   rw [Yd] at hj
   cases gq:Q[j]? with
   | none=>rw [gq] at hj; cases hj
   | some q=>
    rw [gq] at hj; cases hj
    refine Own.atC hblk fun j2 v hv=>?_
    cases j2 with
    | zero=>
     cases hv
     rw [Yd,show 0+j*1+0=j by omega,gq]; rfl
    | succ j2=>cases hv
  ·
   exact hs.rw p (s:=q.s) (e:=66) (n:=5) (rows:=q.l.map evC) (by
    have hp:=(Ya.1 gq).1
    rw [Yyi (by rw [Yc]; exact hp),Yd,gq]; rfl) (by omega)
end Go.VC
end

section
/- The law ComposePossible. (Numbers of layer 27's development dump.) -/
namespace Go.VC
open Go.Proofs Go.LexS
theorem room4 {p:Int} (h0:0<=p) (h1:p<256):1<=IntKind.wrap .i64 (1+Int.tmod (IntKind.wrap .i64 p) 4)/\IntKind.wrap .i64 (1+Int.tmod (IntKind.wrap .i64 p) 4)<=4:=by
 obtain ⟨n,rfl⟩:∃ n:Nat,p=(n:Int):=⟨p.toNat,by omega⟩
 rw [w8 h0 h1,show Int.tmod (n:Int) 4=((n % 4:Nat):Int) from tmod_nat n 4]
 have:n % 4<4:=Nat.mod_lt _ (by decide)
 rw [w64 (by omega) (by omega)]
 omega
end Go.VC
end

section
namespace Go.VC
open Go.Proofs

end Go.VC
end

section
/- Contracts: what a machine can still receive (the reference's awaited). (Numbers of layer 27's development dump.) -/
namespace Go.VC
open Go.Proofs Go.LexS
end Go.VC
end

section
namespace Go.VC
open Go.Proofs

end Go.VC
end

section
/- Contract: equality of configurations. (Numbers of layer 27's development dump.) -/
namespace Go.VC
open Go.Proofs Go.LexS
end Go.VC
end

section
namespace Go.VC
open Go.Proofs

end Go.VC
end

section
/- The law ComposeCommutes. (Numbers of layer 27's development dump.) -/
namespace Go.VC
open Go.Proofs Go.LexS
theorem doOk (L:List MR) (s:Sl) (k:Int) (ss sb:Sl) (S:List Int) (B:List Bx) (BL:List (List Int)) (a b:Nat) (m:Mch) (x:Mv) (h:Heap) (hS:SyI h s L) (hC:CfI h ss sb S B) (hB:B.map Bx.l=BL) (hP:ProS (L.map MR.m) k S BL) (gm:(L.map MR.m)[a]?=some m) (gx:m.mv[b]?=some x) (hc:canS (L.map MR.m).length k S BL a x=0) :
  Fn Pz 27 #[.slice s.a s.n s.c,.int .i64 k,.agg ⟨[.slice ss.a ss.n ss.c,.slice sb.a sb.n sb.c]⟩,.agg ⟨[.int .i64 (a:Int),.int .i64 (b:Int)]⟩] h (DoV (0,S.set a x.t,doB (L.map MR.m).length a x BL) h):=by
 subst hB
 have h1:=do27 L s k ss sb S B (a:Int) (b:Int) h hS hC
 rw [doS_at hP gm gx,if_pos hc] at h1
 exact h1
end Go.VC
end

section
/- The law ComposeOrder. (Numbers of layer 27's development dump.) -/
namespace Go.VC
open Go.Proofs Go.LexS
theorem St.rlI {h0 h:Heap} {L:List It} (hs:St h0 h L) (k:Nat) {s:Sl} {e n:Nat} {α:Type} {cs:α->List Value} {X:List α} (hk:L[k]?=some (.sl s e n (X.map cs))) (hn:0<n) (hX:X.length<=1048576):RL h n s cs X:=by
 obtain ⟨h1,h2,h3⟩:=hs.len k hk hn
 exact ⟨hs.rows k hk hn,h2,h3,hX⟩
theorem sentL_len {H:List Ev4} {q:Nat}:(sentL H q).length<=H.length:=by
 unfold sentL; rw [Yc]; exact List.length_filter_le _ _
theorem gotL_len {H:List Ev4} {q:Nat}:(gotL H q).length<=H.length:=by
 unfold gotL; rw [Yc]; exact List.length_filter_le _ _
set_option maxHeartbeats 6400000 in
theorem composeOrder7 (L:List MR) (s:Sl) (p1:Int) (D:List Int) (ds:Sl) (h:Heap) (hx:Gx h) (hS:SyI h s L) (hp0:0<=p1) (hp1:p1<256) (hD:RL h 1 ds u8C D) (hb:∀ b ∈ D,0<=b/\b<256) :
  Fn Pz 7 #[.slice s.a s.n s.c,.int .u8 p1,.slice ds.a ds.n ds.c] h fun v h'=>v=.bool true/\Ext h h':=by
 apply vc7 s p1 ds; unfold W7
 have hk:=room4 hp0 hp1
 generalize IntKind.wrap .i64 (1+Int.tmod (IntKind.wrap .i64 p1) 4)=k at *
 have hlm:(L.map MR.m).length=L.length:=Yc _
 have hn:=hS.r.ln
 refine (awake12 h hx).mono ?_
 rintro _ h3 ⟨rfl,E3⟩
 refine ⟨true,rfl,sB_f rfl ?_⟩
 refine (fewC13 L s ⟨none,0,0⟩ ⟨none,0,0⟩ [] [] h3 (hS.ext E3) CfI.none_).mono ?_
 rintro _ h6 ⟨⟨b,rfl,-⟩,E⟩
 have E6:=E3.trans E
 refine ⟨b,rfl,sB_intro (fun c=>⟨rfl,E6⟩) (fun _=>?_)⟩
 refine (refSys23 L s h6 (hS.ext E6)).mono ?_
 rintro _ h9 ⟨⟨b2,rfl,hb2⟩,E⟩
 have E9:=E6.trans E
 refine ⟨b2,rfl,sB_intro (fun c=>⟨rfl,E9⟩) (fun c=>?_)⟩
 have hV:=hb2.1 (bT c)
 have hV6:=hV.n
 rw [hlm] at hV6
 refine sBi (fun c=>⟨rfl,E9⟩) (fun c40=>⟨by decide,?_⟩)
 refine (walk26 L s k D ds h9 (hS.ext E9) hV hk (hD.ext E9) hb).mono ?_
 rintro _ h14 ⟨out,ts,tb,S0,T0,X,A0,rfl,hs,-,-,ho,hR,hXl⟩
 obtain ⟨k0,hk0⟩:=Yf.1 ho
 refine ⟨out,ts,tb,rfl,?_⟩
 refine hs.newput (vs:=[.slice ts.a ts.n ts.c,.slice tb.a tb.n tb.c]) rfl rfl fun h16 hs=>?_
 have E16:=E9.trans hs.ext
 have hout:Rw h16 2 out (X.map stpC):=hs.rw (k0+1) hk0 (by omega)
 have hon:=hout.ln
 have hS16:=hS.ext E16
 clear hs ho hk0 hS hD hx
 refine (start14 L s h16 hS16).mono ?_
 rintro _ h21 ⟨s1,b1,S1,B1,e1,A1,rfl,hs,M1,t1,-⟩
 obtain ⟨rfl,rfl,rfl⟩:=t1 hV
 refine ⟨s1,b1,0,rfl,?_⟩
 refine hs.newput (vs:=[.slice s1.a s1.n s1.c,.slice b1.a b1.n b1.c]) rfl rfl fun h23 hs=>?_
 refine sB_f rfl ?_
 have hs:=hs.nil_ 57 2
 refine ⟨fun l x h' μ=>∃ (i:Nat) (S:List Int) (B:List Bx) (c1 c2:Sl) (A:List It),x=(i:Int)/\μ=X.length - i/\i<=X.length/\runS (L.map MR.m) k (X.take i)=some (S,B.map Bx.l)/\(∀ z ∈ X.take i,∃ m x,(L.map MR.m)[z.1]?=some m/\m.mv[z.2]?=some x)/\St h16 h' (.sl l 57 2 ((X.take i).map stpC) :: .blk h21.size [.slice c1.a c1.n c1.c,.slice c2.a c2.n c2.c] 29::A)/\CfM A c1 c2 S B,⟨_,0,_,_,s1,b1,A1,rfl,rfl,Nat.zero_le _,runS_nil,fun z hz=>(by rw [Yyk] at hz; cases hz),hs,M1⟩,?_⟩
 clear hs M1 t1
 rintro - lsl _ h29 μ ⟨i,S,B,c1,c2,A,rfl,rfl,hi,hr,hmem,hs,hM⟩
 have hP:=(order_law hV hk _ (X.take i) S _ rfl hr).1
 have hC:=(hM.mono fun i hi=>Yn _ (Yn _ hi)).cfi hs
 have hln:=(hs.rows 0 (s:=lsl) (cs:=stpC) rfl (by omega)).ln
 rw [Yu,Nat.min_eq_left hi] at hln
 refine sBi (fun c1'=>?_) (fun c1'=>?_)
 ·
  obtain ⟨⟨a,b⟩,gz⟩:=get_some (l:=X) (i:=i) (by omega)
  have htk:=take_snoc gz
  obtain ⟨c',hc'⟩:=runS_pre (L:=L.map MR.m) (k:=k) (X:=X.take (i+1)) (Y:=X.drop (i+1)) (by rw [List.take_append_drop]; exact hR)
  have hr2:=hc'
  rw [htk,runS_snoc,hr] at hc'
  obtain ⟨m,x,gm,gx,hc,rfl⟩:=stpS_inv hP hc'
  dsimp only at gm gx hc hr2
  refine (hout.ext hs.ext).nbI (by omega) (by omega) fun b30 o31 z gz' t=>?_
  rw [Ys,gz] at gz'; cases gz'
  refine ⟨(a:Int),(b:Int),t,?_⟩
  refine hs.newput (vs:=stpC (a,b)) rfl rfl fun h35 hs=>?_
  refine ⟨c1,c2,hs.at 2 rfl (o:=0) (n:=2) rfl,(a:Int),(b:Int),hs.at 0 rfl (o:=0) (n:=2) rfl,?_⟩
  have hC35:=(hM.mono fun i hi=>Yn _ (Yn _ (Yn _ hi))).cfi hs
  refine (doOk L s k c1 c2 S B _ a b m x h35 (hS16.ext hs.ext) hC35 rfl hP gm gx hc).mono ?_
  rintro _ h44 ⟨us,ub,U,A2,rfl,hU,hs3,hM3⟩
  have hs:=hs.join hs3
  refine ⟨us,ub,0,rfl,?_⟩
  refine hs.newput (vs:=[.slice us.a us.n us.c,.slice ub.a ub.n ub.c]) rfl rfl fun h46 hs=>?_
  refine sB_f rfl ⟨us,ub,hs.at 0 rfl (o:=0) (n:=2) rfl,(a:Int),(b:Int),hs.at 1 rfl (o:=0) (n:=2) rfl,?_⟩
  refine hs.newbE fun h51 E51 hs=>⟨E51.sm,?_⟩
  have hs51:=hs
  refine hs.appended 3 (s:=lsl) (n:=2) (rows:=(X.take i).map stpC) rfl app35 (m:=1) (news:=[stpC (a,b)]) (hs.at 0 rfl (n:=2) rfl) rfl (by simp [stpC,stC]) rfl (by omega) (by simp only [maxLen]; omega) fun l2 h53 nl hs=>?_
  refine ⟨hs51.smbO hs 1 1 0 rfl rfl,?_⟩
  have hs53:=hs
  refine hs.put 4 rfl (o:=0) (vs:=[.slice us.a us.n us.c,.slice ub.a ub.n ub.c]) rfl (show 2<=2 by decide) fun h54 hs=>?_
  refine ⟨hs53.smbO hs 2 2 0 rfl rfl,_,(show X.length - (i+1)<X.length - i by omega),i+1,S.set a x.t,U,us,ub,A++A2,by rw [w64 (by omega) (by omega)]; omega,rfl,by omega,by rw [hU]; exact hr2,fun z hz=>?_,?_,hM3.mono fun i hi=>List.mem_append_right _ hi⟩
  ·
   rw [htk,Yk,Ye] at hz
   rcases hz with hz | rfl
   ·
    exact hmem z hz
   ·
    exact ⟨m,x,gm,gx⟩
  ·
   rw [htk,Ym]; exact hs.drop 3
 ·
  have hie:i=X.length:=by omega
  subst hie
  rw [Yye] at hr hmem hs
  have hlaw:=(order_law hV hk _ X S _ rfl hr).2
  have hXr:=hs.rlI 0 (s:=lsl) (cs:=stpC) rfl (by omega) hXl
  refine (hist33 L s X lsl h29 (hS16.ext hs.ext) hV hXr hmem).mono ?_
  rintro _ h59 ⟨E59,hq,Q,rfl,hQr,hQl,hQq⟩
  have hqn:=hQr.ln
  refine ⟨hq,0,rfl,sB_f rfl (sBn (fun c=>absurd (show ((hq.n:Nat):Int)=(s.n:Nat) by omega) c) (fun _=>?_))⟩
  have hs:=hs.step E59
  have hC:=hC.ext E59
  refine ⟨c1,c2,hs.at 1 rfl (o:=0) (n:=2) rfl,?_⟩
  refine (proper24 L s k c1 c2 S B h59 (hS16.ext hs.ext) hC).mono ?_
  rintro _ h64 ⟨⟨b3,rfl,hb3⟩,E64⟩
  rw [hb3.2 hP]
  refine ⟨true,rfl,sB_f rfl ?_⟩
  have hs:=hs.step E64
  have hC:=hC.ext E64
  have hQr:=hQr.ext E64
  have hc2:hc h64 ⟨h21.size,1,none⟩=some (.slice c2.a c2.n c2.c):=hs.rd 1 rfl (i:=1) rfl
  have hE0:=E16.trans hs.ext
  have hBl:B.length=s.n*s.n:=by
   have:=hP.p.b
   rw [Yc,hlm] at this
   rw [this,hn]
  have hbn:=hC.b.ln
  have hQe:∀ (p:Nat) q,Q[p]?=some q->Rw h64 5 q.s (q.l.map evC)/\q.l=histP (L.map MR.m) X p/\q.l.length<=1048576:=fun p q gq=>by
   obtain ⟨r1,r2⟩:=hQq p q gq
   refine ⟨r1.ext E64,r2,?_⟩
   rw [r2]
   exact Yys histP_len hXl
  have hsq:s.n*s.n<=36:=sq6 (by omega)
  clear hs hM hXr hQq hr hmem
  refine up_loop (n:=s.n) (fun p h'=>Ext h64 h') .rfl' ?_
  rintro - p h69 hp E69
  refine sB_intro (fun c=>?_) (fun c=>⟨rfl,hE0.trans E69⟩)
  replace c:=lt_t c
  refine up_loop (n:=s.n) (fun q h'=>Ext h64 h') E69 ?_
  rintro - q h74 hq2 E74
  refine sB_intro (fun c3=>?_) (fun c3=>Up.next c (by omega) E74)
  replace c3:=lt_t c3
  obtain ⟨P,gP⟩:=get_some (l:=Q) (i:=p) (by omega)
  obtain ⟨R,gR⟩:=get_some (l:=Q) (i:=q) (by omega)
  obtain ⟨hP1,hP2,hP3⟩:=hQe p P gP
  obtain ⟨hR1,hR2,hR3⟩:=hQe q R gR
  have hPn:=hP1.ln
  have hRn:=hR1.ln
  refine (hQr.ext E74).nbI (by omega) (by omega) fun b75 o76 P' gP' t=>?_
  rw [Ys,gP] at gP'; cases gP'
  refine ⟨P.s,t.hd,?_⟩
  have hs:=(St.refl h74).nil_ 3 1
  refine ⟨fun l x h' μ=>∃ i:Nat,x=(i:Int)/\μ=P.l.length - i/\i<=P.l.length/\St h74 h' [.sl l 3 1 ((sentL (P.l.take i) q).map inC)],⟨_,0,rfl,rfl,Nat.zero_le _,hs⟩,?_⟩
  clear hs
  rintro - sent _ h83 μ ⟨i,rfl,rfl,hi,hs⟩
  have hsn:=(hs.rows 0 (s:=sent) (cs:=inC) rfl (by omega)).ln
  have hsl:=sentL_len (H:=P.l.take i) (q:=q)
  rw [Yu] at hsl
  refine sBi (fun c4=>?_) (fun c4=>?_)
  ·
   obtain ⟨e,ge⟩:=get_some (l:=P.l) (i:=i) (by omega)
   have htk:=take_snoc ge
   refine (hP1.ext (E74.trans hs.ext)).nbI (by omega) (by omega) fun b84 o85 e' ge' t=>?_
   rw [Ys,ge] at ge'; cases ge'
   refine ⟨e.1,e.2.1,e.2.2.1,e.2.2.2,⟨none,0,0⟩,t,?_⟩
   refine hs.newput (vs:=evC e) rfl rfl fun h92 hs=>?_
   refine ⟨e.2.1,hs.rd 0 rfl (i:=1) rfl,sB_intro (fun cs=>?_) (fun cs=>?_)⟩
   ·
    refine ⟨e.2.2.1,hs.rd 0 rfl (i:=2) rfl,sBe (fun cp=>?_) (fun cp=>?_)⟩
    ·
     refine ⟨e.2.2.2,hs.rd 0 rfl (i:=3) rfl,?_⟩
     refine hs.app 1 (s:=sent) (rows:=(sentL (P.l.take i) q).map inC) rfl app42 (m:=1) [[.int .i64 e.2.2.2]] rfl rfl (by simp) rfl (by omega) (by simp only [maxLen]; omega) fun s97 h98 ns hs=>?_
     refine ⟨_,(show P.l.length - (i+1)<P.l.length - i by omega),i+1,by rw [w64 (by omega) (by omega)]; omega,rfl,by omega,?_⟩
     rw [htk,sentL_snoc,if_pos ⟨cs,cp⟩,Ym]
     exact hs.drop 1
    ·
     refine ⟨_,(show P.l.length - (i+1)<P.l.length - i by omega),i+1,by rw [w64 (by omega) (by omega)]; omega,rfl,by omega,?_⟩
     rw [htk,sentL_snoc,if_neg (fun h=>cp h.2),Yw]
     exact hs.drop 1
   ·
    refine ⟨_,(show P.l.length - (i+1)<P.l.length - i by omega),i+1,by rw [w64 (by omega) (by omega)]; omega,rfl,by omega,?_⟩
    rw [htk,sentL_snoc,if_neg (fun h=>by rw [h.1] at cs; cases cs),Yw]
    exact hs.drop 1
  ·
   have hie:i=P.l.length:=by omega
   subst hie
   rw [Yye] at hs hsn
   refine (hQr.ext (E74.trans hs.ext)).nbI (by omega) (by omega) fun b102 o103 R' gR' t=>?_
   rw [Ys,gR] at gR'; cases gR'
   refine ⟨R.s,t.hd,?_⟩
   have hs:=hs.nil_ 3 1
   refine ⟨fun l x h' μ=>∃ i:Nat,x=(i:Int)/\μ=R.l.length - i/\i<=R.l.length/\St h74 h' [.sl l 3 1 ((gotL (R.l.take i) p).map inC),.sl sent 3 1 ((sentL P.l q).map inC)],⟨_,0,rfl,rfl,Nat.zero_le _,hs⟩,?_⟩
   clear hs
   rintro - got _ h110 μ ⟨i,rfl,rfl,hi,hs⟩
   have hgn:=(hs.rows 0 (s:=got) (cs:=inC) rfl (by omega)).ln
   have hgl:=gotL_len (H:=R.l.take i) (q:=p)
   rw [Yu] at hgl
   refine sBi (fun c4=>?_) (fun c4=>?_)
   ·
    obtain ⟨e,ge⟩:=get_some (l:=R.l) (i:=i) (by omega)
    have htk:=take_snoc ge
    refine (hR1.ext (E74.trans hs.ext)).nbI (by omega) (by omega) fun b84 o85 e' ge' t=>?_
    rw [Ys,ge] at ge'; cases ge'
    refine ⟨e.1,e.2.1,e.2.2.1,e.2.2.2,⟨none,0,0⟩,t,?_⟩
    refine hs.newput (vs:=evC e) rfl rfl fun h119 hs=>?_
    refine ⟨e.2.1,hs.rd 0 rfl (i:=1) rfl,sB_intro (fun cs=>?_) (fun cs=>?_)⟩
    ·
     have cs:=bF cs
     refine ⟨e.2.2.1,hs.rd 0 rfl (i:=2) rfl,sBe (fun cp=>?_) (fun cp=>?_)⟩
     ·
      refine ⟨e.2.2.2,hs.rd 0 rfl (i:=3) rfl,?_⟩
      refine hs.app 1 (s:=got) (rows:=(gotL (R.l.take i) p).map inC) rfl app42 (m:=1) [[.int .i64 e.2.2.2]] rfl rfl (by simp) rfl (by omega) (by simp only [maxLen]; omega) fun s97 h98 ns hs=>?_
      refine ⟨_,(show R.l.length - (i+1)<R.l.length - i by omega),i+1,by rw [w64 (by omega) (by omega)]; omega,rfl,by omega,?_⟩
      rw [htk,gotL_snoc,if_pos ⟨cs,cp⟩,Ym]
      exact hs.drop 1
     ·
      refine ⟨_,(show R.l.length - (i+1)<R.l.length - i by omega),i+1,by rw [w64 (by omega) (by omega)]; omega,rfl,by omega,?_⟩
      rw [htk,gotL_snoc,if_neg (fun h=>cp h.2),Yw]
      exact hs.drop 1
    ·
     have cs:=bT cs
     refine ⟨_,(show R.l.length - (i+1)<R.l.length - i by omega),i+1,by rw [w64 (by omega) (by omega)]; omega,rfl,by omega,?_⟩
     rw [htk,gotL_snoc,if_neg (fun h=>by rw [h.1] at cs; cases cs),Yw]
     exact hs.drop 1
   ·
    have hie:i=R.l.length:=by omega
    subst hie
    rw [Yye] at hs hgn
    have E110:=E74.trans hs.ext
    refine sBn (fun cpq=>?_) (fun cpq=>Up.next c3 (by omega) E110)
    have hpq:p ≠ q:=fun e=>cpq (by rw [e])
    have hj:s.n*p+q<s.n*s.n:=two_lt c c3
    have ew:IntKind.wrap .i64 (IntKind.wrap .i64 ((s.n:Int)*(p:Int))+(q:Int))=((s.n*p+q:Nat):Int):=by
     rw [<- Int.natCast_mul,w64 (n:=((s.n*p:Nat):Int)) (by omega) (by omega),w64 (by omega) (by omega)]
     omega
    rw [ew]
    refine ⟨c2,hc_ext E110 hc2,?_⟩
    obtain ⟨z,gz⟩:=get_some (l:=B) (i:=s.n*p+q) (by omega)
    have hzm:=Yb gz
    have hzi:=(hC.i z hzm).ext E110
    refine (hC.b.rw.ext E110).nbI (by omega) (by omega) fun b130 o131 z' gz' t=>?_
    rw [Ys,gz] at gz'; cases gz'
    have hzn:=hzi.ln
    have hzs:=hzi.sm
    refine ⟨z.s,t.hd,?_⟩
    have hl:=hlaw p q (by omega) (by omega) hpq
    rw [hlm,<- hn,getD_map gz,<- hP2,<- hR2] at hl
    have hsl2:=sentL_len (H:=P.l) (q:=q)
    have hgl2:=gotL_len (H:=R.l) (q:=p)
    refine hs.appRw 0 (s:=got) (y:=z.s) (rows:=(gotL R.l p).map inC) (news:=z.l.map inC) rfl app42 hzi.rw (inrows _) hzi.nil (flat_oneB (fun _=>rfl) _) (by omega) (by simp only [maxLen]; omega) fun s133 h134 ns hs=>?_
    have hs:St h74 h134 [.sl s133 3 1 ((gotL R.l p++z.l).map inC),.sl sent 3 1 ((sentL P.l q).map inC)]:=by rw [Ym]; exact hs
    refine (same34 (gotL R.l p++z.l) (sentL P.l q) s133 sent h134 (hs.rlI 0 rfl (by omega) (by rw [hl]; omega)) (hs.rlI 1 rfl (by omega) (by omega))).mono ?_
    rintro _ h137 ⟨⟨b5,rfl,hb5⟩,E137⟩
    rw [hb5.2 hl]
    exact ⟨true,rfl,sB_f rfl (Up.next c3 (by omega) ((E74.trans hs.ext).trans E137))⟩
end Go.VC
end

section
/- Plain: the encoding of integers, lists and configurations; it is injective. -/
namespace Go.VC
open Go.Proofs Go.LexS
/-! ### What the words of bits are -/
end Go.VC
end

section
namespace Go.VC
open Go.Proofs

end Go.VC
end

section
/- Contracts: the encodings, on both sides. (Numbers of layer 27's development dump.) -/
namespace Go.VC
open Go.Proofs Go.LexS
end Go.VC
end

section
/- What systems of machines, configurations and lists of bytes look like in memory where all that is read is of bulk at most 1048576. -/
namespace Go.VC
open Go.Proofs Go.LexS Go.RowKit Go.ChangeShapes Go.WideShapes Go.Proofs.YtnfkibjnkiojnaaGreatDoor
theorem bulk_pos {H:Type} (d:DataW H):1<=Rows.uptoBulk d:=by
 cases d with
 | lit l=>cases l <;> simp [Rows.uptoBulk]
 | _=>simp [Rows.uptoBulk]
theorem bulk_part {H:Type}:∀ {l:List (DataW H)} {d:DataW H},d ∈ l->Rows.uptoBulk d<=Rows.uptoBulkAll l
 | [],_,h=>by cases h
 | x::r,d,h=>by
  rw [Rows.uptoBulkAll]
  rcases Yr.1 h with rfl | h
  ·
   omega
  ·
   have:=bulk_part h; omega
theorem bulk_len {H:Type}:∀ l:List (DataW H),l.length<=Rows.uptoBulkAll l
 | []=>by simp
 | x::r=>by
  have h1:=bulk_pos x
  have h2:=bulk_len r
  rw [Rows.uptoBulkAll,Yyj]; omega
def Rdb (P:Program) (W:World) (t:TypeId) (cs:List Value):Prop:=
 ∃ (H:Type) (enc:TypeId × Value->H) (n:Nat) (x:DataW H × List MemPlace),DataW.trod enc P W 0 (fun _=>true) true n t cs=some x/\Rows.uptoBulk x.1<=1048576
theorem Rdb.rdt {P:Program} {W:World} {t:TypeId} {cs:List Value} (h:Rdb P W t cs):Rdt P W t cs:=by
 obtain ⟨H,enc,n,x,h1,_⟩:=h; exact ⟨H,enc,n,x,h1⟩
theorem rdb_of_trod {H:Type} {enc:TypeId × Value->H} {P:Program} {W:World} {t:TypeId} {v:Value} {d:DataW H} {p:List MemPlace} (h:DataW.Trod enc P W 0 (fun _=>true) true t v d p) (hw:Rows.uptoBulk d<=1048576):Rdb P W t v.cells.toList:=by
 obtain ⟨n,h⟩:=h
 exact ⟨H,enc,n,_,h,hw⟩
theorem Rdb.field {P:Program} {W:World} {t ft:TypeId} {cs:List Value} {i off:Nat} (h:Rdb P W t cs) (hf:fieldAt P t i=some (ft,off)):Rdb P W ft ((cs.drop off).take (P.cellsOf ft)):=by
 unfold fieldAt at hf
 split at hf
 ·
  rename_i fs hu
  obtain ⟨f,h1,h2⟩:=Yya.1 hf
  cases h2
  obtain ⟨H,enc,n,x,h,hw⟩:=h
  obtain ⟨xs,m,_,hx,hl,hxl,hfi⟩:=DataW.trod_struct hu h
  have hlt:i<xs.length:=by rw [hxl]; exact (Yyg.1 h1).1
  refine ⟨H,enc,m,xs[i],by rw [hfi i f h1,Yi hlt],?_⟩
  rw [hx,Rows.uptoBulk] at hw
  have:=bulk_part (l:=xs.map (·.1)) (d:=xs[i].1) (Yp.2 ⟨xs[i],List.getElem_mem hlt,rfl⟩)
  omega
 ·
  cases hf
theorem Rdb.rows {P:Program} {W:World} {t e:TypeId} {cs:List Value} (ht:P.underlying t=some (.slice e)) (h:Rdb P W t cs) (hpos:0<P.cellsOf e) :
  ∃ (s:Sl) (rows:List (List Value)),cs=[.slice s.a s.n s.c]/\s.n<=s.c/\s.n<=1048576/\(s.a=none->s.n=0/\s.c=0)/\Rw W.heap (P.cellsOf e) s rows/\∀ r ∈ rows,r.length=P.cellsOf e/\Rdb P W e r:=by
 obtain ⟨H,enc,n,x,h,hw⟩:=h
 rcases DataW.trod_slice ht h with ⟨rfl,_⟩ | ⟨a,len,cap,elems,rest,m,_,rfl,hx,_,hlc,hcm,hel,helem,_,_⟩
 ·
  exact ⟨⟨none,0,0⟩,[],rfl,Yyt _,Nat.zero_le _,fun _=>⟨rfl,rfl⟩,Rw.nil,fun r hr=>by cases hr⟩
 ·
  rw [hx,Rows.uptoBulk] at hw
  have hle:len<=1048576:=by
   have:=bulk_len (elems.map (·.1))
   rw [Yc] at this; omega
  have hwe:∀ (i:Nat) (hi:i<elems.length),Rows.uptoBulk elems[i].1<=1048576:=fun i hi=>by
   have:=bulk_part (l:=elems.map (·.1)) (d:=elems[i].1) (Yp.2 ⟨elems[i],List.getElem_mem hi,rfl⟩)
   omega
  by_cases h0:len=0
  ·
   subst h0
   exact ⟨⟨some a,0,cap⟩,[],rfl,hlc,hle,fun e=>(by cases e),Rw.empty rfl,fun r hr=>by cases hr⟩
  ·
   have hrow:∀ i,i<len->∃ r,W.cells? 0 (a.add (i*P.cellsOf e)) (P.cellsOf e)=some r/\Rdb P W e r:=by
    intro i hi
    have h1:=helem i hi
    rw [Yi (by omega)] at h1
    obtain ⟨r,hr,hx2⟩:=Option.bind_eq_some_iff.1 h1
    exact ⟨r,hr,H,enc,m,_,hx2,hwe i (by omega)⟩
   let row:Nat->List Value:=fun i=>(W.cells? 0 (a.add (i*P.cellsOf e)) (P.cellsOf e)).getD []
   have hrow':∀ i,i<len->W.cells? 0 (a.add (i*P.cellsOf e)) (P.cellsOf e)=some (row i)/\Rdb P W e (row i):=fun i hi=>by
    obtain ⟨r,hr,hx⟩:=hrow i hi
    have:row i=r:=by show (W.cells? 0 _ _).getD []=r; rw [hr]; rfl
    rw [this]; exact ⟨hr,hx⟩
   have hget:∀ i,i<len->((List.range len).map row)[i]?=some (row i):=fun i hi=>by
    rw [Yd,Yyb hi]; rfl
   have hspot:a=⟨a.block,a.off,none⟩:=by
    have hc:=(cells_at (hrow' 0 (by omega)).1)
    have hl0:0<(row 0).length:=by rw [hc.1]; exact hpos
    have:=hc.2 0 _ (Yi hl0)
    rw [Nat.zero_mul,show (a.add 0).add 0=a from rfl] at this
    unfold World.cell? at this
    split at this
    ·
     split at this
     ·
      cases this
     ·
      rename_i hs
      cases a with
      | mk b o s=>
       cases s with
       | none=>rfl
       | some s=>exact absurd rfl hs
    ·
     cases this
   refine ⟨⟨some a,len,cap⟩,(List.range len).map row,rfl,hlc,hle,fun e=>(by cases e),⟨by simp,fun _=>⟨a.block,a.off,by rw [<- hspot],fun i r hi j v hj=>?_⟩⟩,fun r hr=>?_⟩
   ·
    have hil:i<len:=by have:=(Ya.1 hi).1; simpa using this
    rw [hget i hil] at hi; cases hi
    have h4:=(cells_at (hrow' i hil).1).2 _ _ hj
    rw [hspot] at h4
    have e:((⟨a.block,a.off,none⟩:Addr).add (i*P.cellsOf e)).add j=addk ⟨a.block,a.off+i*P.cellsOf e,none⟩ j:=by
     rw [addk_at,add_n,add_n]
    rw [e] at h4
    exact h4
   ·
    obtain ⟨i,hi,rfl⟩:=Yp.1 hr
    have:=hrow' i (List.mem_range.1 hi)
    exact ⟨(cells_at this.1).1,this.2⟩
theorem Rdb.list {α:Type} {P:Program} {W:World} {t e:TypeId} {k:Nat} {v:Value} {cs:α->List Value} {Q:α->Prop} (ht:P.underlying t=some (.slice e)) (hk:P.cellsOf e=k) (hpos:0<k)
  (ho:∀ r,Rdb P W e r->∃ x,r=cs x/\Q x) (h:Rdb P W t [v]):∃ (s:Sl) (L:List α),v=.slice s.a s.n s.c/\RL W.heap k s cs L/\∀ x ∈ L,Q x:=by
 subst hk
 obtain ⟨s,rows,e1,hc,hm,hna,hrw,hr⟩:=h.rows ht hpos
 have key:∀ rows:List (List Value),(∀ r ∈ rows,r.length=P.cellsOf e/\Rdb P W e r)->∃ L:List α,rows=L.map cs/\∀ x ∈ L,Q x:=by
  intro rows
  induction rows with
  | nil=>intro _; exact ⟨[],rfl,fun x hx=>by cases hx⟩
  | cons r rows ih=>
   intro h
   obtain ⟨x,hx,hq⟩:=ho r (h r (by simp)).2
   obtain ⟨L,hL,hQ⟩:=ih fun y hy=>h y (Yn _ hy)
   exact ⟨x::L,by rw [hx,hL]; rfl,fun y hy=>by rcases Yr.1 hy with rfl | hy; exact hq; exact hQ y hy⟩
 obtain ⟨L,rfl,hQ⟩:=key rows hr
 have hn:=hrw.ln
 exact ⟨s,L,by simpa using e1,⟨hrw,hc,hna,by omega⟩,hQ⟩
theorem v3:Pz.underlying 3=some (.int .i64):=by kernel_rfl
theorem v4b:Pz.underlying 4=some .bool:=by kernel_rfl
theorem cz3:Pz.cellsOf 3=1:=by kernel_rfl
theorem cz4:Pz.cellsOf 4=1:=by kernel_rfl
theorem cz51:Pz.cellsOf 51=1:=by kernel_rfl
theorem cz52:Pz.cellsOf 52=1:=by kernel_rfl
theorem cz53:Pz.cellsOf 53=1:=by kernel_rfl
theorem cz55:Pz.cellsOf 55=6:=by kernel_rfl
theorem cz190:Pz.cellsOf 190=3:=by kernel_rfl
theorem cz108:Pz.cellsOf 108=6:=by kernel_rfl
theorem vs51:Pz.underlying 51=some (.slice 4):=by kernel_rfl
theorem vs52:Pz.underlying 52=some (.slice 108):=by kernel_rfl
theorem vs53:Pz.underlying 53=some (.slice 190):=by kernel_rfl
theorem open_three {W:World} {t:TypeId} {r:List Value} (hc:Pz.cellsOf t=3) (h0:fieldAt Pz t 0=some (3,0)) (h1:fieldAt Pz t 1=some (3,1)) (h2:fieldAt Pz t 2=some (3,2)) (h:Rdt Pz W t r) :
  ∃ a b c:Int,r=[.int .i64 a,.int .i64 b,.int .i64 c]:=by
 have hl:=h.flen h0
 rw [hc] at hl
 match r,hl with
 | [x0,x1,x2],_=>
  have f0:=h.field h0
  have f1:=h.field h1
  have f2:=h.field h2
  rw [cz3] at f0 f1 f2
  obtain ⟨k0,e0,_⟩:=f0.int v3
  obtain ⟨k1,e1,_⟩:=f1.int v3
  obtain ⟨k2,e2,_⟩:=f2.int v3
  simp only [List.drop_zero,List.take_succ_cons,Yyk,List.drop_succ_cons,List.cons.injEq,and_true] at e0 e1 e2
  subst e0 e1 e2
  exact ⟨k0,k1,k2,rfl⟩
theorem open_boolv {W:World} {r:List Value} (h:Rdb Pz W 4 r):∃ x:Bool,r=bC x/\True:=by
 obtain ⟨k,e⟩:=h.rdt.bool v4b
 exact ⟨k,e,trivial⟩
theorem open_limit {W:World} {r:List Value} (h:Rdb Pz W 190 r):∃ x:To,r=x.cs/\True:=by
 obtain ⟨a,b,c,e⟩:=open_three cz190 (by kernel_rfl) (by kernel_rfl) (by kernel_rfl) h.rdt
 exact ⟨⟨a,b,c⟩,e,trivial⟩
theorem open_move {W:World} {r:List Value} (h:Rdb Pz W 108 r):∃ x:Mv,r=x.cs/\True:=by
 have hl:=h.rdt.flen (i:=0) (ft:=3) (off:=0) (by kernel_rfl)
 rw [cz108] at hl
 match r,hl with
 | [x0,x1,x2,x3,x4,x5],_=>
  have f0:=h.rdt.field (i:=0) (ft:=3) (off:=0) (by kernel_rfl)
  have f1:=h.rdt.field (i:=1) (ft:=4) (off:=1) (by kernel_rfl)
  have f2:=h.rdt.field (i:=2) (ft:=3) (off:=2) (by kernel_rfl)
  have f3:=h.rdt.field (i:=3) (ft:=3) (off:=3) (by kernel_rfl)
  have f4:=h.rdt.field (i:=4) (ft:=3) (off:=4) (by kernel_rfl)
  have f5:=h.rdt.field (i:=5) (ft:=4) (off:=5) (by kernel_rfl)
  rw [cz3] at f0 f2 f3 f4
  rw [cz4] at f1 f5
  obtain ⟨k0,e0,_⟩:=f0.int v3
  obtain ⟨k1,e1⟩:=f1.bool v4b
  obtain ⟨k2,e2,_⟩:=f2.int v3
  obtain ⟨k3,e3,_⟩:=f3.int v3
  obtain ⟨k4,e4,_⟩:=f4.int v3
  obtain ⟨k5,e5⟩:=f5.bool v4b
  simp only [List.drop_zero,List.take_succ_cons,Yyk,List.drop_succ_cons,List.cons.injEq,and_true] at e0 e1 e2 e3 e4 e5
  subst e0 e1 e2 e3 e4 e5
  exact ⟨⟨k0,k1,k2,k3,k4,k5⟩,rfl,trivial⟩
theorem open_machine {W:World} {r:List Value} (h:Rdb Pz W 55 r):∃ (m:Mch) (sf sm sl:Sl),r=mC m sf sm sl/\MI W.heap m sf sm sl:=by
 have hl:=h.rdt.flen (i:=0) (ft:=3) (off:=0) (by kernel_rfl)
 rw [cz55] at hl
 match r,hl with
 | [x0,x1,x2,x3,x4,x5],_=>
  have f0:=h.rdt.field (i:=0) (ft:=3) (off:=0) (by kernel_rfl)
  have f1:=h.rdt.field (i:=1) (ft:=3) (off:=1) (by kernel_rfl)
  have f2:=h.rdt.field (i:=2) (ft:=3) (off:=2) (by kernel_rfl)
  have f3:=h.field (i:=3) (ft:=51) (off:=3) (by kernel_rfl)
  have f4:=h.field (i:=4) (ft:=52) (off:=4) (by kernel_rfl)
  have f5:=h.field (i:=5) (ft:=53) (off:=5) (by kernel_rfl)
  rw [cz3] at f0 f1 f2
  rw [cz51] at f3
  rw [cz52] at f4
  rw [cz53] at f5
  obtain ⟨k0,e0,_⟩:=f0.int v3
  obtain ⟨k1,e1,_⟩:=f1.int v3
  obtain ⟨k2,e2,_⟩:=f2.int v3
  obtain ⟨sf,lf,e3,hf,_⟩:=Rdb.list vs51 cz4 (by omega) (fun r hr=>open_boolv hr) (show Rdb Pz W 51 [x3] from f3)
  obtain ⟨sm,lm,e4,hm,_⟩:=Rdb.list vs52 cz108 (by omega) (fun r hr=>open_move hr) (show Rdb Pz W 52 [x4] from f4)
  obtain ⟨sl,ll,e5,hl,_⟩:=Rdb.list vs53 cz190 (by omega) (fun r hr=>open_limit hr) (show Rdb Pz W 53 [x5] from f5)
  simp only [List.drop_zero,List.take_succ_cons,Yyk,List.drop_succ_cons,List.cons.injEq,and_true] at e0 e1 e2
  subst e0 e1 e2 e3 e4 e5
  exact ⟨⟨k0,k1,k2,lf,lm,ll⟩,sf,sm,sl,rfl,⟨hf,hm,hl⟩⟩
theorem cz5:Pz.cellsOf 5=1:=by kernel_rfl
theorem vs48:Pz.underlying 48=some (.slice 5):=by kernel_rfl
theorem v5u:Pz.underlying 5=some (.int .u8):=by kernel_rfl
theorem vsS22:Pz.underlying 22=some (.slice 55):=by kernel_rfl
theorem open_mr {W:World} {r:List Value} (h:Rdb Pz W 55 r):∃ x:MR,r=x.cs/\MI W.heap x.m x.f x.g x.l:=by
 obtain ⟨m,f,g,l,e,hm⟩:=open_machine h
 exact ⟨⟨m,f,g,l⟩,e,hm⟩
theorem open_sys {W:World} {v:Value} (h:Rdb Pz W 22 [v]):∃ (s:Sl) (L:List MR),v=.slice s.a s.n s.c/\SyI W.heap s L:=by
 obtain ⟨s,L,e,hr,hq⟩:=Rdb.list vsS22 cz55 (by omega) (fun r hr=>open_mr hr) h
 exact ⟨s,L,e,hr,hq⟩
theorem open_u8n {W:World} {r:List Value} (h:Rdb Pz W 5 r):∃ x:Int,r=u8C x/\(0<=x/\x<256):=by
 obtain ⟨n,e,hw⟩:=h.rdt.int v5u
 have h3:(decide (IntKind.u8.min<=n) && decide (n<=IntKind.u8.max))=true:=hw
 rw [Yt] at h3
 have h4:(0:Int)<=n:=Yyn h3.1
 have h5:n<=(255:Int):=Yyn h3.2
 exact ⟨n,e,h4,by omega⟩
theorem open_u8s {W:World} {v:Value} (h:Rdb Pz W 48 [v]):∃ (s:Sl) (L:List Int),v=.slice s.a s.n s.c/\(RL W.heap 1 s u8C L/\∀ n ∈ L,0<=n/\n<256):=by
 obtain ⟨s,L,e,hr,hb⟩:=Rdb.list vs48 cz5 (by omega) (fun r hr=>open_u8n hr) h
 exact ⟨s,L,e,hr,hb⟩
theorem u8_rng {W:World} {k:Int} (h:Rdb Pz W 5 [.int .u8 k]):0<=k/\k<256:=by
 obtain ⟨x,e,hx⟩:=open_u8n h
 injection e with e1 _
 injection e1 with _ e2
 rw [e2]; exact hx
end Go.VC
end
