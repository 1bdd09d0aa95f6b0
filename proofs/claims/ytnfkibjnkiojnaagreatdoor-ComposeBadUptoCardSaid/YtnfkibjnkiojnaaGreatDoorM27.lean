/- WkAe WkAf WkVcM WkS WkT WkU WkVcN WkV WkVcO WkW WkVcP WkX WkY WkVcH WkZ WkVcR WkAg WkVcQ WkAh WkVcT WkAi WkArgs. -/
import Derived.Test.YtnfkibjnkiojnaaGreatDoorM23
import Derived.Test.YtnfkibjnkiojnaaGreatDoorM26
import Derived.Test.YtnfkibjnkiojnaaGreatDoorM01
import Derived.Test.YtnfkibjnkiojnaaGreatDoorM24
import Derived.Test.YtnfkibjnkiojnaaGreatDoorM02
import Derived.Test.YtnfkibjnkiojnaaGreatDoorProg
import Derived.KernelRfl
import Derived.Test.YtnfkibjnkiojnaaGreatDoorM19
import Derived.Test.YtnfkibjnkiojnaaGreatDoorRows
set_option linter.unusedVariables false
set_option linter.unusedSimpArgs false
set_option maxRecDepth 100000

section
/- Contracts: bad configurations. (Numbers of layer 27's development dump.) -/
namespace Go.VC
open Go.Proofs Go.LexS
def UnxI (L:List Mch) (S:List Int) (BL:List (List Int)) (i:Nat):Prop:=∃ (b:Int) (l:List Int) (m:Mch) (s:Int),BL[i]?=some (b::l)/\L[i % L.length]?=some m/\S[i % L.length]?=some s/\¬ ExpM m s ((i / L.length:Nat):Int) b
open Classical in
noncomputable def badS (L:List Mch) (k:Int) (S:List Int) (BL:List (List Int)):Int:=if ∃ i,UnxI L S BL i then 1 else if ¬ FinS L S BL/\stepsS L k S BL=[] then 2 else 0
theorem badS_1 {L:List Mch} {k:Int} {S:List Int} {BL:List (List Int)} {i:Nat} (h:UnxI L S BL i):badS L k S BL=1:=by
 unfold badS; rw [if_pos ⟨i,h⟩]
theorem badS_2 {L:List Mch} {k:Int} {S:List Int} {BL:List (List Int)} (h:¬ ∃ i,UnxI L S BL i) (h1:¬ FinS L S BL) (h2:stepsS L k S BL=[]):badS L k S BL=2:=by
 unfold badS; rw [if_neg h,if_pos ⟨h1,h2⟩]
theorem badS_0 {L:List Mch} {k:Int} {S:List Int} {BL:List (List Int)} (h:¬ ∃ i,UnxI L S BL i) (h1:FinS L S BL\/stepsS L k S BL ≠ []):badS L k S BL=0:=by
 unfold badS; rw [if_neg h,if_neg (fun hc=>h1.elim hc.1 fun h2=>h2 hc.2)]
theorem unx_none {L:List Mch} {S:List Int} {BL:List (List Int)} {n:Nat} (hn:n=BL.length) (hq:∀ j<n,¬ UnxI L S BL j):¬ ∃ i,UnxI L S BL i:=by
 rintro ⟨j,hu⟩
 by_cases hj:j<n
 ·
  exact hq j hj hu
 ·
  obtain ⟨b,l,m,s,hb,_⟩:=hu
  have:=(Ya.1 hb).1
  omega
theorem unx_iff {L:List Mch} {S:List Int} {BL:List (List Int)} {i:Nat} {q:List Int} {m:Mch} {s x:Int} (hb:BL[i]?=some q) (hm:L[i % L.length]?=some m) (hs:S[i % L.length]?=some s) (hx:q[0]?=some x):UnxI L S BL i ↔ ¬ ExpM m s ((i / L.length:Nat):Int) x:=by
 cases q with
 | nil=>cases hx
 | cons a l=>
  have e:a=x:=Yyp hx
  subst e
  constructor
  ·
   rintro ⟨b',l',m',s',h1,h2,h3,h4⟩
   rw [hb] at h1; cases h1
   rw [hm] at h2; cases h2
   rw [hs] at h3; cases h3
   exact h4
  ·
   exact fun h=>⟨a,l,m,s,hb,hm,hs,h⟩
set_option maxHeartbeats 3200000 in
theorem bad38 (L:List MR) (s:Sl) (k:Int) (ss sb:Sl) (S:List Int) (B:List Bx) (h:Heap) (hS:SyI h s L) (hC:CfI h ss sb S B) :
  Fn Pz 38 #[.slice s.a s.n s.c,.int .i64 k,.agg ⟨[.slice ss.a ss.n ss.c,.slice sb.a sb.n sb.c]⟩] h fun v h'=>Ext h h'/\∃ (b e:Int),v=.tuple ⟨[.int .i64 b,.int .i64 e]⟩/\(ProS (L.map MR.m) k S (B.map Bx.l)->e=0/\b=badS (L.map MR.m) k S (B.map Bx.l))/\(¬ ProS (L.map MR.m) k S (B.map Bx.l)->e=1/\b=0):=by
 apply vc38 s k ss sb; unfold W38
 have hn:=hS.r.ln
 have hbn:=hC.b.ln
 have hsn:=hC.s.ln
 have hlm:(L.map MR.m).length=s.n:=by rw [Yc,hn]
 have hbm:(B.map Bx.l).length=B.length:=Yc _
 refine (St.refl h).newb fun h3 hs=>?_
 refine ⟨ss,sb,hs.at 0 rfl (o:=0) (n:=2) rfl,?_⟩
 refine (proper24 L s k ss sb S B h3 (hS.ext hs.ext) (hC.ext hs.ext)).mono ?_
 rintro _ h8 ⟨⟨b,rfl,hb⟩,E⟩
 have hs:=hs.step E
 refine ⟨_,rfl,sB_intro (fun c=>?_) (fun c=>?_)⟩
 ·
  have hn:¬ ProS (L.map MR.m) k S (B.map Bx.l):=fun hp=>by rw [hb.2 hp] at c; cases c
  exact ⟨hs.ext,0,1,rfl,fun hp=>absurd hp hn,fun _=>⟨rfl,rfl⟩⟩
 have hp:=hb.1 (bT c)
 have hV6:=hp.v.n
 rw [hlm] at hV6
 have hSl:S.length=L.length:=by rw [hp.p.s,hlm,hn]
 have hBl:B.length=L.length*L.length:=by rw [<- hbm,hp.p.b,hlm,hn]
 have h36:=sq6 hV6.2
 have hB36:B.length=s.n*s.n:=by rw [hBl,hn]
 refine ⟨sb,hs.rd 0 rfl (i:=1) rfl,?_⟩
 refine up_loopS (n:=sb.n) hs (fun i=>∀ j<i,¬ UnxI (L.map MR.m) S (B.map Bx.l) j) (fun j hj=>by omega) ?_
 rintro - i h14 hi ⟨hs,hq⟩
 refine sB_intro (fun c1=>?_) (fun c1=>?_)
 ·
  replace c1:=lt_t c1
  obtain ⟨q,gq⟩:=get_some (l:=B) (i:=i) (by omega)
  have gq1:(B.map Bx.l)[i]?=some q.l:=by rw [Yd,gq]; rfl
  have hqi:=hC.i q (Yb gq)
  have hqn:=hqi.ln
  refine (hC.b.rw.ext hs.ext).nbI (by omega) (by omega) fun b15 o16 q' gq' t=>?_
  replace gq':B[i]?=some q':=gq'
  rw [gq] at gq'; cases gq'
  refine ⟨q.s,t.hd,sBi (fun c2=>?_) (fun c2=>?_)⟩
  ·
   have hmod:i % s.n<s.n:=Nat.mod_lt _ (by omega)
   have em:Int.tmod (i:Int) (s.n:Int)=((i % s.n:Nat):Int):=rfl
   have hdl:i / s.n<=i:=Nat.div_le_self _ _
   have ed:IntKind.wrap .i64 (Int.tdiv (i:Int) (s.n:Int))=((i / s.n:Nat):Int):=by rw [tdiv_nat,w64 (Int.le_trans (by decide) (Int.natCast_nonneg _)) (Int.le_trans (Int.ofNat_le.2 hdl) (by omega))]
   rw [em,ed]
   refine ⟨by omega,?_⟩
   refine (hS.r.rw.ext hs.ext).nbI (by omega) (by omega) fun b18 o19 y gy t2=>?_
   rw [Ys] at gy
   replace gy:L[i % s.n]?=some y:=gy
   have gm:(L.map MR.m)[i % s.n]?=some y.m:=by rw [Yd,gy]; rfl
   have hyi:=hS.i y (Yb gy)
   have hvm:=hp.v.m _ y.m gm
   refine ⟨_,_,_,_,_,_,t2,ss,hs.rd 0 rfl (i:=0) rfl,by omega,?_⟩
   refine (hC.s.rw.ext hs.ext).nbI (by omega) (by omega) fun b27 o28 z gz t3=>?_
   rw [Ys] at gz
   replace gz:S[i % s.n]?=some z:=gz
   refine ⟨z,t3.hd,by omega,?_⟩
   refine (hqi.rw.ext hs.ext).nbI (by decide) (by omega) fun b30 o31 x gx t4=>?_
   replace gx:q.l[0]?=some x:=gx
   refine ⟨x,t4.hd,?_⟩
   refine (expected69 y.m y.f y.g y.l z _ x h14 (hyi.ext hs.ext) hvm.2.1.n (hp.p.st _ z y.m gz gm)).mono ?_
   rintro _ h35 ⟨⟨b3,rfl,hb3⟩,E⟩
   have hs:=hs.step E
   have hui:=unx_iff (L:=L.map MR.m) (S:=S) gq1 (by rw [hlm]; exact gm) (by rw [hlm]; exact gz) gx
   rw [hlm] at hui
   refine ⟨b3,rfl,sB_intro (fun c3=>?_) (fun c3=>?_)⟩
   ·
    have hu:=hui.2 fun he=>iff_f hb3 (bF c3) he
    exact ⟨hs.ext,1,0,rfl,fun _=>⟨rfl,(badS_1 hu).symm⟩,fun hn=>absurd hp hn⟩
   ·
    refine Up.next (by omega) (by omega) ⟨hs,fun j hj=>?_⟩
    by_cases e:j=i
    ·
     subst e; exact fun hu=>hui.1 hu (hb3.1 (bT c3))
    ·
     exact hq j (by omega)
  ·
   refine Up.next (by omega) (by omega) ⟨hs,fun j hj=>?_⟩
   by_cases e:j=i
   ·
    subst e
    rintro ⟨b',l',m',s',h1,-⟩
    rw [gq1] at h1
    have h2:=congrArg List.length (Yyp h1)
    rw [Yyj] at h2
    omega
   ·
    exact hq j (by omega)
 ·
  replace c1:=lt_f c1
  have hno:=unx_none (show sb.n=(B.map Bx.l).length by omega) fun j hj=>hq j (by omega)
  refine ⟨ss,sb,hs.at 0 rfl (o:=0) (n:=2) rfl,?_⟩
  refine (final67 L s k ss sb S B h14 (hS.ext hs.ext) (hC.ext hs.ext) hp).mono ?_
  rintro _ h42 ⟨⟨b2,rfl,hb2⟩,E⟩
  have hs:=hs.step E
  refine ⟨b2,rfl,sB_intro (fun c3=>?_) (fun c3=>?_)⟩
  ·
   have hnf:¬ FinS (L.map MR.m) S (B.map Bx.l):=fun hf=>iff_f hb2 (bF c3) hf
   refine ⟨ss,sb,hs.at 0 rfl (o:=0) (n:=2) rfl,?_⟩
   refine (steps47 L s k ss sb S B h42 (hS.ext hs.ext) hp.v (hC.ext hs.ext) hSl hBl).mono ?_
   rintro _ h47 ⟨E,r,rfl,hr⟩
   have hrn:=hr.ln
   refine ⟨r,rfl,sBe (fun c4=>?_) (fun c4=>?_)⟩
   ·
    exact ⟨hs.ext.trans E,2,0,rfl,fun _=>⟨rfl,(badS_2 hno hnf (List.eq_nil_of_length_eq_zero (by omega))).symm⟩,fun hn=>absurd hp hn⟩
   ·
    exact ⟨hs.ext.trans E,0,0,rfl,fun _=>⟨rfl,(badS_0 hno (.inr fun he=>c4 (by rw [hrn,he]; rfl))).symm⟩,fun hn=>absurd hp hn⟩
  ·
   exact ⟨hs.ext,0,0,rfl,fun _=>⟨rfl,(badS_0 hno (.inl (hb2.1 (bT c3)))).symm⟩,fun hn=>absurd hp hn⟩
set_option maxHeartbeats 3200000 in
theorem kind70 (L:List MR) (s:Sl) (k:Int) (ss sb:Sl) (S:List Int) (B:List Bx) (h:Heap) (hS:SyI h s L) (hC:CfI h ss sb S B) (hp:ProS (L.map MR.m) k S (B.map Bx.l)) :
  Fn Pz 70 #[.slice s.a s.n s.c,.int .i64 k,.agg ⟨[.slice ss.a ss.n ss.c,.slice sb.a sb.n sb.c]⟩] h fun v h'=>Ext h h'/\v=.int .i64 (badS (L.map MR.m) k S (B.map Bx.l)):=by
 apply vc70 s k ss sb; unfold W70
 have hn:=hS.r.ln
 have hbn:=hC.b.ln
 have hsn:=hC.s.ln
 have hlm:(L.map MR.m).length=s.n:=by rw [Yc,hn]
 have hbm:(B.map Bx.l).length=B.length:=Yc _
 have hV6:=hp.v.n
 rw [hlm] at hV6
 have hSl:S.length=L.length:=by rw [hp.p.s,hlm,hn]
 have hBl:B.length=L.length*L.length:=by rw [<- hbm,hp.p.b,hlm,hn]
 have h36:=sq6 hV6.2
 have hB36:B.length=s.n*s.n:=by rw [hBl,hn]
 refine (St.refl h).newb fun h3 hs=>?_
 refine up_loopS (n:=sb.n) hs (fun i=>∀ j<i,¬ UnxI (L.map MR.m) S (B.map Bx.l) j) (fun j hj=>by omega) ?_
 rintro - i h8 hi ⟨hs,hq⟩
 refine ⟨sb,hs.rd 0 rfl (i:=1) rfl,sB_intro (fun c1=>?_) (fun c1=>?_)⟩
 ·
  replace c1:=lt_t c1
  obtain ⟨q,gq⟩:=get_some (l:=B) (i:=i) (by omega)
  have gq1:(B.map Bx.l)[i]?=some q.l:=by rw [Yd,gq]; rfl
  have hqi:=hC.i q (Yb gq)
  have hqn:=hqi.ln
  refine ⟨by omega,by omega,sb,hs.rd 0 rfl (i:=1) rfl,?_⟩
  refine (hC.b.rw.ext hs.ext).nbI (by omega) (by omega) fun b11 o12 q' gq' t=>?_
  replace gq':B[i]?=some q':=gq'
  rw [gq] at gq'; cases gq'
  refine ⟨q.s,t.hd,sBi (fun c2=>?_) (fun c2=>?_)⟩
  ·
   have hmod:i % s.n<s.n:=Nat.mod_lt _ (by omega)
   have em:Int.tmod (i:Int) (s.n:Int)=((i % s.n:Nat):Int):=rfl
   have hdl:i / s.n<=i:=Nat.div_le_self _ _
   have ed:IntKind.wrap .i64 (Int.tdiv (i:Int) (s.n:Int))=((i / s.n:Nat):Int):=by rw [tdiv_nat,w64 (Int.le_trans (by decide) (Int.natCast_nonneg _)) (Int.le_trans (Int.ofNat_le.2 hdl) (by omega))]
   rw [em,ed]
   refine (hS.r.rw.ext hs.ext).nbI (by omega) (by omega) fun b18 o19 y gy t2=>?_
   rw [Ys] at gy
   replace gy:L[i % s.n]?=some y:=gy
   have gm:(L.map MR.m)[i % s.n]?=some y.m:=by rw [Yd,gy]; rfl
   have hyi:=hS.i y (Yb gy)
   have hvm:=hp.v.m _ y.m gm
   refine ⟨_,_,_,_,_,_,t2,ss,hs.rd 0 rfl (i:=0) rfl,?_⟩
   refine (hC.s.rw.ext hs.ext).nbI (by omega) (by omega) fun b27 o28 z gz t3=>?_
   rw [Ys] at gz
   replace gz:S[i % s.n]?=some z:=gz
   refine ⟨z,t3.hd,sb,hs.rd 0 rfl (i:=1) rfl,?_⟩
   refine (hC.b.rw.ext hs.ext).nbI (by omega) (by omega) fun b29 o29 q' gq' t5=>?_
   replace gq':B[i]?=some q':=gq'
   rw [gq] at gq'; cases gq'
   refine ⟨q.s,t5.hd,?_⟩
   refine (hqi.rw.ext hs.ext).nbI (by decide) (by omega) fun b30 o31 x gx t4=>?_
   replace gx:q.l[0]?=some x:=gx
   refine ⟨x,t4.hd,?_⟩
   refine (awaited95 y.m y.f y.g y.l z _ x h8 (hyi.ext hs.ext) hvm.2.1.n (hp.p.st _ z y.m gz gm)).mono ?_
   rintro _ h35 ⟨⟨b3,rfl,hb3⟩,E⟩
   have hs:=hs.step E
   have hui:=unx_iff (L:=L.map MR.m) (S:=S) gq1 (by rw [hlm]; exact gm) (by rw [hlm]; exact gz) gx
   rw [hlm] at hui
   refine ⟨b3,rfl,E.sm,sB_intro (fun c3=>?_) (fun c3=>?_)⟩
   ·
    have hu:=hui.2 fun he=>iff_f hb3 (bF c3) he
    exact ⟨hs.ext,by rw [badS_1 hu]⟩
   ·
    refine Up.next (by omega) (by omega) ⟨hs,fun j hj=>?_⟩
    by_cases e:j=i
    ·
     subst e; exact fun hu=>hui.1 hu (hb3.1 (bT c3))
    ·
     exact hq j (by omega)
  ·
   refine Up.next (by omega) (by omega) ⟨hs,fun j hj=>?_⟩
   by_cases e:j=i
   ·
    subst e
    rintro ⟨b',l',m',s',h1,-⟩
    rw [gq1] at h1
    have h2:=congrArg List.length (Yyp h1)
    rw [Yyj] at h2
    omega
   ·
    exact hq j (by omega)
 ·
  replace c1:=lt_f c1
  have hno:=unx_none (show sb.n=(B.map Bx.l).length by omega) fun j hj=>hq j (by omega)
  refine ⟨ss,sb,hs.at 0 rfl (o:=0) (n:=2) rfl,?_⟩
  refine (refAll48 L s k ss sb S B h8 (hS.ext hs.ext) hp.v (hC.ext hs.ext) hSl hBl).mono ?_
  rintro _ h42 ⟨E,r,rfl,hr⟩
  have hs:=hs.step E
  have hrn:=hr.ln
  refine ⟨r,rfl,sBe (fun c4=>?_) (fun c4=>?_)⟩
  ·
   have he:stepsS (L.map MR.m) k S (B.map Bx.l)=[]:=List.eq_nil_of_length_eq_zero (by omega)
   refine ⟨ss,sb,hs.at 0 rfl (o:=0) (n:=2) rfl,?_⟩
   refine (done68 L s k ss sb S B h42 (hS.ext hs.ext) (hC.ext hs.ext) hp).mono ?_
   rintro _ h47 ⟨⟨b2,rfl,hb2⟩,E⟩
   have hs:=hs.step E
   refine ⟨b2,rfl,sB_intro (fun c3=>?_) (fun c3=>?_)⟩
   ·
    have hnf:¬ FinS (L.map MR.m) S (B.map Bx.l):=fun hf=>iff_f hb2 (bF c3) hf
    exact ⟨hs.ext,by rw [badS_2 hno hnf he]⟩
   ·
    exact ⟨hs.ext,by rw [badS_0 hno (.inl (hb2.1 (bT c3)))]⟩
  ·
   exact ⟨hs.ext,by rw [badS_0 hno (.inr fun he=>c4 (by rw [hrn,he]; rfl))]⟩
theorem refBad39 (L:List MR) (s:Sl) (k:Int) (ss sb:Sl) (S:List Int) (B:List Bx) (h:Heap) (hS:SyI h s L) (hC:CfI h ss sb S B) :
  Fn Pz 39 #[.slice s.a s.n s.c,.int .i64 k,.agg ⟨[.slice ss.a ss.n ss.c,.slice sb.a sb.n sb.c]⟩] h fun v h'=>Ext h h'/\∃ (b e:Int),v=.tuple ⟨[.int .i64 b,.int .i64 e]⟩/\(ProS (L.map MR.m) k S (B.map Bx.l)->e=0/\b=badS (L.map MR.m) k S (B.map Bx.l))/\(¬ ProS (L.map MR.m) k S (B.map Bx.l)->e=1/\b=0):=by
 apply vc39 s k ss sb; unfold W39
 refine (St.refl h).newb fun h3 hs=>?_
 refine ⟨ss,sb,hs.at 0 rfl (o:=0) (n:=2) rfl,?_⟩
 refine (refProper25 L s k ss sb S B h3 (hS.ext hs.ext) (hC.ext hs.ext)).mono ?_
 rintro _ h8 ⟨⟨b,rfl,hb⟩,E⟩
 have hs:=hs.step E
 refine ⟨_,rfl,sB_intro (fun c=>?_) (fun c=>?_)⟩
 ·
  have hn:¬ ProS (L.map MR.m) k S (B.map Bx.l):=fun hp=>by rw [hb.2 hp] at c; cases c
  exact ⟨hs.ext,0,1,rfl,fun hp=>absurd hp hn,fun _=>⟨rfl,rfl⟩⟩
 ·
  have hp:=hb.1 (bT c)
  refine ⟨ss,sb,hs.at 0 rfl (o:=0) (n:=2) rfl,?_⟩
  refine (kind70 L s k ss sb S B h8 (hS.ext hs.ext) (hC.ext hs.ext) hp).mono ?_
  rintro _ h13 ⟨E,rfl⟩
  exact ⟨_,rfl,hs.ext.trans E,_,0,rfl,fun _=>⟨rfl,rfl⟩,fun hn=>absurd hp hn⟩
end Go.VC
end

section
/- Plain: the encoding of integers, lists and configurations; it is injective. -/
namespace Go.VC
open Go.Proofs Go.LexS
def zigN (n:Int):Nat:=if 0<=n then (2*n).toNat else (-2*n - 1).toNat
theorem zig_lt {n:Int} (h0:-9223372036854775808<=n) (h1:n<=9223372036854775807):zigN n<18446744073709551616:=by
 unfold zigN; split <;> omega
def venc (u:Nat):List Int:=if h:u<128 then [(u:Int)] else ((u % 128+128:Nat):Int)::venc (u / 128)
termination_by u
decreasing_by omega
theorem venc_lt {u:Nat} (h:u<128):venc u=[(u:Int)]:=by rw [venc,dif_pos h]
theorem venc_ge {u:Nat} (h:¬ u<128):venc u=((u % 128+128:Nat):Int)::venc (u / 128):=by rw [venc,dif_neg h]
theorem venc_len:∀ (k u:Nat),u<128 ^ (k+1)->(venc u).length<=k+1
 | 0,u,h=>by rw [venc_lt (by simpa using h)]; exact Yyt _
 | k+1,u,h=>by
  by_cases hu:u<128
  ·
   rw [venc_lt hu]; simp
  ·
   rw [venc_ge hu,Yyj]
   have:=venc_len k (u / 128) (by rw [Nat.div_lt_iff_lt_mul (by decide)]; rw [Nat.pow_succ] at h; exact h)
   omega
theorem venc_byte:∀ (u:Nat),∀ x ∈ venc u,0<=x/\x<256:=by
 intro u
 induction u using Nat.strongRecOn with
 | ind u ih=>
  intro x hx
  by_cases hu:u<128
  ·
   rw [venc_lt hu,Ye] at hx; omega
  ·
   rw [venc_ge hu,Yr] at hx
   rcases hx with rfl | hx
   ·
    omega
   ·
    exact ih (u / 128) (by omega) x hx
def I64 (n:Int):Prop:=-9223372036854775808<=n/\n<=9223372036854775807
def encI (n:Int):List Int:=venc (zigN n)
theorem encI_len {n:Int} (h:I64 n):(encI n).length<=10:=venc_len 9 _ (Nat.lt_of_lt_of_le (zig_lt h.1 h.2) (by decide))
theorem encI_byte {n:Int}:∀ x ∈ encI n,0<=x/\x<256:=venc_byte _
def encL (X:List Int):List Int:=encI X.length++X.flatMap encI
theorem flat_len {α:Type} {f:α->List Int} {c:Nat}:∀ (X:List α),(∀ a ∈ X,(f a).length<=c)->(X.flatMap f).length<=X.length*c
 | [],_=>Nat.zero_le _
 | a::X,h=>by
  rw [List.flatMap_cons,Yh,Yyj,Nat.succ_mul]
  have h1:=h a Yx
  have h2:=flat_len X fun b hb=>h b (Yn _ hb)
  omega
theorem flat_byte {α:Type} {f:α->List Int} (hf:∀ a,∀ x ∈ f a,0<=x/\x<256) (X:List α):∀ x ∈ X.flatMap f,0<=x/\x<256:=fun x hx=>by
 obtain ⟨a,_,h⟩:=List.mem_flatMap.1 hx
 exact hf a x h
theorem encL_byte {X:List Int}:∀ x ∈ encL X,0<=x/\x<256:=fun x hx=>by
 unfold encL at hx
 rcases Yk.1 hx with h | h
 ·
  exact encI_byte x h
 ·
  exact flat_byte (fun _=>encI_byte) X x h
theorem encL_len {X:List Int} (hX:∀ x ∈ X,I64 x) (hl:X.length<=9223372036854775807):(encL X).length<=10+X.length*10:=by
 unfold encL
 rw [Yh]
 have h1:=encI_len (n:=(X.length:Int)) ⟨by omega,by omega⟩
 have h2:=flat_len (f:=encI) (c:=10) X fun a ha=>encI_len (hX a ha)
 omega
def encC (S:List Int) (BL:List (List Int)):List Int:=encL S++(encI BL.length++BL.flatMap encL)
theorem encC_byte {S:List Int} {BL:List (List Int)}:∀ x ∈ encC S BL,0<=x/\x<256:=fun x hx=>by
 unfold encC at hx
 rcases Yk.1 hx with h | h
 ·
  exact encL_byte x h
 ·
  rcases Yk.1 h with h | h
  ·
   exact encI_byte x h
  ·
   exact flat_byte (fun _=>encL_byte) BL x h
/-! ### What the words of bits are -/
theorem zig_bits {n:Int} (h:I64 n):xorI .u64 (shlI .u64 (IntKind.wrap .u64 n) 1) (IntKind.wrap .u64 (shrI .i64 n 63))=(zigN n:Int):=by
 obtain ⟨h0,h1⟩:=h
 have e63:min (Int.toNat 63) (IntKind.bits .i64)=63:=by decide
 have e1:min (Int.toNat 1) (IntKind.bits .u64)=1:=by decide
 have es:shrI .i64 n 63=n / 9223372036854775808:=by
  unfold shrI
  rw [e63,Int.fdiv_eq_ediv_of_nonneg _ (by decide)]
  rfl
 have ex:∀ a b:Nat,a<2 ^ 64->b<2 ^ 64->xorI .u64 (a:Int) (b:Int)=((a ^^^ b:Nat):Int):=fun a b ha hb=>by
  unfold xorI
  have e:(BitVec.ofInt (IntKind.bits .u64) (a:Int) ^^^ BitVec.ofInt (IntKind.bits .u64) (b:Int)).toNat=a ^^^ b:=by
   show (BitVec.ofInt 64 (a:Int) ^^^ BitVec.ofInt 64 (b:Int)).toNat=_
   rw [BitVec.ofInt_natCast,BitVec.ofInt_natCast,BitVec.toNat_xor,BitVec.toNat_ofNat,BitVec.toNat_ofNat,Nat.mod_eq_of_lt ha,Nat.mod_eq_of_lt hb]
  rw [e]
  have:=Nat.xor_lt_two_pow ha hb
  exact wu64 (by omega) (by omega)
 rw [es]
 unfold shlI
 rw [e1]
 by_cases hn:0<=n
 ·
  have ez:n / 9223372036854775808=0:=by omega
  rw [ez,wu64 (n:=n) hn (by omega),show n*2 ^ 1=2*n by omega,wu64 (n:=2*n) (by omega) (by omega),wu64 (n:=0) (by decide) (by decide)]
  obtain ⟨m,rfl⟩:∃ m:Nat,n=(m:Int):=⟨n.toNat,by omega⟩
  rw [show (2:Int)*(m:Int)=((2*m:Nat):Int) by omega]
  have:=ex (2*m) 0 (by omega) (by decide)
  rw [Nat.xor_zero] at this
  unfold zigN
  rw [if_pos hn]
  refine this.trans ?_
  omega
 ·
  have ez:n / 9223372036854775808=-1:=by omega
  have ew:IntKind.wrap .u64 n=n+18446744073709551616:=by
   simp [IntKind.wrap,IntKind.signed,IntKind.bits]; omega
  have ew2:IntKind.wrap .u64 ((n+18446744073709551616)*2 ^ 1)=2*n+18446744073709551616:=by
   simp [IntKind.wrap,IntKind.signed,IntKind.bits]; omega
  have ew3:IntKind.wrap .u64 (-1)=((18446744073709551615:Nat):Int):=by decide
  rw [ez,ew,ew2,ew3]
  obtain ⟨m,hm⟩:∃ m:Nat,2*n+18446744073709551616=(m:Int):=⟨(2*n+18446744073709551616).toNat,by omega⟩
  rw [hm,ex m 18446744073709551615 (by omega) (by decide)]
  have hx:m ^^^ 18446744073709551615=18446744073709551615 - m:=by
   have h2:(BitVec.ofNat 64 m ^^^ BitVec.allOnes 64).toNat=(~~~ (BitVec.ofNat 64 m)).toNat:=by rw [BitVec.xor_allOnes]
   rw [BitVec.toNat_xor,BitVec.toNat_not,BitVec.toNat_allOnes,BitVec.toNat_ofNat,Nat.mod_eq_of_lt (show m<2 ^ 64 by omega)] at h2
   exact h2
  rw [hx]
  unfold zigN
  rw [if_neg hn]
  omega
theorem or128 {b:Nat} (h:b<256):b ||| 128=b % 128+128:=by
 have key:∀ b<256,b ||| 128=b % 128+128:=by decide
 exact key b h
theorem or_bits {u:Nat}:orI .u8 (IntKind.wrap .u8 (u:Int)) 128=((u % 128+128:Nat):Int):=by
 have ew:IntKind.wrap .u8 (u:Int)=((u % 256:Nat):Int):=by
  simp [IntKind.wrap,IntKind.signed,IntKind.bits]
 rw [ew]
 unfold orI
 have e:(BitVec.ofInt (IntKind.bits .u8) ((u % 256:Nat):Int) ||| BitVec.ofInt (IntKind.bits .u8) 128).toNat=u % 128+128:=by
  show (BitVec.ofInt 8 ((u % 256:Nat):Int) ||| BitVec.ofInt 8 ((128:Nat):Int)).toNat=_
  rw [BitVec.ofInt_natCast,BitVec.ofInt_natCast,BitVec.toNat_or,BitVec.toNat_ofNat,BitVec.toNat_ofNat,Nat.mod_eq_of_lt (show u % 256<2 ^ 8 by omega),Nat.mod_eq_of_lt (show 128<2 ^ 8 by decide),or128 (by omega)]
  omega
 rw [e]
 exact wu8 (by omega) (by omega)
theorem shr7 {u:Nat}:shrI .u64 (u:Int) 7=((u / 128:Nat):Int):=by
 have:=shr_nat (w:=u) (k:=7) (by decide)
 exact this
end Go.VC
end

section
namespace Go.VC
open Go.Proofs

end Go.VC
end

section
/- Contracts: Event on both sides. (Numbers of layer 27's development dump.) -/
namespace Go.VC
open Go.Proofs Go.LexS
end Go.VC
end

section
/- Contract: the reference's Event. (Numbers of layer 27's development dump.) -/
namespace Go.VC
open Go.Proofs Go.LexS
end Go.VC
end

section
/- Contract: the tail that the orders of the reference's Next share (printed by mkwju.py). -/
namespace Go.VC
open Go.Proofs Go.LexS
end Go.VC
end

section
namespace Go.VC
open Go.Proofs

end Go.VC
end

section
/- Contract: the reference's Next (printed by mkwjv.py). -/
namespace Go.VC
open Go.Proofs Go.LexS
end Go.VC
end

section
namespace Go.VC
open Go.Proofs

end Go.VC
end

section
/- Contract: the reference's Do. (Numbers of layer 27's development dump.) -/
namespace Go.VC
open Go.Proofs Go.LexS
end Go.VC
end

section
namespace Go.VC
open Go.Proofs

end Go.VC
end

section
/- The law ComposeDo (printed by mkwjx.py). -/
namespace Go.VC
open Go.Proofs Go.LexS
end Go.VC
end

section
/- Plain: a possible step leads from a proper configuration to a proper one. (Numbers of layer 27's development dump.) -/
namespace Go.VC
open Go.Proofs Go.LexS
end Go.VC
end

section
namespace Go.VC
open Go.Proofs

end Go.VC
end

section
/- Contract: Walk. (Numbers of layer 27's development dump.) -/
namespace Go.VC
open Go.Proofs Go.LexS
def u8C (b:Int):List Value:=[.int .u8 b]
end Go.VC
end

section
namespace Go.VC
open Go.Proofs

def W65 (p0:Sl) (p1:Int) (h:Heap) (R:Value->Heap->Prop):Prop:=
 (0<=(1:Int)/\(0<=(63:Int)/\(QSI p0 (xorI .u64 (shlI .u64 (IntKind.wrap .u64 p1) 1) (IntKind.wrap .u64 (shrI .i64 p1 63))) h fun I1 b_4 u_5 h6 m3=>(
 (sB (decide (u_5 >= 128))
 ((Wn h6 [.int .u8 (orI .u8 (IntKind.wrap .u8 u_5) 128)] 5 fun h7=>
 (App Pz 48 48 (vS b_4) (.slice (some (aS h6 0)) 1 1) h7 fun s8 h9=>
 (0<=(7:Int)/\(∃ m10,m10<m3/\I1 s8 (shrI .u64 u_5 7) h9 m10)))))
 ((Wn h6 [.int .u8 (IntKind.wrap .u8 u_5)] 5 fun h11=>
 (App Pz 48 48 (vS b_4) (.slice (some (aS h6 0)) 1 1) h11 fun s12 h13=>
 R (vS s12) h13))))))))
theorem vc65 (p0:Sl) (p1:Int) (h:Heap) (R:Value->Heap->Prop) (H:W65 p0 p1 h R):Fn Pz 65 #[vS p0,vI p1] h R:=fnI (A:=(.s .z (.s .z (.s (.b (.l [(0,.one (.slice)),(5,.one (.int .u64))] .z)) .z)))) (by kernel_rfl) H

def W66 (p0 p1:Sl) (h:Heap) (R:Value->Heap->Prop):Prop:=
 (Fn Pz 65 #[vS p0,vI (p1.n:Int)] h
 (fun v1 h3=>∃ x2,iS v1 x2 /\
 (QSI x2 0 h3 fun I4 b_7 x_8 h9 m6=>(
 (sB (decide (x_8<(p1.n:Int)))
 ((NB p1.a fun b10 o11=>(Ib x_8 p1.n /\
 (∃ x12,rI h9 ⟨b10,o11+Int.toNat x_8*1,none⟩ x12 /\
 (Fn Pz 65 #[vS b_7,vI x12] h9
 (fun v13 h15=>∃ x14,iS v13 x14 /\
 (∃ m16,m16<m6/\I4 x14 (IntKind.wrap .i64 (x_8+1)) h15 m16)))))))
 (R (vS b_7) h9))))))
theorem vc66 (p0 p1:Sl) (h:Heap) (R:Value->Heap->Prop) (H:W66 p0 p1 h R):Fn Pz 66 #[vS p0,vS p1] h R:=fnI (A:=(.s .z (.s .z (.s (.s .z (.b (.l [(0,.one (.slice)),(13,.one (.int .i64))] .z))) .z)))) (by kernel_rfl) H

def W35 (p0_1 p0_2:Sl) (h:Heap) (R:Value->Heap->Prop):Prop:=
 (Wn h [vS p0_1,vS p0_2] 29 fun h3=>
 (∃ x4,rS h3 (aS h 0) x4 /\
 (∃ x5,rS h3 (aS h 1) x5 /\
 (Fn Pz 66 #[.slice none 0 0,vS x4] h3
 (fun v6 h8=>∃ x7,iS v6 x7 /\
 (Sm [(aS h 1)] h3 h8 /\
 (Fn Pz 65 #[vS x7,vI (x5.n:Int)] h8
 (fun v9 h11=>∃ x10,iS v9 x10 /\
 (∃ x12,rS h11 (aS h 1) x12 /\
 (QSI x10 0 h11 fun I13 b_16 x_17 h18 m15=>(
 (sB (decide (x_17<(x12.n:Int)))
 ((NB x12.a fun b19 o20=>(Ib x_17 x12.n /\
 (∃ x21,rS h18 ⟨b19,o20+Int.toNat x_17*1,none⟩ x21 /\
 (Fn Pz 66 #[vS b_16,vS x21] h18
 (fun v22 h24=>∃ x23,iS v22 x23 /\
 (∃ m25,m25<m15/\I13 x23 (IntKind.wrap .i64 (x_17+1)) h24 m25)))))))
 (R (vS b_16) h18)))))))))))))
theorem vc35 (p0_1 p0_2:Sl) (h:Heap) (R:Value->Heap->Prop) (H:W35 p0_1 p0_2 h R):Fn Pz 35 #[.agg ⟨[vS p0_1,vS p0_2]⟩] h R:=fnI (A:=(.s .z (.s .z (.s (.s .z (.b (.l [(3,.one (.slice)),(16,.one (.int .i64))] .z))) .z)))) (by kernel_rfl) H

def W71 (p0:Sl) (h:Heap) (R:Value->Heap->Prop):Prop:=
 (Fn Pz 72 #[vI (p0.n:Int)] h
 (fun v1 h3=>∃ x2,iS v1 x2 /\
 (QSI x2 0 h3 fun I4 out_7 i_8 h9 m6=>(
 (sB (decide (i_8<(p0.n:Int)))
 ((NB p0.a fun b10 o11=>(Ib i_8 p0.n /\
 (∃ x12,rI h9 ⟨b10,o11+Int.toNat i_8*1,none⟩ x12 /\
 (Fn Pz 72 #[vI x12] h9
 (fun v13 h15=>∃ x14,iS v13 x14 /\
 (App Pz 48 48 (vS out_7) (vS x14) h15 fun s16 h17=>
 (∃ m18,m18<m6/\I4 s16 (IntKind.wrap .i64 (i_8+1)) h17 m18))))))))
 (R (vS out_7) h9))))))
theorem vc71 (p0:Sl) (h:Heap) (R:Value->Heap->Prop) (H:W71 p0 h R):Fn Pz 71 #[vS p0] h R:=fnI (A:=(.s .z (.s .z (.s (.s .z (.b (.l [(3,.one (.slice)),(4,.one (.int .i64))] .z))) .z)))) (by kernel_rfl) H

def W72 (p0:Int) (h:Heap) (R:Value->Heap->Prop):Prop:=
 (∃ J1:Int->Heap->Prop,
 ((sB (decide (p0<0))
 ((J1 (IntKind.wrap .u64 ((IntKind.wrap .u64 ((IntKind.wrap .u64 (IntKind.wrap .i64 (0 - (IntKind.wrap .i64 (p0+1)))))*2))+1)) h))
 ((J1 (IntKind.wrap .u64 ((IntKind.wrap .u64 p0)*2)) h)))) /\
 (∀ (_:Env) (u_2:Int) (h3:Heap),J1 u_2 h3 ->
 (QIS u_2 ⟨none,0,0⟩ h3 fun I4 u_7 out_8 h9 m6=>(
 (sB (decide (u_7 >= 128))
 (((128:Int) ≠ 0/\(Wn h9 [.int .u8 (IntKind.wrap .u8 ((IntKind.wrap .u8 (Int.tmod u_7 128))+128))] 5 fun h10=>
 (App Pz 48 48 (vS out_8) (.slice (some (aS h9 0)) 1 1) h10 fun s11 h12=>
 ((128:Int) ≠ 0/\(∃ m13,m13<m6/\I4 (IntKind.wrap .u64 (Int.tdiv u_7 128)) s11 h12 m13))))))
 ((Wn h9 [.int .u8 (IntKind.wrap .u8 u_7)] 5 fun h14=>
 (App Pz 48 48 (vS out_8) (.slice (some (aS h9 0)) 1 1) h14 fun s15 h16=>
 R (vS s15) h16))))))))
theorem vc72 (p0:Int) (h:Heap) (R:Value->Heap->Prop) (H:W72 p0 h R):Fn Pz 72 #[vI p0] h R:=fnI (A:=(.s .z (.s .z (.j [(3,.one (.int .u64))] .z (.s .z (.s (.b (.l [(3,.one (.int .u64)),(4,.one (.slice))] .z)) .z)))))) (by kernel_rfl) H

def W40 (p0_1 p0_2:Sl) (h:Heap) (R:Value->Heap->Prop):Prop:=
 (Wn h [vS p0_1,vS p0_2] 26 fun h3=>
 (∃ x4,rS h3 (aS h 0) x4 /\
 (∃ x5,rS h3 (aS h 1) x5 /\
 (Fn Pz 71 #[vS x4] h3
 (fun v6 h8=>∃ x7,iS v6 x7 /\
 (Sm [(aS h 1)] h3 h8 /\
 (Fn Pz 72 #[vI (x5.n:Int)] h8
 (fun v9 h11=>∃ x10,iS v9 x10 /\
 (Sm [(aS h 0)] h8 h11 /\
 (App Pz 48 48 (vS x7) (vS x10) h11 fun s12 h13=>
 (QSI s12 0 h13 fun I14 b_17 i_18 h19 m16=>(
 (∃ x20,rS h19 (aS h 1) x20 /\
 (sB (decide (i_18<(x20.n:Int)))
 ((∃ x21,rS h19 (aS h 1) x21 /\
 (NB x21.a fun b22 o23=>(Ib i_18 x21.n /\
 (∃ x24,rS h19 ⟨b22,o23+Int.toNat i_18*1,none⟩ x24 /\
 (Fn Pz 71 #[vS x24] h19
 (fun v25 h27=>∃ x26,iS v25 x26 /\
 (App Pz 48 48 (vS b_17) (vS x26) h27 fun s28 h29=>
 (∃ m30,m30<m16/\I14 s28 (IntKind.wrap .i64 (i_18+1)) h29 m30)))))))))
 (R (vS b_17) h19)))))))))))))))
theorem vc40 (p0_1 p0_2:Sl) (h:Heap) (R:Value->Heap->Prop) (H:W40 p0_1 p0_2 h R):Fn Pz 40 #[.agg ⟨[vS p0_1,vS p0_2]⟩] h R:=fnI (A:=(.s .z (.s .z (.s (.s .z (.b (.l [(3,.one (.slice)),(4,.one (.int .i64))] .z))) .z)))) (by kernel_rfl) H

end Go.VC
end

section
/- Contracts: the encodings, on both sides. (Numbers of layer 27's development dump.) -/
namespace Go.VC
open Go.Proofs Go.LexS
theorem app48:appB Pz 48 5 1 1=true:=by kernel_rfl
theorem u8rows (l:List Int):∀ r ∈ l.map u8C,r.length=1:=fun r hr=>by obtain ⟨x,_,rfl⟩:=Yp.1 hr; rfl
set_option maxHeartbeats 800000 in
theorem int65 (b:Sl) (xs:List Int) (n:Int) (h0 h:Heap) (L:List It) (hs:St h0 h (.sl b 5 1 (xs.map u8C)::L)) (hn:I64 n) (hl:xs.length<=100000000) :
  Fn Pz 65 #[.slice b.a b.n b.c,.int .i64 n] h fun v h'=>∃ b':Sl,v=.slice b'.a b'.n b'.c/\St h0 h' (.sl b' 5 1 ((xs++encI n).map u8C)::L):=by
 apply vc65 b n; unfold W65
 rw [zig_bits hn]
 refine ⟨by decide,by decide,?_⟩
 have hz:=zig_lt hn.1 hn.2
 refine ⟨fun b u h' μ=>∃ (v:Nat) (pre:List Int),u=(v:Int)/\μ=v/\v<18446744073709551616/\pre++venc v=encI n/\St h0 h' (.sl b 5 1 ((xs++pre).map u8C)::L),⟨_,zigN n,[],rfl,rfl,hz,rfl,by rw [Yw]; exact hs⟩,?_⟩
 clear hs
 rintro - b2 _ h6 μ ⟨v,pre,rfl,hμ,hv,he,hs⟩
 have hlen:=(hs.rows 0 (s:=b2) (cs:=u8C) rfl (by omega)).ln
 have hpl:pre.length<=10:=by
  have h1:=congrArg List.length he
  rw [Yh] at h1
  have h2:=encI_len hn
  omega
 rw [Yh] at hlen
 refine sBi (fun c=>?_) (fun c=>?_)
 ·
  have hv1:¬ v<128:=by omega
  rw [venc_ge hv1] at he
  rw [or_bits]
  refine hs.app 0 (s:=b2) (rows:=(xs++pre).map u8C) rfl app48 (m:=1) [[.int .u8 ((v % 128+128:Nat):Int)]] rfl rfl (by simp) rfl (by omega) (by simp only [maxLen]; omega) fun s8 h9 ns hs=>?_
  refine ⟨by decide,v / 128,by omega,v / 128,pre++[((v % 128+128:Nat):Int)],shr7,rfl,by omega,by rw [Yz]; exact he,?_⟩
  rw [<- Yz,Ym]; exact hs
 ·
  have hv1:v<128:=by omega
  rw [venc_lt hv1] at he
  rw [wu8 (n:=(v:Int)) (by omega) (by omega)]
  refine hs.app 0 (s:=b2) (rows:=(xs++pre).map u8C) rfl app48 (m:=1) [[.int .u8 (v:Int)]] rfl rfl (by simp) rfl (by omega) (by simp only [maxLen]; omega) fun s12 h13 ns hs=>?_
  refine ⟨s12,rfl,?_⟩
  rw [<- he,<- Yz,Ym]; exact hs
set_option maxHeartbeats 800000 in
theorem ints66 (b:Sl) (xs X:List Int) (p1:Sl) (h0 h:Heap) (L:List It) (hs:St h0 h (.sl b 5 1 (xs.map u8C)::L)) (hX:RL h0 1 p1 inC X) (hI:∀ x ∈ X,I64 x) (hl:xs.length<=50000000) (hXl:X.length<=1000000) :
  Fn Pz 66 #[.slice b.a b.n b.c,.slice p1.a p1.n p1.c] h fun v h'=>∃ b':Sl,v=.slice b'.a b'.n b'.c/\St h0 h' (.sl b' 5 1 ((xs++encL X).map u8C)::L):=by
 apply vc66 b p1; unfold W66
 have hn:=hX.ln
 have hI0:I64 (p1.n:Int):=⟨by omega,by omega⟩
 refine (int65 b xs (p1.n:Int) h0 h L hs hI0 (by omega)).mono ?_
 rintro _ h3 ⟨b1,rfl,hs⟩
 refine ⟨b1,rfl,?_⟩
 refine ⟨fun b x h' μ=>∃ i:Nat,x=(i:Int)/\μ=X.length - i/\i<=X.length/\St h0 h' (.sl b 5 1 ((xs++encI (p1.n:Int)++(X.take i).flatMap encI).map u8C)::L),⟨_,0,rfl,rfl,Nat.zero_le _,by rw [Yyk,List.flatMap_nil,Yw]; exact hs⟩,?_⟩
 clear hs
 rintro - b2 _ h9 μ ⟨i,rfl,rfl,hi,hs⟩
 refine sBi (fun c=>?_) (fun c=>?_)
 ·
  refine (hX.rw.ext hs.ext).nbI (by omega) (by omega) fun b10 o11 x gx t=>?_
  replace gx:X[i]?=some x:=gx
  refine ⟨x,t.hd,?_⟩
  have hfl:=flat_len (f:=encI) (c:=10) (X.take i) fun a ha=>encI_len (hI a (List.mem_of_mem_take ha))
  have h1:=encI_len hI0
  have h2:(X.take i).length<=1000000:=by rw [Yu]; omega
  refine (int65 b2 _ x h0 h9 L hs (hI x (Yb gx)) (by rw [Yh,Yh]; omega)).mono ?_
  rintro _ h15 ⟨b3,rfl,hs⟩
  refine ⟨b3,rfl,_,(show X.length - (i+1)<X.length - i by omega),i+1,by rw [w64 (by omega) (by omega)]; omega,rfl,by omega,?_⟩
  rw [take_snoc gx,List.flatMap_append,List.flatMap_cons,List.flatMap_nil,Yw,<- Yz]
  exact hs
 ·
  have hie:i=X.length:=by omega
  subst hie
  rw [Yye] at hs
  refine ⟨b2,rfl,?_⟩
  unfold encL
  rw [<- hn,<- Yz]; exact hs
structure EncOk (S:List Int) (BL:List (List Int)):Prop where
 s:∀ x ∈ S,I64 x
 b:∀ q ∈ BL,q.length<=1000/\∀ x ∈ q,I64 x
 n:S.length<=1000/\BL.length<=1000
theorem EncOk.fl {S:List Int} {BL:List (List Int)} (h:EncOk S BL) (i:Nat):((BL.take i).flatMap encL).length<=10010000:=by
 have h1:=flat_len (f:=encL) (c:=10010) (BL.take i) fun q hq=>by
  obtain ⟨h2,h3⟩:=h.b q (List.mem_of_mem_take hq)
  have:=encL_len h3 (by omega)
  omega
 have h2:(BL.take i).length<=1000:=by rw [Yu]; have:=h.n.2; omega
 omega
set_option maxHeartbeats 800000 in
theorem encode35 (ss sb:Sl) (S:List Int) (B:List Bx) (h:Heap) (hC:CfI h ss sb S B) (hE:EncOk S (B.map Bx.l)) :
  Fn Pz 35 #[.agg ⟨[.slice ss.a ss.n ss.c,.slice sb.a sb.n sb.c]⟩] h fun v h'=>∃ b:Sl,v=.slice b.a b.n b.c/\St h h' [.sl b 5 1 ((encC S (B.map Bx.l)).map u8C)]:=by
 apply vc35 ss sb; unfold W35
 have hbn:=hC.b.ln
 have hbm:(B.map Bx.l).length=B.length:=Yc _
 obtain ⟨hE1,hE2⟩:=hE.n
 rw [hbm] at hE2
 have hI0:I64 (sb.n:Int):=⟨by omega,by omega⟩
 refine (St.refl h).newb fun h3 hs=>?_
 refine ⟨ss,hs.rd 0 rfl rfl,sb,hs.rd 0 rfl (i:=1) rfl,?_⟩
 have hs3:=hs
 have hs:St h h3 (.sl ⟨none,0,0⟩ 5 1 (([]:List Int).map u8C)::_):=hs.nil_ 5 1
 refine (ints66 ⟨none,0,0⟩ [] S ss h h3 _ hs hC.s hE.s (by simp) (by omega)).mono ?_
 rintro _ h8 ⟨b1,rfl,hs⟩
 rw [List.nil_append] at hs
 have hel:=encL_len hE.s (by omega)
 have hi0:=encI_len hI0
 refine ⟨b1,rfl,hs3.smbO hs 0 1 1 rfl rfl,?_⟩
 refine (int65 b1 _ (sb.n:Int) h h8 _ hs hI0 (by omega)).mono ?_
 rintro _ h11 ⟨b2,rfl,hs⟩
 refine ⟨b2,rfl,sb,hs.rd 1 rfl (i:=1) rfl,?_⟩
 refine ⟨fun b x h' μ=>∃ i:Nat,x=(i:Int)/\μ=B.length - i/\i<=B.length/\St h h' [.sl b 5 1 ((encL S++encI (sb.n:Int)++((B.map Bx.l).take i).flatMap encL).map u8C),.blk h.size [.slice ss.a ss.n ss.c,.slice sb.a sb.n sb.c] 29],⟨_,0,rfl,rfl,Nat.zero_le _,by rw [Yyk,List.flatMap_nil,Yw]; exact hs⟩,?_⟩
 clear hs hs3
 rintro - b3 _ h18 μ ⟨i,rfl,rfl,hi,hs⟩
 refine sBi (fun c=>?_) (fun c=>?_)
 ·
  refine (hC.b.rw.ext hs.ext).nbI (by omega) (by omega) fun b19 o20 q gq t=>?_
  replace gq:B[i]?=some q:=gq
  have gq1:(B.map Bx.l)[i]?=some q.l:=by rw [Yd,gq]; rfl
  obtain ⟨hq1,hq2⟩:=hE.b q.l (Yb gq1)
  have hfl:=hE.fl i
  refine ⟨q.s,t.hd,?_⟩
  refine (ints66 b3 _ q.l q.s h h18 _ hs (hC.i q (Yb gq)) hq2 (by rw [Yh,Yh]; omega) (by omega)).mono ?_
  rintro _ h24 ⟨b4,rfl,hs⟩
  refine ⟨b4,rfl,_,(show B.length - (i+1)<B.length - i by omega),i+1,by rw [w64 (by omega) (by omega)]; omega,rfl,by omega,?_⟩
  rw [take_snoc gq1,List.flatMap_append,List.flatMap_cons,List.flatMap_nil,Yw,<- Yz]
  exact hs
 ·
  have hie:i=(B.map Bx.l).length:=by omega
  rw [hie,Yye] at hs
  refine ⟨b3,rfl,?_⟩
  unfold encC
  rw [hbm,<- hbn,<- Yz]
  exact hs.sub (.cons_cons _ (List.nil_sublist _))
set_option maxHeartbeats 800000 in
theorem refInt72 (n:Int) (h:Heap) (hn:I64 n) :
  Fn Pz 72 #[.int .i64 n] h fun v h'=>∃ b:Sl,v=.slice b.a b.n b.c/\St h h' [.sl b 5 1 ((encI n).map u8C)]:=by
 apply vc72 n; unfold W72
 have hz:=zig_lt hn.1 hn.2
 refine ⟨fun u h'=>u=(zigN n:Int)/\h'=h,sBi (fun c=>⟨?_,rfl⟩) (fun c=>⟨?_,rfl⟩),?_⟩
 ·
  obtain ⟨h0,h1⟩:=hn
  rw [w64 (n:=n+1) (by omega) (by omega),w64 (n:=0 - (n+1)) (by omega) (by omega),wu64 (n:=0 - (n+1)) (by omega) (by omega),wu64 (n:=(0 - (n+1))*2) (by omega) (by omega),wu64 (by omega) (by omega)]
  unfold zigN; rw [if_neg (by omega)]; omega
 ·
  obtain ⟨h0,h1⟩:=hn
  rw [wu64 (n:=n) (by omega) (by omega),wu64 (by omega) (by omega)]
  unfold zigN; rw [if_pos (by omega)]; omega
 rintro - _ h3 ⟨rfl,rfl⟩
 have hs:St h3 h3 [.sl ⟨none,0,0⟩ 5 1 (([]:List Int).map u8C)]:=(St.refl h3).nil_ 5 1
 refine ⟨fun u b h' μ=>∃ (v:Nat) (pre:List Int),u=(v:Int)/\μ=v/\v<18446744073709551616/\pre++venc v=encI n/\St h3 h' [.sl b 5 1 (pre.map u8C)],⟨_,zigN n,[],rfl,rfl,hz,rfl,hs⟩,?_⟩
 clear hs
 rintro - _ b2 h6 μ ⟨v,pre,rfl,hμ,hv,he,hs⟩
 have hlen:=(hs.rows 0 (s:=b2) (cs:=u8C) rfl (by omega)).ln
 have hpl:pre.length<=10:=by
  have h1:=congrArg List.length he
  rw [Yh] at h1
  have h2:=encI_len hn
  omega
 refine sBi (fun c=>?_) (fun c=>?_)
 ·
  have hv1:¬ v<128:=by omega
  rw [venc_ge hv1] at he
  have eb:IntKind.wrap .u8 (IntKind.wrap .u8 (Int.tmod (v:Int) 128)+128)=((v % 128+128:Nat):Int):=by
   rw [show Int.tmod (v:Int) 128=((v % 128:Nat):Int) from rfl,wu8 (n:=((v % 128:Nat):Int)) (by omega) (by omega),wu8 (by omega) (by omega)]
   omega
  rw [eb]
  refine ⟨by decide,?_⟩
  refine hs.app 0 (s:=b2) (rows:=pre.map u8C) rfl app48 (m:=1) [[.int .u8 ((v % 128+128:Nat):Int)]] rfl rfl (by simp) rfl (by omega) (by simp only [maxLen]; omega) fun s8 h9 ns hs=>?_
  refine ⟨by decide,v / 128,by omega,v / 128,pre++[((v % 128+128:Nat):Int)],?_,rfl,by omega,by rw [Yz]; exact he,?_⟩
  ·
   rw [show Int.tdiv (v:Int) 128=((v / 128:Nat):Int) from rfl,wu64 (by omega) (by omega)]
  ·
   rw [Ym]; exact hs
 ·
  have hv1:v<128:=by omega
  rw [venc_lt hv1] at he
  rw [wu8 (n:=(v:Int)) (by omega) (by omega)]
  refine hs.app 0 (s:=b2) (rows:=pre.map u8C) rfl app48 (m:=1) [[.int .u8 (v:Int)]] rfl rfl (by simp) rfl (by omega) (by simp only [maxLen]; omega) fun s12 h13 ns hs=>?_
  refine ⟨s12,rfl,?_⟩
  rw [<- he,Ym]; exact hs
set_option maxHeartbeats 800000 in
theorem refInts71 (X:List Int) (p0:Sl) (h:Heap) (hX:RL h 1 p0 inC X) (hI:∀ x ∈ X,I64 x) (hXl:X.length<=1000000) :
  Fn Pz 71 #[.slice p0.a p0.n p0.c] h fun v h'=>∃ b:Sl,v=.slice b.a b.n b.c/\St h h' [.sl b 5 1 ((encL X).map u8C)]:=by
 apply vc71 p0; unfold W71
 have hn:=hX.ln
 have hI0:I64 (p0.n:Int):=⟨by omega,by omega⟩
 refine (refInt72 (p0.n:Int) h hI0).mono ?_
 rintro _ h3 ⟨b1,rfl,hs⟩
 refine ⟨b1,rfl,?_⟩
 refine ⟨fun b x h' μ=>∃ i:Nat,x=(i:Int)/\μ=X.length - i/\i<=X.length/\St h h' [.sl b 5 1 ((encI (p0.n:Int)++(X.take i).flatMap encI).map u8C)],⟨_,0,rfl,rfl,Nat.zero_le _,by rw [Yyk,List.flatMap_nil,Yw]; exact hs⟩,?_⟩
 clear hs
 rintro - b2 _ h9 μ ⟨i,rfl,rfl,hi,hs⟩
 refine sBi (fun c=>?_) (fun c=>?_)
 ·
  refine (hX.rw.ext hs.ext).nbI (by omega) (by omega) fun b10 o11 x gx t=>?_
  replace gx:X[i]?=some x:=gx
  refine ⟨x,t.hd,?_⟩
  have hfl:=flat_len (f:=encI) (c:=10) (X.take i) fun a ha=>encI_len (hI a (List.mem_of_mem_take ha))
  have h1:=encI_len hI0
  have h2:(X.take i).length<=1000000:=by rw [Yu]; omega
  have hix:=hI x (Yb gx)
  have h4:=encI_len hix
  refine (refInt72 x h9 hix).mono ?_
  rintro _ h15 ⟨b3,rfl,hs1⟩
  have hs:=hs.join hs1
  have hb2:=(hs.rows 0 (s:=b2) (cs:=u8C) rfl (by omega)).ln
  have hb3:=(hs.rows 1 (s:=b3) (cs:=u8C) rfl (by omega)).ln
  rw [Yh] at hb2
  refine ⟨b3,rfl,?_⟩
  refine hs.appRw 0 (s:=b2) (y:=b3) (rows:=(encI (p0.n:Int)++(X.take i).flatMap encI).map u8C) (news:=(encI x).map u8C) rfl app48 (hs.rows 1 (s:=b3) (cs:=u8C) rfl (by omega)) (u8rows _) (hs.len 1 (s:=b3) (e:=5) (n:=1) rfl (by omega)).2.2 (flat_oneB (fun _=>rfl) _) (by omega) (by simp only [maxLen]; omega) fun s16 h17 ns hs=>?_
  refine ⟨_,(show X.length - (i+1)<X.length - i by omega),i+1,by rw [w64 (by omega) (by omega)]; omega,rfl,by omega,?_⟩
  rw [take_snoc gx,List.flatMap_append,List.flatMap_cons,List.flatMap_nil,Yw,<- Yz,Ym]
  exact hs.eras 1
 ·
  have hie:i=X.length:=by omega
  subst hie
  rw [Yye] at hs
  refine ⟨b2,rfl,?_⟩
  unfold encL
  rw [<- hn]; exact hs
set_option maxHeartbeats 1600000 in
theorem refEncode40 (ss sb:Sl) (S:List Int) (B:List Bx) (h:Heap) (hC:CfI h ss sb S B) (hE:EncOk S (B.map Bx.l)) :
  Fn Pz 40 #[.agg ⟨[.slice ss.a ss.n ss.c,.slice sb.a sb.n sb.c]⟩] h fun v h'=>∃ b:Sl,v=.slice b.a b.n b.c/\St h h' [.sl b 5 1 ((encC S (B.map Bx.l)).map u8C)]:=by
 apply vc40 ss sb; unfold W40
 have hbn:=hC.b.ln
 have hbm:(B.map Bx.l).length=B.length:=Yc _
 obtain ⟨hE1,hE2⟩:=hE.n
 rw [hbm] at hE2
 have hI0:I64 (sb.n:Int):=⟨by omega,by omega⟩
 have hel:=encL_len hE.s (by omega)
 have hi0:=encI_len hI0
 refine (St.refl h).newb fun h3 hs=>?_
 refine ⟨ss,hs.rd 0 rfl rfl,sb,hs.rd 0 rfl (i:=1) rfl,?_⟩
 have hs3:=hs
 refine (refInts71 S ss h3 (hC.s.ext hs.ext) hE.s (by omega)).mono ?_
 rintro _ h8 ⟨b1,rfl,hs1⟩
 have hs:=hs.join hs1
 refine ⟨b1,rfl,hs1.ext.sm,?_⟩
 refine (refInt72 (sb.n:Int) h8 hI0).mono ?_
 rintro _ h11 ⟨b2,rfl,hs2⟩
 have hs:=hs.join hs2
 have hb1:=(hs.rows 1 (s:=b1) (cs:=u8C) rfl (by omega)).ln
 have hb2:=(hs.rows 2 (s:=b2) (cs:=u8C) rfl (by omega)).ln
 refine ⟨b2,rfl,hs2.ext.sm,?_⟩
 refine hs.appRw 1 (s:=b1) (y:=b2) (rows:=(encL S).map u8C) (news:=(encI (sb.n:Int)).map u8C) rfl app48 (hs.rows 2 (s:=b2) (cs:=u8C) rfl (by omega)) (u8rows _) (hs.len 2 (s:=b2) (e:=5) (n:=1) rfl (by omega)).2.2 (flat_oneB (fun _=>rfl) _) (by omega) (by simp only [maxLen]; omega) fun s12 h13 ns hs=>?_
 rw [<- Ym] at hs
 have hs:=hs.eras 2
 refine ⟨fun b x h' μ=>∃ i:Nat,x=(i:Int)/\μ=B.length - i/\i<=B.length/\St h h' [.blk h.size [.slice ss.a ss.n ss.c,.slice sb.a sb.n sb.c] 26,.sl b 5 1 ((encL S++encI (sb.n:Int)++((B.map Bx.l).take i).flatMap encL).map u8C)],⟨_,0,rfl,rfl,Nat.zero_le _,by rw [Yyk,List.flatMap_nil,Yw]; exact hs⟩,?_⟩
 clear hs hs3
 rintro - b3 _ h19 μ ⟨i,rfl,rfl,hi,hs⟩
 refine ⟨sb,hs.rd 0 rfl (i:=1) rfl,sBi (fun c=>?_) (fun c=>?_)⟩
 ·
  refine ⟨sb,hs.rd 0 rfl (i:=1) rfl,?_⟩
  refine (hC.b.rw.ext hs.ext).nbI (by omega) (by omega) fun b22 o23 q gq t=>?_
  replace gq:B[i]?=some q:=gq
  have gq1:(B.map Bx.l)[i]?=some q.l:=by rw [Yd,gq]; rfl
  obtain ⟨hq1,hq2⟩:=hE.b q.l (Yb gq1)
  have hfl:=hE.fl i
  have hql:=encL_len hq2 (by omega)
  refine ⟨q.s,t.hd,?_⟩
  refine (refInts71 q.l q.s h19 ((hC.i q (Yb gq)).ext hs.ext) hq2 (by omega)).mono ?_
  rintro _ h27 ⟨b4,rfl,hs4⟩
  have hs:=hs.join hs4
  have hb3:=(hs.rows 1 (s:=b3) (cs:=u8C) rfl (by omega)).ln
  have hb4:=(hs.rows 2 (s:=b4) (cs:=u8C) rfl (by omega)).ln
  rw [Yh,Yh] at hb3
  refine ⟨b4,rfl,?_⟩
  refine hs.appRw 1 (s:=b3) (y:=b4) (rows:=(encL S++encI (sb.n:Int)++((B.map Bx.l).take i).flatMap encL).map u8C) (news:=(encL q.l).map u8C) rfl app48 (hs.rows 2 (s:=b4) (cs:=u8C) rfl (by omega)) (u8rows _) (hs.len 2 (s:=b4) (e:=5) (n:=1) rfl (by omega)).2.2 (flat_oneB (fun _=>rfl) _) (by omega) (by simp only [maxLen]; omega) fun s28 h29 ns hs=>?_
  refine ⟨_,(show B.length - (i+1)<B.length - i by omega),i+1,by rw [w64 (by omega) (by omega)]; omega,rfl,by omega,?_⟩
  rw [take_snoc gq1,List.flatMap_append,List.flatMap_cons,List.flatMap_nil,Yw,<- Yz,Ym]
  exact hs.eras 2
 ·
  have hie:i=(B.map Bx.l).length:=by omega
  rw [hie,Yye] at hs
  refine ⟨b3,rfl,?_⟩
  unfold encC
  rw [hbm,<- hbn,<- Yz]
  exact hs.drop 1
end Go.VC
end

section
namespace Go.VC
open Go.Proofs

def W63 (p0 p1:Sl) (h:Heap) (R:Value->Heap->Prop):Prop:=
 (sB ((p0.n:Int) != (p1.n:Int))
 (R (.bool false) h)
 ((QI 0 h fun I1 x_4 h5 m3=>(
 (sB (decide (x_4<(p0.n:Int)))
 ((NB p0.a fun b6 o7=>(Ib x_4 p0.n /\
 (∃ x8,rI h5 ⟨b6,o7+Int.toNat x_4*1,none⟩ x8 /\
 (NB p1.a fun b9 o10=>(Ib x_4 p1.n /\
 (∃ x11,rI h5 ⟨b9,o10+Int.toNat x_4*1,none⟩ x11 /\
 (sB (x8 != x11)
 (R (.bool false) h5)
 ((∃ m12,m12<m3/\I1 (IntKind.wrap .i64 (x_4+1)) h5 m12))))))))))
 (R (.bool true) h5))))))
theorem vc63 (p0 p1:Sl) (h:Heap) (R:Value->Heap->Prop) (H:W63 p0 p1 h R):Fn Pz 63 #[vS p0,vS p1] h R:=fnI (A:=(.s .z (.s .z (.s (.s .z (.b (.l [(13,.one (.int .i64))] .z))) .z)))) (by kernel_rfl) H

def W64 (p0 p1:Sl) (p2:FuncId) (h:Heap) (R:Value->Heap->Prop):Prop:=
 (sB ((p0.n:Int) != (p1.n:Int))
 (R (.bool false) h)
 ((QI 0 h fun I1 x_4 h5 m3=>(
 (sB (decide (x_4<(p0.n:Int)))
 ((NB p0.a fun b6 o7=>(Ib x_4 p0.n /\
 (∃ x8,rS h5 ⟨b6,o7+Int.toNat x_4*1,none⟩ x8 /\
 (NB p1.a fun b9 o10=>(Ib x_4 p1.n /\
 (∃ x11,rS h5 ⟨b9,o10+Int.toNat x_4*1,none⟩ x11 /\
 (bif callable Pz p2 then Fn Pz p2 #[vS x8,vS x11] h5
 (fun v12 h14=>∃ x13,iB v12 x13 /\
 (sB (!x13)
 (R (.bool false) h14)
 ((∃ m15,m15<m3/\I1 (IntKind.wrap .i64 (x_4+1)) h14 m15)))) else ExtW Pz p2 #[vS x8,vS x11] h5
 (fun v12 h14=>∃ x13,iB v12 x13 /\
 (sB (!x13)
 (R (.bool false) h14)
 ((∃ m15,m15<m3/\I1 (IntKind.wrap .i64 (x_4+1)) h14 m15))))))))))))
 (R (.bool true) h5))))))
theorem vc64 (p0 p1:Sl) (p2:FuncId) (h:Heap) (R:Value->Heap->Prop) (H:W64 p0 p1 p2 h R):Fn Pz 64 #[vS p0,vS p1,.func (.func p2) #[] #[]] h R:=fnI (A:=(.s .z (.s .z (.s (.s .z (.b (.l [(17,.one (.int .i64))] .z))) .z)))) (by kernel_rfl) H

def W32 (p0_1 p0_2 p1_3 p1_4:Sl) (h:Heap) (R:Value->Heap->Prop):Prop:=
 (Wn h [vS p0_1,vS p0_2] 29 fun h5=>
 (Wn h5 [vS p1_3,vS p1_4] 29 fun h6=>
 (∃ x7,rS h6 (aS h 0) x7 /\
 (∃ x8,rS h6 (aS h5 0) x8 /\
 (Fn Pz 63 #[vS x7,vS x8] h6
 (fun v9 h11=>∃ x10,iB v9 x10 /\
 (sB x10
 ((∃ x12,rS h11 (aS h 1) x12 /\
 (∃ x13,rS h11 (aS h5 1) x13 /\
 (Fn Pz 64 #[vS x12,vS x13,.func (.func 63) #[] #[]] h11
 (fun v14 h16=>∃ x15,iB v14 x15 /\
 R (.bool x15) h16)))))
 (R (.bool false) h11))))))))
theorem vc32 (p0_1 p0_2 p1_3 p1_4:Sl) (h:Heap) (R:Value->Heap->Prop) (H:W32 p0_1 p0_2 p1_3 p1_4 h R):Fn Pz 32 #[.agg ⟨[vS p0_1,vS p0_2]⟩,.agg ⟨[vS p1_3,vS p1_4]⟩] h R:=fnI (A:=.z) (by kernel_rfl) H

end Go.VC
end

section
/- Contract: equality of configurations. (Numbers of layer 27's development dump.) -/
namespace Go.VC
open Go.Proofs Go.LexS
theorem equal63 (X Y:List Int) (a b:Sl) (h:Heap) (hX:RL h 1 a inC X) (hY:RL h 1 b inC Y):Fn Pz 63 #[.slice a.a a.n a.c,.slice b.a b.n b.c] h (RP (X=Y) h):=by
 apply vc63 a b; unfold W63
 have ha:=hX.ln
 have hb:=hY.ln
 have hsm:=hX.sm
 refine sBn (fun c=>RP.f (fun hG=>by rw [hG] at ha; omega) .rfl') (fun c1=>?_)
 refine up_loopS (n:=a.n) (St.refl h) (fun i=>∀ (j:Nat),j<i->X[j]?=Y[j]?) (fun j hj=>by omega) ?_
 rintro - i h5 hi ⟨hs,hq⟩
 refine sB_intro (fun c=>?_) (fun c=>?_)
 ·
  replace c:=lt_t c
  refine (hX.rw.ext hs.ext).nbI (by omega) (by omega) fun b1 o1 x gx t1=>?_
  replace gx:X[i]?=some x:=gx
  refine ⟨_,t1.hd,?_⟩
  refine (hY.rw.ext hs.ext).nbI (by omega) (by omega) fun b2 o2 y gy t2=>?_
  replace gy:Y[i]?=some y:=gy
  refine ⟨_,t2.hd,sBn (fun c2=>RP.f (fun hG=>by rw [hG,gy] at gx; cases gx; exact c2 rfl) hs.ext) (fun c2=>?_)⟩
  refine Up.next (by omega) (by omega) ⟨hs,fun j hj=>?_⟩
  by_cases e:j=i
  ·
   subst e; rw [gx,gy,c2]
  ·
   exact hq j (by omega)
 ·
  replace c:=lt_f c
  refine RP.t (Yyr fun j=>?_) hs.ext
  by_cases hj:j<X.length
  ·
   exact hq j (by omega)
  ·
   rw [Yl (by omega),Yl (by omega)]
theorem cal63:callable Pz 63=true:=by kernel_rfl
theorem equal64 (B1 B2:List Bx) (b1 b2:Sl) (h:Heap) (h1:RL h 1 b1 Bx.cs B1) (h2:RL h 1 b2 Bx.cs B2) (i1:∀ q ∈ B1,RL h 1 q.s inC q.l) (i2:∀ q ∈ B2,RL h 1 q.s inC q.l) :
  Fn Pz 64 #[.slice b1.a b1.n b1.c,.slice b2.a b2.n b2.c,.func (.func 63) #[] #[]] h (RP (B1.map Bx.l=B2.map Bx.l) h):=by
 apply vc64 b1 b2 63; unfold W64
 have n1:=h1.ln
 have n2:=h2.ln
 have m1:=h1.sm
 refine sBn (fun c=>RP.f (fun hG=>?_) .rfl') (fun c1=>?_)
 ·
  have:=congrArg List.length hG
  rw [Yc,Yc] at this
  omega
 refine up_loopS (n:=b1.n) (St.refl h) (fun i=>∀ (j:Nat),j<i->(B1.map Bx.l)[j]?=(B2.map Bx.l)[j]?) (fun j hj=>by omega) ?_
 rintro - i h5 hi ⟨hs,hq⟩
 refine sB_intro (fun c=>?_) (fun c=>?_)
 ·
  replace c:=lt_t c
  refine (h1.rw.ext hs.ext).nbI (by omega) (by omega) fun b3 o3 x gx t3=>?_
  replace gx:B1[i]?=some x:=gx
  refine ⟨x.s,t3.hd,?_⟩
  refine (h2.rw.ext hs.ext).nbI (by omega) (by omega) fun b4 o4 y gy t4=>?_
  replace gy:B2[i]?=some y:=gy
  refine ⟨y.s,t4.hd,?_⟩
  rw [cal63,cond_true]
  refine (equal63 x.l y.l x.s y.s h5 ((i1 x (Yb gx)).ext hs.ext) ((i2 y (Yb gy)).ext hs.ext)).mono ?_
  rintro _ h14 ⟨⟨b',rfl,hb'⟩,E⟩
  have hs:=hs.step E
  have ex:(B1.map Bx.l)[i]?=some x.l:=by rw [Yd,gx]; rfl
  have ey:(B2.map Bx.l)[i]?=some y.l:=by rw [Yd,gy]; rfl
  refine ⟨_,rfl,sB_intro (fun c=>RP.f (fun hG=>iff_f hb' (bF c) ?_) hs.ext) (fun c2=>?_)⟩
  ·
   rw [hG,ey] at ex; exact (Yyp ex).symm
  ·
   refine Up.next (by omega) (by omega) ⟨hs,fun j hj=>?_⟩
   by_cases e:j=i
   ·
    subst e; rw [ex,ey,hb'.1 (bT c2)]
   ·
    exact hq j (by omega)
 ·
  replace c:=lt_f c
  refine RP.t (Yyr fun j=>?_) hs.ext
  by_cases hj:j<B1.length
  ·
   exact hq j (by omega)
  ·
   rw [Yl (by rw [Yc]; omega),Yl (by rw [Yc]; omega)]
theorem equal32 (a1 b1 a2 b2:Sl) (S1 S2:List Int) (B1 B2:List Bx) (h:Heap) (h1:CfI h a1 b1 S1 B1) (h2:CfI h a2 b2 S2 B2) :
  Fn Pz 32 #[.agg ⟨[.slice a1.a a1.n a1.c,.slice b1.a b1.n b1.c]⟩,.agg ⟨[.slice a2.a a2.n a2.c,.slice b2.a b2.n b2.c]⟩] h (RP (S1=S2/\B1.map Bx.l=B2.map Bx.l) h):=by
 apply vc32 a1 b1 a2 b2; unfold W32
 refine (St.refl h).newb fun h5 hs=>?_
 refine hs.newb fun h6 hs=>?_
 refine ⟨a1,hs.rd 1 rfl rfl,a2,hs.rd 0 rfl rfl,?_⟩
 refine (equal63 S1 S2 a1 a2 h6 (h1.s.ext hs.ext) (h2.s.ext hs.ext)).mono ?_
 rintro _ h11 ⟨⟨b,rfl,hb⟩,E⟩
 have hs:=hs.step E
 refine ⟨b,rfl,sB_intro (fun c=>?_) (fun c=>RP.f (fun hG=>iff_f hb c hG.1) hs.ext)⟩
 refine ⟨b1,hs.rd 1 rfl (i:=1) rfl,b2,hs.rd 0 rfl (i:=1) rfl,?_⟩
 refine (equal64 B1 B2 b1 b2 h11 (h1.b.ext hs.ext) (h2.b.ext hs.ext) (fun q hq=>(h1.i q hq).ext hs.ext) (fun q hq=>(h2.i q hq).ext hs.ext)).mono ?_
 rintro _ h16 ⟨⟨b3,rfl,hb3⟩,E⟩
 exact ⟨b3,rfl,RP.e (hb3.trans ⟨fun e=>⟨hb.1 c,e⟩,fun e=>e.2⟩) (hs.ext.trans E)⟩
end Go.VC
end

section
namespace Go.VC
open Go.Proofs

def W9 (p0:Sl) (p1:Int) (p2_1 p2_2 p2_3 p2_4:Sl) (h:Heap) (R:Value->Heap->Prop):Prop:=
 (Wn h [vS p2_1,vS p2_2,vS p2_3,vS p2_4] 79 fun h5=>
 (Fn Pz 12 #[] h5
 (fun v6 h8=>∃ x7,iB v6 x7 /\
 (sB (!x7)
 (R (.bool false) h8)
 ((Ib 0 2 /\
 (∃ (x9 x10:Sl),atC h8 (aS h (0+Int.toNat 0*2)) [vS x9,vS x10] /\
 (Fn Pz 13 #[vS p0,.agg ⟨[vS x9,vS x10]⟩] h8
 (fun v11 h13=>∃ x12,iB v11 x12 /\
 (sB (!x12)
 (R (.bool true) h13)
 ((Ib 1 2 /\
 (∃ (x14 x15:Sl),atC h13 (aS h (0+Int.toNat 1*2)) [vS x14,vS x15] /\
 (Fn Pz 13 #[.slice none 0 0,.agg ⟨[vS x14,vS x15]⟩] h13
 (fun v16 h18=>∃ x17,iB v16 x17 /\
 (sB (!x17)
 (R (.bool true) h18)
 ((Ib 0 2 /\
 (∃ (x19 x20:Sl),atC h18 (aS h (0+Int.toNat 0*2)) [vS x19,vS x20] /\
 (Fn Pz 17 #[.agg ⟨[vS x19,vS x20]⟩] h18
 (fun v21 h24=>∃ (x22 x23:Sl),v21=.agg ⟨[vS x22,vS x23]⟩ /\
 (Wn h24 [.slice none 0 0,.slice none 0 0] 29 fun h25=>
 (Wp h25 (aS h24 0) 2 [vS x22,vS x23] fun h26=>
 (∃ (x27 x28:Sl),atC h26 (aS h24 0) [vS x27,vS x28] /\
 (Fn Pz 36 #[vS p0,vI p1,.agg ⟨[vS x27,vS x28]⟩] h26
 (fun v29 h32=>∃ (x30:Bool) (x31:Int),v29=.tuple ⟨[.bool x30,vI x31]⟩ /\
 (Ib 0 2 /\
 (∃ (x33 x34:Sl),atC h32 (aS h (0+Int.toNat 0*2)) [vS x33,vS x34] /\
 (Fn Pz 37 #[vS p0,vI p1,.agg ⟨[vS x33,vS x34]⟩] h32
 (fun v35 h38=>∃ (x36:Bool) (x37:Int),v35=.tuple ⟨[.bool x36,vI x37]⟩ /\
 (∃ (x39 x40:Sl),atC h38 (aS h24 0) [vS x39,vS x40] /\
 (Fn Pz 38 #[vS p0,vI p1,.agg ⟨[vS x39,vS x40]⟩] h38
 (fun v41 h44=>∃ (x42 x43:Int),v41=.tuple ⟨[vI x42,vI x43]⟩ /\
 (Ib 0 2 /\
 (∃ (x45 x46:Sl),atC h44 (aS h (0+Int.toNat 0*2)) [vS x45,vS x46] /\
 (Fn Pz 39 #[vS p0,vI p1,.agg ⟨[vS x45,vS x46]⟩] h44
 (fun v47 h50=>∃ (x48 x49:Int),v47=.tuple ⟨[vI x48,vI x49]⟩ /\
 (sB (x30 == x36)
 ((sB (x31 == x37)
 ((sB (x42 == x48)
 ((sB (x43 == x49)
 ((∃ (x51 x52:Sl),atC h50 (aS h24 0) [vS x51,vS x52] /\
 (Ib 1 2 /\
 (∃ (x53 x54:Sl),atC h50 (aS h (0+Int.toNat 1*2)) [vS x53,vS x54] /\
 (Ib 0 2 /\
 (∃ (x55 x56:Sl),atC h50 (aS h (0+Int.toNat 0*2)) [vS x55,vS x56] /\
 (Ib 1 2 /\
 (∃ (x57 x58:Sl),atC h50 (aS h (0+Int.toNat 1*2)) [vS x57,vS x58] /\
 (Fn Pz 17 #[.agg ⟨[vS x53,vS x54]⟩] h50
 (fun v59 h62=>∃ (x60 x61:Sl),v59=.agg ⟨[vS x60,vS x61]⟩ /\
 (Sm [(aS h (0+Int.toNat 1*2)),(aS h (0+Int.toNat 0*2)),(aS h24 0)] h50 h62 /\
 (Fn Pz 32 #[.agg ⟨[vS x51,vS x52]⟩,.agg ⟨[vS x60,vS x61]⟩] h62
 (fun v63 h65=>∃ x64,iB v63 x64 /\
 (Sm [(aS h (0+Int.toNat 1*2)),(aS h (0+Int.toNat 0*2))] h62 h65 /\
 (Fn Pz 19 #[.agg ⟨[vS x55,vS x56]⟩,.agg ⟨[vS x57,vS x58]⟩] h65
 (fun v66 h68=>∃ x67,iB v66 x67 /\
 (Sm [(aS h (0+Int.toNat 1*2)),(aS h24 0)] h65 h68 /\
 (sB (x64 == x67)
 ((∃ (x69 x70:Sl),atC h68 (aS h24 0) [vS x69,vS x70] /\
 (Ib 0 2 /\
 (∃ (x71 x72:Sl),atC h68 (aS h (0+Int.toNat 0*2)) [vS x71,vS x72] /\
 (Fn Pz 35 #[.agg ⟨[vS x69,vS x70]⟩] h68
 (fun v73 h75=>∃ x74,iS v73 x74 /\
 (Sm [(aS h (0+Int.toNat 0*2)),(aS h (0+Int.toNat 1*2)),(aS h (0+Int.toNat 0*2)),(aS h (0+Int.toNat 1*2)),(aS h24 0)] h68 h75 /\
 ((RunW Pz (Go.convert 48 9 (vS x74)) h75
 (fun v76 h78=>∃ x77:ByteArray,v76=.string x77 /\
 (Sm [(aS h (0+Int.toNat 0*2)),(aS h (0+Int.toNat 1*2)),(aS h (0+Int.toNat 0*2)),(aS h (0+Int.toNat 1*2)),(aS h24 0)] h75 h78 /\
 (Fn Pz 40 #[.agg ⟨[vS x71,vS x72]⟩] h78
 (fun v79 h81=>∃ x80,iS v79 x80 /\
 (Sm [(aS h24 0),(aS h (0+Int.toNat 1*2)),(aS h (0+Int.toNat 0*2)),(aS h (0+Int.toNat 1*2)),(aS h24 0)] h78 h81 /\
 (RunW Pz (Go.convert 48 9 (vS x80)) h81
 (fun v82 h84=>∃ x83:ByteArray,v82=.string x83 /\
 (Sm [(aS h24 0),(aS h (0+Int.toNat 1*2)),(aS h (0+Int.toNat 0*2)),(aS h (0+Int.toNat 1*2)),(aS h24 0)] h81 h84 /\
 R (.bool ((ByteArray.toList x77) == (ByteArray.toList x83))) h84))))))))))/\((Fn Pz 40 #[.agg ⟨[vS x71,vS x72]⟩] h75
 (fun v85 h87=>∃ x86,iS v85 x86 /\
 (Sm [(aS h24 0),(aS h (0+Int.toNat 1*2)),(aS h (0+Int.toNat 0*2)),(aS h (0+Int.toNat 1*2)),(aS h24 0)] h75 h87 /\
 ((RunW Pz (Go.convert 48 9 (vS x74)) h87
 (fun v88 h90=>∃ x89:ByteArray,v88=.string x89 /\
 (Sm [(aS h (0+Int.toNat 0*2)),(aS h (0+Int.toNat 1*2)),(aS h (0+Int.toNat 0*2)),(aS h (0+Int.toNat 1*2)),(aS h24 0)] h87 h90 /\
 (RunW Pz (Go.convert 48 9 (vS x86)) h90
 (fun v91 h93=>∃ x92:ByteArray,v91=.string x92 /\
 (Sm [(aS h24 0),(aS h (0+Int.toNat 1*2)),(aS h (0+Int.toNat 0*2)),(aS h (0+Int.toNat 1*2)),(aS h24 0)] h90 h93 /\
 R (.bool ((ByteArray.toList x89) == (ByteArray.toList x92))) h93)))))))/\((RunW Pz (Go.convert 48 9 (vS x86)) h87
 (fun v94 h96=>∃ x95:ByteArray,v94=.string x95 /\
 (Sm [(aS h24 0),(aS h (0+Int.toNat 1*2)),(aS h (0+Int.toNat 0*2)),(aS h (0+Int.toNat 1*2)),(aS h24 0)] h87 h96 /\
 (RunW Pz (Go.convert 48 9 (vS x74)) h96
 (fun v97 h99=>∃ x98:ByteArray,v97=.string x98 /\
 (Sm [(aS h (0+Int.toNat 0*2)),(aS h (0+Int.toNat 1*2)),(aS h (0+Int.toNat 0*2)),(aS h (0+Int.toNat 1*2)),(aS h24 0)] h96 h99 /\
 R (.bool ((ByteArray.toList x98) == (ByteArray.toList x95))) h99))))))))))))))))))
 ((R (.bool false) h68)/\((R (.bool false) h68)/\(R (.bool false) h68)))))))))))))))))))))
 ((R (.bool false) h50)/\((R (.bool false) h50)/\(R (.bool false) h50)))))
 ((R (.bool false) h50)/\((R (.bool false) h50)/\(R (.bool false) h50)))))
 ((R (.bool false) h50)/\((R (.bool false) h50)/\(R (.bool false) h50)))))
 ((R (.bool false) h50)/\((R (.bool false) h50)/\(R (.bool false) h50)))))))))))))))))))))))))))))))))))))))))
theorem vc9 (p0:Sl) (p1:Int) (p2_1 p2_2 p2_3 p2_4:Sl) (h:Heap) (R:Value->Heap->Prop) (H:W9 p0 p1 p2_1 p2_2 p2_3 p2_4 h R):Fn Pz 9 #[vS p0,vI p1,.agg ⟨[vS p2_1,vS p2_2,vS p2_3,vS p2_4]⟩] h R:=fnI (A:=.z) (by kernel_rfl) H

end Go.VC
end

section
/- The law ComposeBad. (Numbers of layer 27's development dump.) -/
namespace Go.VC
open Go.Proofs Go.LexS
theorem SyI.none_ {h:Heap}:SyI h ⟨none,0,0⟩ []:=⟨⟨Rw.nil,Yyt _,fun _=>⟨rfl,rfl⟩,Nat.zero_le _⟩,fun x hx=>by cases hx⟩
def encB (X:List Int):List UInt8:=X.map fun x=>UInt8.ofNat x.toNat
theorem flat_u8:∀ {X:List Int},(∀ x ∈ X,0<=x/\x<256)->(X.map u8C).flatten=byteC (encB X)
 | [],_=>rfl
 | x::X,h=>by
  have h1:=h x Yx
  have h2:=flat_u8 (X:=X) fun y hy=>h y (Yn _ hy)
  have e:(((UInt8.ofNat x.toNat).toNat:Nat):Int)=x:=by
   rw [UInt8.toNat_ofNat']
   have:x.toNat % 2 ^ 8=x.toNat:=Nat.mod_eq_of_lt (by omega)
   rw [this]; omega
  show Value.int .u8 x::(X.map u8C).flatten=Value.int .u8 (((UInt8.ofNat x.toNat).toNat:Nat):Int)::byteC (encB X)
  rw [h2,e]
theorem und48:Pz.underlying 48=some (.slice 5):=by kernel_rfl
theorem und5:Pz.underlying 5=some (.int .u8):=by kernel_rfl
theorem und9:Pz.underlying 9=some .string:=by kernel_rfl
theorem conv48 {h0 h:Heap} {b:Sl} {X:List Int} (hs:St h0 h [.sl b 5 1 (X.map u8C)]) (hX:∀ x ∈ X,0<=x/\x<256):RunW Pz (Go.convert 48 9 (.slice b.a b.n b.c)) h fun v h'=>v=.string (bs (encB X))/\h'=h:=by
 have ho:=hs.give 0 rfl
 rw [flat_u8 hX] at ho
 exact str_c und48 und5 und9 ho
theorem EncOk.few {L:List Mch} {S:List Int} {BL:List (List Int)} (hF:FewC L S BL) (hS:∀ x ∈ S,I64 x) (hB:∀ q ∈ BL,∀ x ∈ q,I64 x):EncOk S BL:=
 ⟨hS,fun q hq=>⟨by have:=hF.b q hq; omega,hB q hq⟩,by have:=hF.n; omega⟩
set_option maxHeartbeats 3200000 in
theorem composeBad9 (L:List MR) (s:Sl) (k:Int) (a1 a2 b1 b2:Sl) (S1 S2:List Int) (B1 B2:List Bx) (h:Heap) (hx:Gx h) (hS:SyI h s L) (h1:CfI h a1 a2 S1 B1) (h2:CfI h b1 b2 S2 B2) (hI1:∀ x ∈ S1,I64 x) (hI2:∀ q ∈ B1.map Bx.l,∀ x ∈ q,I64 x) :
  Fn Pz 9 #[.slice s.a s.n s.c,.int .i64 k,.agg ⟨[.slice a1.a a1.n a1.c,.slice a2.a a2.n a2.c,.slice b1.a b1.n b1.c,.slice b2.a b2.n b2.c]⟩] h fun v h'=>v=.bool true/\Ext h h':=by
 apply vc9 s k a1 a2 b1 b2; unfold W9
 refine (St.refl h).newb fun h5 hs=>?_
 refine (awake12 h5 (hx.ext hs.ext)).mono ?_
 rintro _ h8 ⟨rfl,E⟩
 have hs:=hs.step E
 refine ⟨true,rfl,sB_f rfl ⟨by decide,a1,a2,hs.at 0 rfl (o:=0) (n:=2) rfl,?_⟩⟩
 refine (fewC13 L s a1 a2 S1 B1 h8 (hS.ext hs.ext) (h1.ext hs.ext)).mono ?_
 rintro _ h13 ⟨⟨b,rfl,hb⟩,E⟩
 have hs:=hs.step E
 refine ⟨b,rfl,sB_intro (fun c=>⟨rfl,hs.ext⟩) (fun c=>⟨by decide,b1,b2,hs.at 0 rfl (o:=2) (n:=2) rfl,?_⟩)⟩
 have hE:=EncOk.few (hb.1 (bT c)) hI1 hI2
 refine (fewC13 [] ⟨none,0,0⟩ b1 b2 S2 B2 h13 SyI.none_ (h2.ext hs.ext)).mono ?_
 rintro _ h18 ⟨⟨b,rfl,-⟩,E⟩
 have hs:=hs.step E
 refine ⟨b,rfl,sB_intro (fun c=>⟨rfl,hs.ext⟩) (fun c=>⟨by decide,a1,a2,hs.at 0 rfl (o:=0) (n:=2) rfl,?_⟩)⟩
 refine (own17 a1 a2 h18).mono ?_
 rintro _ h24 ⟨rfl,E⟩
 have hs:=hs.step E
 refine ⟨a1,a2,rfl,?_⟩
 refine hs.newput (vs:=[.slice a1.a a1.n a1.c,.slice a2.a a2.n a2.c]) rfl rfl fun h26 hs=>?_
 refine ⟨a1,a2,hs.at 0 rfl (o:=0) (n:=2) rfl,?_⟩
 refine (final36 L s k a1 a2 S1 B1 h26 (hS.ext hs.ext) (h1.ext hs.ext)).mono ?_
 rintro _ h32 ⟨E,c1,e1,rfl,t1,f1⟩
 have hs:=hs.step E
 refine ⟨c1,e1,rfl,by decide,a1,a2,hs.at 1 rfl (o:=0) (n:=2) rfl,?_⟩
 refine (refFinal37 L s k a1 a2 S1 B1 h32 (hS.ext hs.ext) (h1.ext hs.ext)).mono ?_
 rintro _ h38 ⟨E,c2,e2,rfl,t2,f2⟩
 have hs:=hs.step E
 have heq:c2=c1/\e2=e1:=by
  by_cases hP:ProS (L.map MR.m) k S1 (B1.map Bx.l)
  ·
   exact ⟨Bool.eq_iff_iff.2 ((t2 hP).2.trans (t1 hP).2.symm),(t2 hP).1.trans (t1 hP).1.symm⟩
  ·
   exact ⟨(f2 hP).2.trans (f1 hP).2.symm,(f2 hP).1.trans (f1 hP).1.symm⟩
 obtain ⟨rfl,rfl⟩:=heq
 refine ⟨c2,e2,rfl,a1,a2,hs.at 0 rfl (o:=0) (n:=2) rfl,?_⟩
 refine (bad38 L s k a1 a2 S1 B1 h38 (hS.ext hs.ext) (h1.ext hs.ext)).mono ?_
 rintro _ h44 ⟨E,d1,g1,rfl,t3,f3⟩
 have hs:=hs.step E
 refine ⟨d1,g1,rfl,by decide,a1,a2,hs.at 1 rfl (o:=0) (n:=2) rfl,?_⟩
 refine (refBad39 L s k a1 a2 S1 B1 h44 (hS.ext hs.ext) (h1.ext hs.ext)).mono ?_
 rintro _ h50 ⟨E,d2,g2,rfl,t4,f4⟩
 have hs:=hs.step E
 have heq:d2=d1/\g2=g1:=by
  by_cases hP:ProS (L.map MR.m) k S1 (B1.map Bx.l)
  ·
   exact ⟨(t4 hP).2.trans (t3 hP).2.symm,(t4 hP).1.trans (t3 hP).1.symm⟩
  ·
   exact ⟨(f4 hP).2.trans (f3 hP).2.symm,(f4 hP).1.trans (f3 hP).1.symm⟩
 obtain ⟨rfl,rfl⟩:=heq
 refine ⟨d2,g2,rfl,sB_t (beq_self_eq_true _) (sB_t (beq_self_eq_true _) (sB_t (beq_self_eq_true _) (sB_t (beq_self_eq_true _) ?_)))⟩
 refine ⟨a1,a2,hs.at 0 rfl (o:=0) (n:=2) rfl,by decide,b1,b2,hs.at 1 rfl (o:=2) (n:=2) rfl,by decide,a1,a2,hs.at 1 rfl (o:=0) (n:=2) rfl,by decide,b1,b2,hs.at 1 rfl (o:=2) (n:=2) rfl,?_⟩
 refine (own17 b1 b2 h50).mono ?_
 rintro _ h62 ⟨rfl,E⟩
 have hs:=hs.step E
 refine ⟨b1,b2,rfl,E.sm,?_⟩
 refine (equal32 a1 a2 b1 b2 S1 S2 B1 B2 h62 (h1.ext hs.ext) (h2.ext hs.ext)).mono ?_
 rintro _ h65 ⟨⟨c3,rfl,hb3⟩,E⟩
 have hs:=hs.step E
 refine ⟨c3,rfl,E.sm,?_⟩
 refine (sameC19 a1 a2 b1 b2 S1 S2 B1 B2 h65 (h1.ext hs.ext) (h2.ext hs.ext)).mono ?_
 rintro _ h68 ⟨⟨c4,rfl,hb4⟩,E⟩
 have hs:=hs.step E
 have e:c3=c4:=Bool.eq_iff_iff.2 (hb3.trans hb4.symm)
 subst e
 refine ⟨c3,rfl,E.sm,sB_t (beq_self_eq_true _) ?_⟩
 refine ⟨a1,a2,hs.at 0 rfl (o:=0) (n:=2) rfl,by decide,a1,a2,hs.at 1 rfl (o:=0) (n:=2) rfl,?_⟩
 refine (encode35 a1 a2 S1 B1 h68 (h1.ext hs.ext) hE).mono ?_
 rintro _ h75 ⟨x,rfl,hx1⟩
 have hs:=hs.step hx1.ext
 have hby:∀ y ∈ encC S1 (B1.map Bx.l),0<=y/\y<256:=encC_byte
 refine ⟨x,rfl,hx1.ext.sm,?_⟩
 have hR:=refEncode40 a1 a2 S1 B1 h75 (h1.ext hs.ext) hE
 refine ⟨?_,?_⟩
 ·
  refine (conv48 hx1 hby).mono ?_
  rintro _ h78 ⟨rfl,rfl⟩
  refine ⟨_,rfl,Ext.rfl'.sm,?_⟩
  refine hR.mono ?_
  rintro _ h81 ⟨y,rfl,hy1⟩
  refine ⟨y,rfl,hy1.ext.sm,?_⟩
  refine (conv48 hy1 hby).mono ?_
  rintro _ h84 ⟨rfl,rfl⟩
  exact ⟨_,rfl,Ext.rfl'.sm,by rw [beq_self_eq_true],hs.ext.trans hy1.ext⟩
 ·
  refine hR.mono ?_
  rintro _ h87 ⟨y,rfl,hy1⟩
  refine ⟨y,rfl,hy1.ext.sm,?_,?_⟩
  ·
   refine (conv48 (hx1.step hy1.ext) hby).mono ?_
   rintro _ h90 ⟨rfl,rfl⟩
   refine ⟨_,rfl,Ext.rfl'.sm,?_⟩
   refine (conv48 hy1 hby).mono ?_
   rintro _ h93 ⟨rfl,rfl⟩
   exact ⟨_,rfl,Ext.rfl'.sm,by rw [beq_self_eq_true],hs.ext.trans hy1.ext⟩
  ·
   refine (conv48 hy1 hby).mono ?_
   rintro _ h90 ⟨rfl,rfl⟩
   refine ⟨_,rfl,Ext.rfl'.sm,?_⟩
   refine (conv48 (hx1.step hy1.ext) hby).mono ?_
   rintro _ h93 ⟨rfl,rfl⟩
   exact ⟨_,rfl,Ext.rfl'.sm,by rw [beq_self_eq_true],hs.ext.trans hy1.ext⟩
end Go.VC
end

section
/- What systems of machines, configurations and lists of bytes look like in memory where all that is read is of bulk at most 1048576. -/
namespace Go.VC
open Go.Proofs Go.LexS Go.RowKit Go.ChangeShapes Go.WideShapes Go.Proofs.YtnfkibjnkiojnaaGreatDoor
theorem bulk_pos {H:Type} (d:DataW H):1<=Rows.uptoBulk d:=by
 cases d with
 | lit l=>cases l <;> simp [Rows.uptoBulk]
 | _=>simp [Rows.uptoBulk]
theorem bulk_part {H:Type}:∀ {l:List (DataW H)} {d:DataW H},d ∈ l->Rows.uptoBulk d<=Rows.uptoBulkAll l
 | [],_,h=>by cases h
 | x::r,d,h=>by
  rw [Rows.uptoBulkAll]
  rcases Yr.1 h with rfl | h
  ·
   omega
  ·
   have:=bulk_part h; omega
theorem bulk_len {H:Type}:∀ l:List (DataW H),l.length<=Rows.uptoBulkAll l
 | []=>by simp
 | x::r=>by
  have h1:=bulk_pos x
  have h2:=bulk_len r
  rw [Rows.uptoBulkAll,Yyj]; omega
def Rdb (P:Program) (W:World) (t:TypeId) (cs:List Value):Prop:=
 ∃ (H:Type) (enc:TypeId × Value->H) (n:Nat) (x:DataW H × List MemPlace),DataW.trod enc P W 0 (fun _=>true) true n t cs=some x/\Rows.uptoBulk x.1<=1048576
theorem Rdb.rdt {P:Program} {W:World} {t:TypeId} {cs:List Value} (h:Rdb P W t cs):Rdt P W t cs:=by
 obtain ⟨H,enc,n,x,h1,_⟩:=h; exact ⟨H,enc,n,x,h1⟩
theorem rdb_of_trod {H:Type} {enc:TypeId × Value->H} {P:Program} {W:World} {t:TypeId} {v:Value} {d:DataW H} {p:List MemPlace} (h:DataW.Trod enc P W 0 (fun _=>true) true t v d p) (hw:Rows.uptoBulk d<=1048576):Rdb P W t v.cells.toList:=by
 obtain ⟨n,h⟩:=h
 exact ⟨H,enc,n,_,h,hw⟩
theorem Rdb.field {P:Program} {W:World} {t ft:TypeId} {cs:List Value} {i off:Nat} (h:Rdb P W t cs) (hf:fieldAt P t i=some (ft,off)):Rdb P W ft ((cs.drop off).take (P.cellsOf ft)):=by
 unfold fieldAt at hf
 split at hf
 ·
  rename_i fs hu
  obtain ⟨f,h1,h2⟩:=Yya.1 hf
  cases h2
  obtain ⟨H,enc,n,x,h,hw⟩:=h
  obtain ⟨xs,m,_,hx,hl,hxl,hfi⟩:=DataW.trod_struct hu h
  have hlt:i<xs.length:=by rw [hxl]; exact (Yyg.1 h1).1
  refine ⟨H,enc,m,xs[i],by rw [hfi i f h1,Yi hlt],?_⟩
  rw [hx,Rows.uptoBulk] at hw
  have:=bulk_part (l:=xs.map (·.1)) (d:=xs[i].1) (Yp.2 ⟨xs[i],List.getElem_mem hlt,rfl⟩)
  omega
 ·
  cases hf
theorem Rdb.array {P:Program} {W:World} {t e:TypeId} {n:Nat} {cs:List Value} (ht:P.underlying t=some (.array n e)) (h:Rdb P W t cs) :
  cs.length=P.cellsOf t/\∀ i,i<n->Rdb P W e ((cs.drop (i*P.cellsOf e)).take (P.cellsOf e)):=by
 obtain ⟨H,enc,m,x,h,hw⟩:=h
 obtain ⟨xs,k,_,hx,hl,hxl,hf⟩:=DataW.trod_array ht h
 refine ⟨hl,fun i hi=>?_⟩
 have hlt:i<xs.length:=by omega
 refine ⟨H,enc,k,xs[i],by rw [hf i hi,Yi hlt],?_⟩
 rw [hx,Rows.uptoBulk] at hw
 have:=bulk_part (l:=xs.map (·.1)) (d:=xs[i].1) (Yp.2 ⟨xs[i],List.getElem_mem hlt,rfl⟩)
 omega
theorem Rdb.rows {P:Program} {W:World} {t e:TypeId} {cs:List Value} (ht:P.underlying t=some (.slice e)) (h:Rdb P W t cs) (hpos:0<P.cellsOf e) :
  ∃ (s:Sl) (rows:List (List Value)),cs=[.slice s.a s.n s.c]/\s.n<=s.c/\s.n<=1048576/\(s.a=none->s.n=0/\s.c=0)/\Rw W.heap (P.cellsOf e) s rows/\∀ r ∈ rows,r.length=P.cellsOf e/\Rdb P W e r:=by
 obtain ⟨H,enc,n,x,h,hw⟩:=h
 rcases DataW.trod_slice ht h with ⟨rfl,_⟩ | ⟨a,len,cap,elems,rest,m,_,rfl,hx,_,hlc,hcm,hel,helem,_,_⟩
 ·
  exact ⟨⟨none,0,0⟩,[],rfl,Yyt _,Nat.zero_le _,fun _=>⟨rfl,rfl⟩,Rw.nil,fun r hr=>by cases hr⟩
 ·
  rw [hx,Rows.uptoBulk] at hw
  have hle:len<=1048576:=by
   have:=bulk_len (elems.map (·.1))
   rw [Yc] at this; omega
  have hwe:∀ (i:Nat) (hi:i<elems.length),Rows.uptoBulk elems[i].1<=1048576:=fun i hi=>by
   have:=bulk_part (l:=elems.map (·.1)) (d:=elems[i].1) (Yp.2 ⟨elems[i],List.getElem_mem hi,rfl⟩)
   omega
  by_cases h0:len=0
  ·
   subst h0
   exact ⟨⟨some a,0,cap⟩,[],rfl,hlc,hle,fun e=>(by cases e),Rw.empty rfl,fun r hr=>by cases hr⟩
  ·
   have hrow:∀ i,i<len->∃ r,W.cells? 0 (a.add (i*P.cellsOf e)) (P.cellsOf e)=some r/\Rdb P W e r:=by
    intro i hi
    have h1:=helem i hi
    rw [Yi (by omega)] at h1
    obtain ⟨r,hr,hx2⟩:=Option.bind_eq_some_iff.1 h1
    exact ⟨r,hr,H,enc,m,_,hx2,hwe i (by omega)⟩
   let row:Nat->List Value:=fun i=>(W.cells? 0 (a.add (i*P.cellsOf e)) (P.cellsOf e)).getD []
   have hrow':∀ i,i<len->W.cells? 0 (a.add (i*P.cellsOf e)) (P.cellsOf e)=some (row i)/\Rdb P W e (row i):=fun i hi=>by
    obtain ⟨r,hr,hx⟩:=hrow i hi
    have:row i=r:=by show (W.cells? 0 _ _).getD []=r; rw [hr]; rfl
    rw [this]; exact ⟨hr,hx⟩
   have hget:∀ i,i<len->((List.range len).map row)[i]?=some (row i):=fun i hi=>by
    rw [Yd,Yyb hi]; rfl
   have hspot:a=⟨a.block,a.off,none⟩:=by
    have hc:=(cells_at (hrow' 0 (by omega)).1)
    have hl0:0<(row 0).length:=by rw [hc.1]; exact hpos
    have:=hc.2 0 _ (Yi hl0)
    rw [Nat.zero_mul,show (a.add 0).add 0=a from rfl] at this
    unfold World.cell? at this
    split at this
    ·
     split at this
     ·
      cases this
     ·
      rename_i hs
      cases a with
      | mk b o s=>
       cases s with
       | none=>rfl
       | some s=>exact absurd rfl hs
    ·
     cases this
   refine ⟨⟨some a,len,cap⟩,(List.range len).map row,rfl,hlc,hle,fun e=>(by cases e),⟨by simp,fun _=>⟨a.block,a.off,by rw [<- hspot],fun i r hi j v hj=>?_⟩⟩,fun r hr=>?_⟩
   ·
    have hil:i<len:=by have:=(Ya.1 hi).1; simpa using this
    rw [hget i hil] at hi; cases hi
    have h4:=(cells_at (hrow' i hil).1).2 _ _ hj
    rw [hspot] at h4
    have e:((⟨a.block,a.off,none⟩:Addr).add (i*P.cellsOf e)).add j=addk ⟨a.block,a.off+i*P.cellsOf e,none⟩ j:=by
     rw [addk_at,add_n,add_n]
    rw [e] at h4
    exact h4
   ·
    obtain ⟨i,hi,rfl⟩:=Yp.1 hr
    have:=hrow' i (List.mem_range.1 hi)
    exact ⟨(cells_at this.1).1,this.2⟩
theorem Rdb.list {α:Type} {P:Program} {W:World} {t e:TypeId} {k:Nat} {v:Value} {cs:α->List Value} {Q:α->Prop} (ht:P.underlying t=some (.slice e)) (hk:P.cellsOf e=k) (hpos:0<k)
  (ho:∀ r,Rdb P W e r->∃ x,r=cs x/\Q x) (h:Rdb P W t [v]):∃ (s:Sl) (L:List α),v=.slice s.a s.n s.c/\RL W.heap k s cs L/\∀ x ∈ L,Q x:=by
 subst hk
 obtain ⟨s,rows,e1,hc,hm,hna,hrw,hr⟩:=h.rows ht hpos
 have key:∀ rows:List (List Value),(∀ r ∈ rows,r.length=P.cellsOf e/\Rdb P W e r)->∃ L:List α,rows=L.map cs/\∀ x ∈ L,Q x:=by
  intro rows
  induction rows with
  | nil=>intro _; exact ⟨[],rfl,fun x hx=>by cases hx⟩
  | cons r rows ih=>
   intro h
   obtain ⟨x,hx,hq⟩:=ho r (h r (by simp)).2
   obtain ⟨L,hL,hQ⟩:=ih fun y hy=>h y (Yn _ hy)
   exact ⟨x::L,by rw [hx,hL]; rfl,fun y hy=>by rcases Yr.1 hy with rfl | hy; exact hq; exact hQ y hy⟩
 obtain ⟨L,rfl,hQ⟩:=key rows hr
 have hn:=hrw.ln
 exact ⟨s,L,by simpa using e1,⟨hrw,hc,hna,by omega⟩,hQ⟩
theorem v3:Pz.underlying 3=some (.int .i64):=by kernel_rfl
theorem v4b:Pz.underlying 4=some .bool:=by kernel_rfl
theorem cz3:Pz.cellsOf 3=1:=by kernel_rfl
theorem cz4:Pz.cellsOf 4=1:=by kernel_rfl
theorem cz51:Pz.cellsOf 51=1:=by kernel_rfl
theorem cz52:Pz.cellsOf 52=1:=by kernel_rfl
theorem cz53:Pz.cellsOf 53=1:=by kernel_rfl
theorem cz55:Pz.cellsOf 55=6:=by kernel_rfl
theorem cz190:Pz.cellsOf 190=3:=by kernel_rfl
theorem cz108:Pz.cellsOf 108=6:=by kernel_rfl
theorem vs51:Pz.underlying 51=some (.slice 4):=by kernel_rfl
theorem vs52:Pz.underlying 52=some (.slice 108):=by kernel_rfl
theorem vs53:Pz.underlying 53=some (.slice 190):=by kernel_rfl
theorem Rdb.sl {P:Program} {W:World} {t e:TypeId} {cs:List Value} (ht:P.underlying t=some (.slice e)) (h:Rdb P W t cs):∃ s:Sl,cs=[.slice s.a s.n s.c]:=by
 obtain ⟨H,enc,n,x,h,_⟩:=h
 rcases DataW.trod_slice ht h with ⟨rfl,_⟩ | ⟨a,len,cap,elems,rest,m,_,rfl,_⟩
 ·
  exact ⟨⟨none,0,0⟩,rfl⟩
 ·
  exact ⟨⟨some a,len,cap⟩,rfl⟩
theorem open_three {W:World} {t:TypeId} {r:List Value} (hc:Pz.cellsOf t=3) (h0:fieldAt Pz t 0=some (3,0)) (h1:fieldAt Pz t 1=some (3,1)) (h2:fieldAt Pz t 2=some (3,2)) (h:Rdt Pz W t r) :
  ∃ a b c:Int,r=[.int .i64 a,.int .i64 b,.int .i64 c]:=by
 have hl:=h.flen h0
 rw [hc] at hl
 match r,hl with
 | [x0,x1,x2],_=>
  have f0:=h.field h0
  have f1:=h.field h1
  have f2:=h.field h2
  rw [cz3] at f0 f1 f2
  obtain ⟨k0,e0,_⟩:=f0.int v3
  obtain ⟨k1,e1,_⟩:=f1.int v3
  obtain ⟨k2,e2,_⟩:=f2.int v3
  simp only [List.drop_zero,List.take_succ_cons,Yyk,List.drop_succ_cons,List.cons.injEq,and_true] at e0 e1 e2
  subst e0 e1 e2
  exact ⟨k0,k1,k2,rfl⟩
theorem open_boolv {W:World} {r:List Value} (h:Rdb Pz W 4 r):∃ x:Bool,r=bC x/\True:=by
 obtain ⟨k,e⟩:=h.rdt.bool v4b
 exact ⟨k,e,trivial⟩
theorem open_limit {W:World} {r:List Value} (h:Rdb Pz W 190 r):∃ x:To,r=x.cs/\True:=by
 obtain ⟨a,b,c,e⟩:=open_three cz190 (by kernel_rfl) (by kernel_rfl) (by kernel_rfl) h.rdt
 exact ⟨⟨a,b,c⟩,e,trivial⟩
theorem open_move {W:World} {r:List Value} (h:Rdb Pz W 108 r):∃ x:Mv,r=x.cs/\True:=by
 have hl:=h.rdt.flen (i:=0) (ft:=3) (off:=0) (by kernel_rfl)
 rw [cz108] at hl
 match r,hl with
 | [x0,x1,x2,x3,x4,x5],_=>
  have f0:=h.rdt.field (i:=0) (ft:=3) (off:=0) (by kernel_rfl)
  have f1:=h.rdt.field (i:=1) (ft:=4) (off:=1) (by kernel_rfl)
  have f2:=h.rdt.field (i:=2) (ft:=3) (off:=2) (by kernel_rfl)
  have f3:=h.rdt.field (i:=3) (ft:=3) (off:=3) (by kernel_rfl)
  have f4:=h.rdt.field (i:=4) (ft:=3) (off:=4) (by kernel_rfl)
  have f5:=h.rdt.field (i:=5) (ft:=4) (off:=5) (by kernel_rfl)
  rw [cz3] at f0 f2 f3 f4
  rw [cz4] at f1 f5
  obtain ⟨k0,e0,_⟩:=f0.int v3
  obtain ⟨k1,e1⟩:=f1.bool v4b
  obtain ⟨k2,e2,_⟩:=f2.int v3
  obtain ⟨k3,e3,_⟩:=f3.int v3
  obtain ⟨k4,e4,_⟩:=f4.int v3
  obtain ⟨k5,e5⟩:=f5.bool v4b
  simp only [List.drop_zero,List.take_succ_cons,Yyk,List.drop_succ_cons,List.cons.injEq,and_true] at e0 e1 e2 e3 e4 e5
  subst e0 e1 e2 e3 e4 e5
  exact ⟨⟨k0,k1,k2,k3,k4,k5⟩,rfl,trivial⟩
theorem open_machine {W:World} {r:List Value} (h:Rdb Pz W 55 r):∃ (m:Mch) (sf sm sl:Sl),r=mC m sf sm sl/\MI W.heap m sf sm sl:=by
 have hl:=h.rdt.flen (i:=0) (ft:=3) (off:=0) (by kernel_rfl)
 rw [cz55] at hl
 match r,hl with
 | [x0,x1,x2,x3,x4,x5],_=>
  have f0:=h.rdt.field (i:=0) (ft:=3) (off:=0) (by kernel_rfl)
  have f1:=h.rdt.field (i:=1) (ft:=3) (off:=1) (by kernel_rfl)
  have f2:=h.rdt.field (i:=2) (ft:=3) (off:=2) (by kernel_rfl)
  have f3:=h.field (i:=3) (ft:=51) (off:=3) (by kernel_rfl)
  have f4:=h.field (i:=4) (ft:=52) (off:=4) (by kernel_rfl)
  have f5:=h.field (i:=5) (ft:=53) (off:=5) (by kernel_rfl)
  rw [cz3] at f0 f1 f2
  rw [cz51] at f3
  rw [cz52] at f4
  rw [cz53] at f5
  obtain ⟨k0,e0,_⟩:=f0.int v3
  obtain ⟨k1,e1,_⟩:=f1.int v3
  obtain ⟨k2,e2,_⟩:=f2.int v3
  obtain ⟨sf,lf,e3,hf,_⟩:=Rdb.list vs51 cz4 (by omega) (fun r hr=>open_boolv hr) (show Rdb Pz W 51 [x3] from f3)
  obtain ⟨sm,lm,e4,hm,_⟩:=Rdb.list vs52 cz108 (by omega) (fun r hr=>open_move hr) (show Rdb Pz W 52 [x4] from f4)
  obtain ⟨sl,ll,e5,hl,_⟩:=Rdb.list vs53 cz190 (by omega) (fun r hr=>open_limit hr) (show Rdb Pz W 53 [x5] from f5)
  simp only [List.drop_zero,List.take_succ_cons,Yyk,List.drop_succ_cons,List.cons.injEq,and_true] at e0 e1 e2
  subst e0 e1 e2 e3 e4 e5
  exact ⟨⟨k0,k1,k2,lf,lm,ll⟩,sf,sm,sl,rfl,⟨hf,hm,hl⟩⟩
theorem cz5:Pz.cellsOf 5=1:=by kernel_rfl
theorem vs48:Pz.underlying 48=some (.slice 5):=by kernel_rfl
theorem v5u:Pz.underlying 5=some (.int .u8):=by kernel_rfl
theorem vsS22:Pz.underlying 22=some (.slice 55):=by kernel_rfl
theorem vsS23:Pz.underlying 23=some (.slice 3):=by kernel_rfl
theorem vsS24:Pz.underlying 24=some (.slice 23):=by kernel_rfl
theorem czS23:Pz.cellsOf 23=1:=by kernel_rfl
theorem czS24:Pz.cellsOf 24=1:=by kernel_rfl
theorem czS26:Pz.cellsOf 26=2:=by kernel_rfl
theorem czS79:Pz.cellsOf 79=4:=by kernel_rfl
theorem v79:Pz.underlying 79=some (.array 2 26):=by kernel_rfl
theorem open_mr {W:World} {r:List Value} (h:Rdb Pz W 55 r):∃ x:MR,r=x.cs/\MI W.heap x.m x.f x.g x.l:=by
 obtain ⟨m,f,g,l,e,hm⟩:=open_machine h
 exact ⟨⟨m,f,g,l⟩,e,hm⟩
theorem open_sys {W:World} {v:Value} (h:Rdb Pz W 22 [v]):∃ (s:Sl) (L:List MR),v=.slice s.a s.n s.c/\SyI W.heap s L:=by
 obtain ⟨s,L,e,hr,hq⟩:=Rdb.list vsS22 cz55 (by omega) (fun r hr=>open_mr hr) h
 exact ⟨s,L,e,hr,hq⟩
theorem open_u8n {W:World} {r:List Value} (h:Rdb Pz W 5 r):∃ x:Int,r=u8C x/\(0<=x/\x<256):=by
 obtain ⟨n,e,hw⟩:=h.rdt.int v5u
 have h3:(decide (IntKind.u8.min<=n) && decide (n<=IntKind.u8.max))=true:=hw
 rw [Yt] at h3
 have h4:(0:Int)<=n:=Yyn h3.1
 have h5:n<=(255:Int):=Yyn h3.2
 exact ⟨n,e,h4,by omega⟩
theorem open_u8s {W:World} {v:Value} (h:Rdb Pz W 48 [v]):∃ (s:Sl) (L:List Int),v=.slice s.a s.n s.c/\(RL W.heap 1 s u8C L/\∀ n ∈ L,0<=n/\n<256):=by
 obtain ⟨s,L,e,hr,hb⟩:=Rdb.list vs48 cz5 (by omega) (fun r hr=>open_u8n hr) h
 exact ⟨s,L,e,hr,hb⟩
theorem open_intn {W:World} {r:List Value} (h:Rdb Pz W 3 r):∃ x:Int,r=inC x/\I64 x:=by
 obtain ⟨n,e,hw⟩:=h.rdt.int v3
 have h3:(decide (IntKind.i64.min<=n) && decide (n<=IntKind.i64.max))=true:=hw
 rw [Yt] at h3
 have h4:(-9223372036854775808:Int)<=n:=Yyn h3.1
 have h5:n<=(9223372036854775807:Int):=Yyn h3.2
 exact ⟨n,e,h4,h5⟩
theorem open_intl {W:World} {v:Value} (h:Rdb Pz W 23 [v]):∃ (s:Sl) (L:List Int),v=.slice s.a s.n s.c/\(RL W.heap 1 s inC L/\∀ n ∈ L,I64 n):=by
 obtain ⟨s,L,e,hr,hb⟩:=Rdb.list vsS23 cz3 (by omega) (fun r hr=>open_intn hr) h
 exact ⟨s,L,e,hr,hb⟩
theorem open_box {W:World} {r:List Value} (h:Rdb Pz W 23 r):∃ q:Bx,r=q.cs/\(RL W.heap 1 q.s inC q.l/\∀ n ∈ q.l,I64 n):=by
 obtain ⟨s,rfl⟩:=Rdb.sl vsS23 h
 obtain ⟨s',L,e,hr⟩:=open_intl h
 exact ⟨⟨s',L⟩,by rw [e]; rfl,hr⟩
def CfB (h:Heap) (ss sb:Sl) (S:List Int) (B:List Bx):Prop:=CfI h ss sb S B/\(∀ x ∈ S,I64 x)/\∀ q ∈ B.map Bx.l,∀ x ∈ q,I64 x
theorem open_config {W:World} {r:List Value} (h:Rdb Pz W 26 r):∃ (ss sb:Sl) (S:List Int) (B:List Bx),r=[.slice ss.a ss.n ss.c,.slice sb.a sb.n sb.c]/\CfB W.heap ss sb S B:=by
 have hl:=h.rdt.flen (i:=0) (ft:=23) (off:=0) (by kernel_rfl)
 rw [czS26] at hl
 match r,hl with
 | [x0,x1],_=>
  have f0:=h.field (i:=0) (ft:=23) (off:=0) (by kernel_rfl)
  have f1:=h.field (i:=1) (ft:=24) (off:=1) (by kernel_rfl)
  rw [czS23] at f0
  rw [czS24] at f1
  obtain ⟨ss,S,e0,hS,hS2⟩:=open_intl (show Rdb Pz W 23 [x0] from f0)
  obtain ⟨sb,B,e1,hB,hB2⟩:=Rdb.list vsS24 czS23 (by omega) (fun r hr=>open_box hr) (show Rdb Pz W 24 [x1] from f1)
  subst e0 e1
  refine ⟨ss,sb,S,B,rfl,⟨hS,hB,fun q hq=>(hB2 q hq).1⟩,hS2,fun q hq=>?_⟩
  obtain ⟨y,hy,rfl⟩:=Yp.1 hq
  exact (hB2 y hy).2
theorem open_config2 {W:World} {r:List Value} (h:Rdb Pz W 79 r):∃ (a1 a2 b1 b2:Sl) (S1 S2:List Int) (B1 B2:List Bx),r=[.slice a1.a a1.n a1.c,.slice a2.a a2.n a2.c,.slice b1.a b1.n b1.c,.slice b2.a b2.n b2.c]/\CfB W.heap a1 a2 S1 B1/\CfB W.heap b1 b2 S2 B2:=by
 obtain ⟨hl,hf⟩:=h.array v79
 rw [czS79] at hl
 rw [czS26] at hf
 match r,hl with
 | [x0,x1,x2,x3],_=>
  obtain ⟨a1,a2,S1,B1,e0,h0⟩:=open_config (show Rdb Pz W 26 [x0,x1] from hf 0 (by omega))
  obtain ⟨b1,b2,S2,B2,e1,h1⟩:=open_config (show Rdb Pz W 26 [x2,x3] from hf 1 (by omega))
  simp only [List.cons.injEq,and_true] at e0 e1
  obtain ⟨rfl,rfl⟩:=e0
  obtain ⟨rfl,rfl⟩:=e1
  exact ⟨a1,a2,b1,b2,S1,S2,B1,B2,rfl,h0,h1⟩
end Go.VC
end
