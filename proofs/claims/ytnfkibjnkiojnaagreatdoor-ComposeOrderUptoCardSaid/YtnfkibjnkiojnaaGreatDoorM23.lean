/- UkH WkC WkD WkVcJ WkE WkF. -/
import Derived.Test.YtnfkibjnkiojnaaGreatDoorM22
import Derived.Test.YtnfkibjnkiojnaaGreatDoorM01
import Derived.Test.YtnfkibjnkiojnaaGreatDoorM03
import Derived.Test.YtnfkibjnkiojnaaGreatDoorM15
import Derived.Test.YtnfkibjnkiojnaaGreatDoorM02
import Derived.Test.YtnfkibjnkiojnaaGreatDoorProg
import Derived.KernelRfl
import Derived.Test.YtnfkibjnkiojnaaGreatDoorM09
set_option linter.unusedVariables false
set_option linter.unusedSimpArgs false
set_option maxRecDepth 100000

section
/- Contracts: the reference's sets al lists, what is reached, the reference's Valid; Few and Small. (Numbers of layer 26's seat.) -/
namespace Go.VC
open Go.Proofs Go.LexS
def withL (x:Int):List Int->List Int
 | []=>[x]
 | y::l=>if x<=y then (if x<y then x::y::l else y::l) else y::withL x l
theorem withL_mem {x v:Int}:∀ {T:List Int},v ∈ withL x T ↔ v=x\/v ∈ T
 | []=>by simp [withL]
 | y::l=>by
  unfold withL
  split
  ·
   split
   ·
    rw [Yr]
   ·
    have:x=y:=by omega
    subst this
    simp
  ·
   rw [Yr,withL_mem,Yr]
   constructor
   ·
    rintro (h | h | h)
    ·
     exact .inr (.inl h)
    ·
     exact .inl h
    ·
     exact .inr (.inr h)
   ·
    rintro (h | h | h)
    ·
     exact .inr (.inl h)
    ·
     exact .inl h
    ·
     exact .inr (.inr h)
theorem withL_sorted {x:Int}:∀ {T:List Int},T.Pairwise (· < ·)->(withL x T).Pairwise (· < ·)
 | [],_=>by simp [withL]
 | y::l,h=>by
  unfold withL
  have h':=List.pairwise_cons.1 h
  split
  ·
   split
   ·
    refine List.pairwise_cons.2 ⟨fun v hv=>?_,h⟩
    rcases Yr.1 hv with rfl | hv
    ·
     assumption
    ·
     have:=h'.1 v hv; omega
   ·
    exact h
  ·
   refine List.pairwise_cons.2 ⟨fun v hv=>?_,withL_sorted h'.2⟩
   rcases withL_mem.1 hv with rfl | hv
   ·
    omega
   ·
    exact h'.1 v hv
theorem withL_len {x:Int}:∀ {T:List Int},x ∉ T->(withL x T).length=T.length+1
 | [],_=>rfl
 | y::l,h=>by
  unfold withL
  rw [Yr,not_or] at h
  split
  ·
   split
   ·
    rfl
   ·
    exact absurd (by omega) h.1
  ·
   rw [Yyj,withL_len h.2,Yyj]
theorem withL_same {x:Int}:∀ {T:List Int},T.Pairwise (· < ·)->x ∈ T->withL x T=T
 | [],_,h=>by cases h
 | y::l,h,hm=>by
  unfold withL
  have h':=List.pairwise_cons.1 h
  split
  ·
   split
   ·
    rcases Yr.1 hm with e | e
    ·
     omega
    ·
     have:=h'.1 x e; omega
   ·
    rfl
  ·
   rcases Yr.1 hm with e | e
   ·
    omega
   ·
    rw [withL_same h'.2 e]
theorem sorted_le:∀ {T:List Int} {a b:Int},a<=b->T.Pairwise (· < ·)->(∀ v ∈ T,a<=v/\v<b)->(T.length:Int)<=b - a
 | [],a,b,hab,_,_=>by rw [List.length_nil]; omega
 | x::l,a,b,hab,h,hm=>by
  have h':=List.pairwise_cons.1 h
  have hx:=hm x Yx
  have:=sorted_le (T:=l) (a:=x+1) (b:=b) (by omega) h'.2 fun v hv=>⟨by have:=h'.1 v hv; omega,(hm v (Yn _ hv)).2⟩
  rw [Yyj]; omega
theorem sorted_full:∀ {T:List Int} {a b:Int},a<=b->T.Pairwise (· < ·)->(∀ v ∈ T,a<=v/\v<b)->((T.length:Int)=b - a ↔ ∀ v,a<=v->v<b->v ∈ T)
 | [],a,b,hab,_,_=>by
  rw [List.length_nil]
  constructor
  ·
   intro h v h1 h2; omega
  ·
   intro h
   by_cases e:a=b
   ·
    omega
   ·
    exact absurd (h a (Int.le_refl _) (by omega)) (by simp)
 | x::l,a,b,hab,h,hm=>by
  have h':=List.pairwise_cons.1 h
  have hx:=hm x Yx
  have hb:∀ v ∈ l,x+1<=v/\v<b:=fun v hv=>⟨by have:=h'.1 v hv; omega,(hm v (Yn _ hv)).2⟩
  have h1:=sorted_le (T:=l) (a:=x+1) (b:=b) (by omega) h'.2 hb
  have h2:=sorted_full (T:=l) (a:=x+1) (b:=b) (by omega) h'.2 hb
  rw [Yyj]
  constructor
  ·
   intro he v h3 h4
   have hxa:x=a:=by omega
   subst hxa
   by_cases e:v=x
   ·
    subst e; exact Yx
   ·
    exact Yn _ (h2.1 (by omega) v (by omega) h4)
  ·
   intro ha
   have hxa:x=a:=by
    rcases Yr.1 (ha a (Int.le_refl _) (by omega)) with e | e
    ·
     exact e.symm
    ·
     have:=(hb a e).1; omega
   subst hxa
   have:=h2.2 fun v h3 h4=>by
    rcases Yr.1 (ha v (by omega) h4) with e | e
    ·
     omega
    ·
     exact e
   omega
theorem refHas105 (L:List Int) (x:Int) (s:Sl) (h:Heap) (hr:Rw h 1 s (L.map inC)) (hl:L.length<=1048576):Fn Pz 128 #[.slice s.a s.n s.c,.int .i64 x] h (RP (x ∈ L) h):=by
 apply vc128; unfold W128
 have hn:=hr.ln
 refine up_loop (n:=s.n) (fun i h'=>Ext h h'/\∀ (j:Nat) y,j<i->L[j]?=some y->y ≠ x) ⟨.rfl',fun j y hj=>by omega⟩ ?_
 rintro - i h5 hi ⟨E,hq⟩
 refine sB_intro (fun c=>?_) (fun c=>RP.f (fun hm=>?_) E)
 ·
  replace c:=lt_t c
  refine (hr.ext E).nbI (by omega) (by omega) fun b6 o7 y gy t=>?_
  replace gy:L[i]?=some y:=gy
  refine ⟨_,t.hd,sBe (fun c1=>RP.t (by subst c1; exact Yb gy) E) (fun c1=>Up.next c (by omega) ⟨E,fun j z hj hz=>?_⟩)⟩
  by_cases e:j=i
  ·
   subst e; rw [gy] at hz; cases hz; exact c1
  ·
   exact hq j z (by omega) hz
 ·
  replace c:=lt_f c
  obtain ⟨j,hj⟩:=Yf.1 hm
  exact hq j x (by have:=(Ya.1 hj).1; omega) hj rfl
theorem refWith106 (L:List Int) (x:Int) (s:Sl) (h:Heap) (hr:Rw h 1 s (L.map inC)) (hl:L.length<=1048576) :
  Fn Pz 129 #[.slice s.a s.n s.c,.int .i64 x] h fun v h'=>Ext h h'/\∃ s':Sl,v=.slice s'.a s'.n s'.c/\Rw h' 1 s' ((withL x L).map inC):=by
 apply vc129; unfold W129
 have hn:=hr.ln
 refine ⟨fun out done i h' μ=>∃ (j:Nat) (T:List Int),i=j/\j<=s.n/\μ=s.n - j/\St h h' [.sl out 3 1 (T.map inC)]/\T.length<=j+1/\(done=false->T.length<=j)/\withL x L=T++(if done=true then L.drop j else withL x (L.drop j)),⟨_,0,[],rfl,by omega,rfl,(St.refl h).nil_ 3 1,by simp,by simp,rfl⟩,?_⟩
 rintro - out done _ h7 μ ⟨j,T,rfl,hj,rfl,hs,hT,hTf,hw⟩
 have hol:=(hs.rows 0 rfl (by omega)).ln
 refine sB_intro (fun c=>?_) (fun c=>?_)
 ·
  replace c:=lt_t c
  obtain ⟨y,hy⟩:=get_some (l:=L) (i:=j) (by omega)
  rw [drop_get hy] at hw
  refine sB_intro (fun c1=>?_) (fun c1=>?_)
  ·
   have hdn:done=false:=bF c1
   subst hdn
   have hTf:=hTf rfl
   rw [if_neg (by decide)] at hw
   refine (hr.ext hs.ext).nbI (by omega) (by omega) fun b8 o9 y' gy t=>?_
   replace gy:L[j]?=some y':=gy
   rw [hy] at gy; cases gy
   refine ⟨_,t.hd,sBi (fun c2=>?_) (fun c2=>?_)⟩
   ·
    refine (hr.ext hs.ext).nbI (by omega) (by omega) fun b8 o9 y' gy t=>?_
    replace gy:L[j]?=some y':=gy
    rw [hy] at gy; cases gy
    refine ⟨_,t.hd,sBi (fun c3=>?_) (fun c3=>?_)⟩
    ·
     refine hs.app 0 rfl app42 (m:=1) [[.int .i64 x]] rfl rfl (by simp) rfl (by omega) (by simp only [maxLen]; omega) fun s15 h16 ns hs=>?_
     have hs:St h h16 [.sl s15 3 1 ((T++[x]).map inC)]:=by rw [Ym]; exact hs
     have hol:=(hs.rows 0 rfl (by omega)).ln
     have hlx:(T++[x]).length=T.length+1:=Yh
     refine (hr.ext hs.ext).nbI (by omega) (by omega) fun b8 o9 y' gy t=>?_
     replace gy:L[j]?=some y':=gy
     rw [hy] at gy; cases gy
     refine ⟨_,t.hd,?_⟩
     refine hs.app 0 rfl app42 (m:=1) [[.int .i64 y]] rfl rfl (by simp) rfl (by omega) (by simp only [maxLen]; omega) fun s21 h22 ns hs=>?_
     have hs:St h h22 [.sl s21 3 1 ((T++[x]++[y]).map inC)]:=by rw [Ym]; exact hs
     refine ⟨_,?_,j+1,T++[x]++[y],by rw [w64 (by omega) (by omega)]; omega,by omega,rfl,hs,by rw [Yh,hlx,Yv]; omega,(fun hd=>by cases hd),?_⟩
     ·
      omega
     ·
      rw [if_pos rfl,hw,withL,if_pos c2,if_pos c3,Yz,Yz]; rfl
    ·
     refine (hr.ext hs.ext).nbI (by omega) (by omega) fun b8 o9 y' gy t=>?_
     replace gy:L[j]?=some y':=gy
     rw [hy] at gy; cases gy
     refine ⟨_,t.hd,?_⟩
     refine hs.app 0 rfl app42 (m:=1) [[.int .i64 y]] rfl rfl (by simp) rfl (by omega) (by simp only [maxLen]; omega) fun s21 h22 ns hs=>?_
     have hs:St h h22 [.sl s21 3 1 ((T++[y]).map inC)]:=by rw [Ym]; exact hs
     refine ⟨_,?_,j+1,T++[y],by rw [w64 (by omega) (by omega)]; omega,by omega,rfl,hs,by rw [Yh,Yv]; omega,(fun hd=>by cases hd),?_⟩
     ·
      omega
     ·
      rw [if_pos rfl,hw,withL,if_pos c2,if_neg c3,Yz]; rfl
   ·
    refine (hr.ext hs.ext).nbI (by omega) (by omega) fun b8 o9 y' gy t=>?_
    replace gy:L[j]?=some y':=gy
    rw [hy] at gy; cases gy
    refine ⟨_,t.hd,?_⟩
    refine hs.app 0 rfl app42 (m:=1) [[.int .i64 y]] rfl rfl (by simp) rfl (by omega) (by simp only [maxLen]; omega) fun s21 h22 ns hs=>?_
    have hs:St h h22 [.sl s21 3 1 ((T++[y]).map inC)]:=by rw [Ym]; exact hs
    refine ⟨_,?_,j+1,T++[y],by rw [w64 (by omega) (by omega)]; omega,by omega,rfl,hs,by rw [Yh,Yv]; omega,(fun _=>by rw [Yh,Yv]; omega),?_⟩
    ·
     omega
    ·
     rw [if_neg (by decide),hw,withL,if_neg c2,Yz]; rfl
  ·
   have hdn:done=true:=bT c1
   subst hdn
   rw [if_pos rfl] at hw
   refine (hr.ext hs.ext).nbI (by omega) (by omega) fun b8 o9 y' gy t=>?_
   replace gy:L[j]?=some y':=gy
   rw [hy] at gy; cases gy
   refine ⟨_,t.hd,?_⟩
   refine hs.app 0 rfl app42 (m:=1) [[.int .i64 y]] rfl rfl (by simp) rfl (by omega) (by simp only [maxLen]; omega) fun s21 h22 ns hs=>?_
   have hs:St h h22 [.sl s21 3 1 ((T++[y]).map inC)]:=by rw [Ym]; exact hs
   refine ⟨_,?_,j+1,T++[y],by rw [w64 (by omega) (by omega)]; omega,by omega,rfl,hs,by rw [Yh,Yv]; omega,(fun hd=>by cases hd),?_⟩
   ·
    omega
   ·
    rw [if_pos rfl,hw,Yz]; rfl
 ·
  replace c:=lt_f c
  rw [List.drop_eq_nil_of_le (by omega)] at hw
  refine sB_intro (fun c1=>?_) (fun c1=>?_)
  ·
   have hdn:done=false:=bF c1
   subst hdn
   rw [if_neg (by decide)] at hw
   refine hs.app 0 rfl app42 (m:=1) [[.int .i64 x]] rfl rfl (by simp) rfl (by omega) (by simp only [maxLen]; omega) fun s15 h16 ns hs=>?_
   have hs:St h h16 [.sl s15 3 1 ((T++[x]).map inC)]:=by rw [Ym]; exact hs
   exact ⟨hs.ext,_,rfl,by rw [hw]; exact hs.rows 0 rfl (by omega)⟩
  ·
   have hdn:done=true:=bT c1
   subst hdn
   rw [if_pos rfl,Yw] at hw
   exact ⟨hs.ext,_,rfl,by rw [hw]; exact hs.rows 0 rfl (by omega)⟩
structure RcI (m:Mch) (T:List Int):Prop where
 so:T.Pairwise (· < ·)
 b:∀ v ∈ T,0<=v/\v<m.n
 r:∀ v ∈ T,Qr (meds m) (-1) [m.s] v
 s:m.s ∈ T
def ClM (m:Mch) (i:Nat) (T:List Int):Prop:=∀ (j:Nat) (x:Mv),j<i->m.mv[j]?=some x->x.f ∈ T->x.t ∈ T
theorem reached61 (m:Mch) (sf sm sl:Sl) (h:Heap) (hM:MI h m sf sm sl) (hN:NumM m) :
  Fn Pz 89 #[.agg ⟨mC m sf sm sl⟩] h fun v h'=>Ext h h'/\∃ s:Sl,v=.slice s.a s.n s.c/\((s.n:Int)=m.n ↔ RchM m):=by
 apply vc89 m.role m.n m.s sf sm sl; unfold W89
 have hmn:=hM.pm.ln
 have hmm:=hM.pm.sm
 have hsn:=hN.s
 have hnn:=hN.n
 refine (St.refl h).newb fun h7 hs=>?_
 refine ⟨_,hs.rd 0 rfl rfl,?_⟩
 refine hs.newb fun h9 hs=>?_
 have hs:=hs.blkS 1 1 ([m.s].map inC) rfl (inrows _) rfl (by decide)
 have hR0:=hs.rows 0 rfl (by omega)
 have hs:=hs.drop 1
 refine ⟨fun out n h' μ=>∃ (k:Nat) (T:List Int),n=k/\k<=m.n.toNat/\μ=m.n.toNat - k/\St h h' [.blk h.size (mC m sf sm sl) 55]/\Rw h' 1 out (T.map inC)/\RcI m T/\(ClM m m.mv.length T\/k+1<=T.length),⟨_,0,[m.s],rfl,by omega,rfl,hs,hR0,⟨by simp,fun v hv=>by rw [Ye.1 hv]; omega,fun v hv=>.base hv,Ye.2 rfl⟩,.inr (by simp)⟩,?_⟩
 clear hs hR0
 rintro - out _ h15 μ ⟨k,T,rfl,hk,rfl,hs,hR,hT,hcl⟩
 refine ⟨_,hs.rd 0 rfl rfl,sBi (fun c=>?_) (fun c=>?_)⟩
 ·
  refine ⟨fun out i h' μ=>∃ (j:Nat) (T:List Int),i=j/\j<=sm.n/\μ=sm.n - j/\St h h' [.blk h.size (mC m sf sm sl) 55]/\Rw h' 1 out (T.map inC)/\RcI m T/\(ClM m m.mv.length T\/(ClM m j T/\k+1<=T.length)\/k+2<=T.length),⟨_,0,T,rfl,by omega,rfl,hs,hR,hT,?_⟩,?_⟩
  ·
   rcases hcl with h1 | h1
   ·
    exact .inl h1
   ·
    exact .inr (.inl ⟨fun j x hj=>by omega,h1⟩)
  clear hs hR hT hcl
  rintro - out _ h22 μ ⟨j,T,rfl,hj,rfl,hs,hR,hT,hcl⟩
  have hTl:=sorted_le (by omega) hT.so hT.b
  refine ⟨sm,hs.rd 0 rfl rfl,sB_intro (fun c1=>?_) (fun c1=>?_)⟩
  ·
   replace c1:=lt_t c1
   refine ⟨sm,hs.rd 0 rfl rfl,?_⟩
   refine (hM.pm.rw.ext hs.ext).nbI (by omega) (by omega) fun b25 o26 x gx t=>?_
   replace gx:m.mv[j]?=some x:=gx
   have hxm:=Yb gx
   have hxr:=hN.mv x hxm
   refine ⟨_,t.nth 0 rfl,?_⟩
   refine (refHas105 T x.f out h22 hR (by omega)).mono ?_
   rintro _ h30 ⟨⟨b,rfl,hb⟩,E⟩
   have hs:=hs.step E
   have hR:=hR.ext E
   refine ⟨_,rfl,sB_intro (fun c2=>?_) (fun c2=>?_)⟩
   ·
    have hfm:=hb.1 c2
    refine ⟨sm,hs.rd 0 rfl rfl,?_⟩
    refine (hM.pm.rw.ext hs.ext).nbI (by omega) (by omega) fun b25 o26 x' gx' t=>?_
    replace gx':m.mv[j]?=some x':=gx'
    rw [gx] at gx'; cases gx'
    refine ⟨_,t.nth 4 rfl,?_⟩
    refine (refWith106 T x.t out h30 hR (by omega)).mono ?_
    rintro _ h37 ⟨E2,s',rfl,hR2⟩
    have hs:=hs.step E2
    refine ⟨_,rfl,?_⟩
    have hT2:RcI m (withL x.t T):=⟨withL_sorted hT.so,fun v hv=>by
      rcases withL_mem.1 hv with rfl | hv
      ·
       omega
      ·
       exact hT.b v hv,fun v hv=>by
      rcases withL_mem.1 hv with rfl | hv
      ·
       exact .step (hT.r x.f hfm) ⟨⟨x.f,0,0,0,x.t,false⟩,Yp.2 ⟨x,hxm,rfl⟩,rfl,rfl,rfl⟩
      ·
       exact hT.r v hv,withL_mem.2 (.inr hT.s)⟩
    refine ⟨sm.n - (j+1),by omega,j+1,withL x.t T,by rw [w64 (by omega) (by omega)]; omega,by omega,rfl,hs,hR2,hT2,?_⟩
    by_cases hm:x.t ∈ T
    ·
     rw [withL_same hT.so hm]
     rcases hcl with h1 | h1 | h1
     ·
      exact .inl h1
     ·
      refine .inr (.inl ⟨fun i z hi hz hzf=>?_,h1.2⟩)
      by_cases e:i=j
      ·
       subst e; rw [gx] at hz; cases hz; exact hm
      ·
       exact h1.1 i z (by omega) hz hzf
     ·
      exact .inr (.inr h1)
    ·
     rw [withL_len hm]
     rcases hcl with h1 | h1 | h1
     ·
      exact absurd (h1 j x (by omega) gx hfm) hm
     ·
      exact .inr (.inr (by omega))
     ·
      exact .inr (.inr (by omega))
   ·
    have hfm:x.f ∉ T:=iff_f hb c2
    refine ⟨sm.n - (j+1),by omega,j+1,T,by rw [w64 (by omega) (by omega)]; omega,by omega,rfl,hs,hR,hT,?_⟩
    rcases hcl with h1 | h1 | h1
    ·
     exact .inl h1
    ·
     refine .inr (.inl ⟨fun i z hi hz hzf=>?_,h1.2⟩)
     by_cases e:i=j
     ·
      subst e; rw [gx] at hz; cases hz; exact absurd hzf hfm
     ·
      exact h1.1 i z (by omega) hz hzf
    ·
     exact .inr (.inr h1)
  ·
   replace c1:=lt_f c1
   refine ⟨m.n.toNat - (k+1),by omega,k+1,T,by rw [w64 (by omega) (by omega)]; omega,by omega,rfl,hs,hR,hT,?_⟩
   rcases hcl with h1 | h1 | h1
   ·
    exact .inl h1
   ·
    exact .inl fun i z hi hz hzf=>h1.1 i z (by omega) hz hzf
   ·
    exact .inr (by omega)
 ·
  have hTl:=sorted_le (by omega) hT.so hT.b
  have hcl:ClM m m.mv.length T:=by
   rcases hcl with h1 | h1
   ·
    exact h1
   ·
    omega
  refine ⟨hs.ext,_,rfl,?_⟩
  have hol:=hR.ln
  have hiff:∀ v,v ∈ T ↔ Qr (meds m) (-1) [m.s] v:=fun v=>by
   refine ⟨hT.r v,fun hq=>?_⟩
   induction hq with
   | base hm=>rw [Ye.1 hm]; exact hT.s
   | step _ hx ih=>
    obtain ⟨e,he,_,hf,ht⟩:=hx
    obtain ⟨x,hx,rfl⟩:=Yp.1 he
    obtain ⟨i,hi⟩:=Yf.1 hx
    subst hf; subst ht
    exact hcl i x (Ya.1 hi).1 hi ih
  have hfull:=sorted_full (a:=0) (b:=m.n) (by omega) hT.so hT.b
  rw [show ((out.n:Nat):Int)=(T.length:Int) by rw [hol]]
  rw [Int.sub_zero] at hfull
  rw [hfull]
  exact ⟨fun hA v h0 h1=>(hiff v).1 (hA v h0 h1),fun hA v h0 h1=>(hiff v).2 (hA v h0 h1)⟩
theorem VM_iff {m:Mch}:VM m ↔ NumM m/\ApM m/\TimM m/\RchM m:=
 ⟨fun h=>⟨h.n,ap_iff.2 ⟨h.d,h.a⟩,h.t,h.r⟩,fun h=>⟨h.1,(ap_iff.1 h.2.1).1,h.2.2.2,(ap_iff.1 h.2.1).2,h.2.2.1⟩⟩
theorem refValid24 (m:Mch) (sf sm sl:Sl) (h:Heap) (hM:MI h m sf sm sl):Fn Pz 52 #[.agg ⟨mC m sf sm sl⟩] h (RP (VM m) h):=by
 apply vc52 m.role m.n m.s sf sm sl; unfold W52
 refine (St.refl h).newb fun h7 hs=>?_
 refine ⟨_,_,_,sf,sm,sl,hs.at 0 rfl (o:=0) (n:=6) rfl,?_⟩
 refine (numbers58 m sf sm sl h7 (hM.ext hs.ext)).mono ?_
 rintro _ h16 ⟨⟨b1,rfl,hb1⟩,E⟩
 have hs:=hs.step E
 refine ⟨_,rfl,sB_intro (fun c1=>?_) (fun c1=>RP.f (fun hG=>iff_f hb1 c1 (VM_iff.1 hG).1) hs.ext)⟩
 have hN:=hb1.1 c1
 refine ⟨_,_,_,sf,sm,sl,hs.at 0 rfl (o:=0) (n:=6) rfl,?_⟩
 refine (apart59 m sf sm sl h16 (hM.ext hs.ext) hN).mono ?_
 rintro _ h25 ⟨⟨b2,rfl,hb2⟩,E⟩
 have hs:=hs.step E
 refine ⟨_,rfl,E.sm,sB_intro (fun c2=>?_) (fun c2=>RP.f (fun hG=>iff_f hb2 c2 (VM_iff.1 hG).2.1) hs.ext)⟩
 refine ⟨_,_,_,sf,sm,sl,hs.at 0 rfl (o:=0) (n:=6) rfl,?_⟩
 refine (timed60 m sf sm sl h25 (hM.ext hs.ext)).mono ?_
 rintro _ h34 ⟨⟨b3,rfl,hb3⟩,E⟩
 have hs:=hs.step E
 refine ⟨_,rfl,E.sm,sB_intro (fun c3=>?_) (fun c3=>RP.f (fun hG=>iff_f hb3 c3 (VM_iff.1 hG).2.2.1) hs.ext)⟩
 refine ⟨_,_,_,sf,sm,sl,hs.at 0 rfl (o:=0) (n:=6) rfl,_,hs.rd 0 rfl rfl,?_⟩
 refine (reached61 m sf sm sl h34 (hM.ext hs.ext) hN).mono ?_
 rintro _ h44 ⟨E,s,rfl,hb4⟩
 refine ⟨_,rfl,E.sm,RP.e ?_ (hs.step E).ext⟩
 rw [beq_iff_eq,hb4,VM_iff]
 exact ⟨fun hr=>⟨hN,hb2.1 c2,hb3.1 c3,hr⟩,fun hG=>hG.2.2.2⟩
structure FewM (m:Mch):Prop where
 n:m.n<=40
 f:m.fin.length<=45
 q:m.mv.length<=80
 l:m.li.length<=45
theorem few13 (m:Mch) (sf sm sl:Sl) (h:Heap) (hM:MI h m sf sm sl):Fn Pz 45 #[.agg ⟨mC m sf sm sl⟩] h (RP (FewM m) h):=by
 apply vc45 m.role m.n m.s sf sm sl; unfold W45
 have hfn:=hM.pf.ln
 have hmn:=hM.pm.ln
 have hln:=hM.pl.ln
 refine (St.refl h).newb fun h7 hs=>?_
 refine ⟨_,hs.rd 0 rfl rfl,sBi (fun c1=>?_) (fun c1=>RP.f (fun hG=>by have:=hG.n; omega) hs.ext)⟩
 refine ⟨sf,hs.rd 0 rfl rfl,sBi (fun c2=>?_) (fun c2=>RP.f (fun hG=>by have:=hG.f; omega) hs.ext)⟩
 refine ⟨sm,hs.rd 0 rfl rfl,sBi (fun c3=>?_) (fun c3=>RP.f (fun hG=>by have:=hG.q; omega) hs.ext)⟩
 refine ⟨sl,hs.rd 0 rfl rfl,RP.e ?_ hs.ext⟩
 rw [decide_eq_true_eq]
 exact ⟨fun c4=>⟨c1,by omega,by omega,by omega⟩,fun hG=>by have:=hG.l; omega⟩
end Go.VC
end

section
/- Contracts: the reference's systems and configurations; equality; few. (Numbers of layer 27's development dump.) -/
namespace Go.VC
open Go.Proofs Go.LexS
theorem refSys23 (L:List MR) (s:Sl) (h:Heap) (hS:SyI h s L):Fn Pz 23 #[.slice s.a s.n s.c] h (RP (SysV (L.map MR.m)) h):=by
 apply vc23 s; unfold W23
 have hn:=hS.r.ln
 have hlm:(L.map MR.m).length=L.length:=Yc _
 have hs:=St.refl h
 refine sBi (fun c=>RP.f (fun hG=>by have:=hG.n; omega) .rfl') (fun c1=>?_)
 refine sBi (fun c=>RP.f (fun hG=>by have:=hG.n; omega) .rfl') (fun c2=>?_)
 refine up_loopS (n:=s.n) hs (fun i=>∀ (j:Nat) (x:MR),j<i->L[j]?=some x->x.m.role=(j:Int)/\VM x.m/\∀ y ∈ x.m.mv,y.peer<(L.length:Int)) (fun j x hj=>by omega) ?_
 rintro - i h9 hi ⟨hs,hq⟩
 refine sB_intro (fun c=>?_) (fun c=>?_)
 ·
  replace c:=lt_t c
  refine (hS.r.rw.ext hs.ext).nbI (by omega) (by omega) fun b o x gx t=>?_
  replace gx:L[i]?=some x:=gx
  have hxi:=hS.i x (Yb gx)
  have hmx:(L.map MR.m)[i]?=some x.m:=by rw [Yd,gx]; rfl
  have hgn:=hxi.pm.ln
  have hgm:=hxi.pm.sm
  refine ⟨_,_,_,_,_,_,t,?_⟩
  refine (refValid24 x.m x.f x.g x.l h9 (hxi.ext hs.ext)).mono ?_
  rintro _ h16 ⟨⟨b1,rfl,hb1⟩,E⟩
  have hs:=hs.step E
  refine ⟨_,rfl,sB_intro (fun c=>RP.f (fun hG=>iff_f hb1 (bF c) (hG.m i x.m hmx).2.1) hs.ext) (fun c4=>?_)⟩
  refine (hS.r.rw.ext hs.ext).nbI (by omega) (by omega) fun b2 o2 x2 gx2 t2=>?_
  replace gx2:L[i]?=some x2:=gx2
  rw [gx] at gx2; cases gx2
  refine ⟨_,t2.hd,sBn (fun c=>RP.f (fun hG=>c (hG.m i x.m hmx).1) hs.ext) (fun c3=>?_)⟩
  refine up_loopS (n:=x.g.n) hs (fun k=>∀ (j:Nat) (y:Mv),j<k->x.m.mv[j]?=some y->y.peer<(L.length:Int)) (fun j y hj=>by omega) ?_
  rintro - k h24 hk ⟨hs,hq2⟩
  refine (hS.r.rw.ext hs.ext).nbI (by omega) (by omega) fun b3 o3 x3 gx3 t3=>?_
  replace gx3:L[i]?=some x3:=gx3
  rw [gx] at gx3; cases gx3
  refine ⟨x.g,t3.nth 4 rfl,sB_intro (fun d=>?_) (fun d=>?_)⟩
  ·
   replace d:=lt_t d
   refine (hS.r.rw.ext hs.ext).nbI (by omega) (by omega) fun b4 o4 x4 gx4 t4=>?_
   replace gx4:L[i]?=some x4:=gx4
   rw [gx] at gx4; cases gx4
   refine ⟨x.g,t4.nth 4 rfl,?_⟩
   refine (hxi.pm.rw.ext hs.ext).nbI (by omega) (by omega) fun b5 o5 y gy t5=>?_
   replace gy:x.m.mv[k]?=some y:=gy
   refine ⟨_,t5.nth 2 rfl,sBi (fun c5=>RP.f (fun hG=>by have:=(hG.m i x.m hmx).2.2 y (Yb gy); omega) hs.ext) (fun c5=>?_)⟩
   refine Up.next (by omega) (by omega) ⟨hs,fun j z hj hz=>?_⟩
   by_cases e:j=k
   ·
    subst e; rw [gy] at hz; cases hz; omega
   ·
    exact hq2 j z (by omega) hz
  ·
   replace d:=lt_f d
   refine Up.next (by omega) (by omega) ⟨hs,fun j y hj hy=>?_⟩
   by_cases e:j=i
   ·
    subst e; rw [gx] at hy; cases hy
    refine ⟨c3,hb1.1 (bT c4),fun z hz=>?_⟩
    obtain ⟨q,hqz⟩:=Yf.1 hz
    exact hq2 q z (by have:=(Ya.1 hqz).1; omega) hqz
   ·
    exact hq j y (by omega) hy
 ·
  replace c:=lt_f c
  refine RP.t ⟨by omega,fun p m hm=>?_⟩ hs.ext
  rw [Yd] at hm
  obtain ⟨x,hx,rfl⟩:=Yya.1 hm
  rw [hlm]
  exact hq p x (by have:=(Ya.1 hx).1; omega) hx
theorem same34 (X Y:List Int) (a b:Sl) (h:Heap) (hX:RL h 1 a inC X) (hY:RL h 1 b inC Y):Fn Pz 34 #[.slice a.a a.n a.c,.slice b.a b.n b.c] h (RP (X=Y) h):=by
 apply vc34 a b; unfold W34
 have ha:=hX.ln
 have hb:=hY.ln
 have hsm:=hX.sm
 refine sBn (fun c=>RP.f (fun hG=>by rw [hG] at ha; omega) .rfl') (fun c1=>?_)
 refine up_loopS (n:=a.n) (St.refl h) (fun i=>∀ (j:Nat),j<i->X[j]?=Y[j]?) (fun j hj=>by omega) ?_
 rintro - i h5 hi ⟨hs,hq⟩
 refine sB_intro (fun c=>?_) (fun c=>?_)
 ·
  replace c:=lt_t c
  refine (hX.rw.ext hs.ext).nbI (by omega) (by omega) fun b1 o1 x gx t1=>?_
  replace gx:X[i]?=some x:=gx
  refine ⟨_,t1.hd,?_⟩
  refine (hY.rw.ext hs.ext).nbI (by omega) (by omega) fun b2 o2 y gy t2=>?_
  replace gy:Y[i]?=some y:=gy
  refine ⟨_,t2.hd,sBn (fun c2=>RP.f (fun hG=>by rw [hG,gy] at gx; cases gx; exact c2 rfl) hs.ext) (fun c2=>?_)⟩
  refine Up.next (by omega) (by omega) ⟨hs,fun j hj=>?_⟩
  by_cases e:j=i
  ·
   subst e; rw [gx,gy,c2]
  ·
   exact hq j (by omega)
 ·
  replace c:=lt_f c
  refine RP.t (Yyr fun j=>?_) hs.ext
  by_cases hj:j<X.length
  ·
   exact hq j (by omega)
  ·
   rw [Yl (by omega),Yl (by omega)]
end Go.VC
end

section
/- Contracts: equality of configurations; few; the start configuration. (Numbers of layer 27's development dump.) -/
namespace Go.VC
open Go.Proofs Go.LexS
structure FewC (L:List Mch) (S:List Int) (B:List (List Int)):Prop where
 m:∀ x ∈ L,FewM x
 b:∀ b ∈ B,b.length<=10
 n:L.length<=7/\S.length<=10/\B.length<=50
theorem fewC13 (L:List MR) (s:Sl) (ss sb:Sl) (S:List Int) (B:List Bx) (h:Heap) (hS:SyI h s L) (hC:CfI h ss sb S B) :
  Fn Pz 13 #[.slice s.a s.n s.c,.agg ⟨[.slice ss.a ss.n ss.c,.slice sb.a sb.n sb.c]⟩] h (RP (FewC (L.map MR.m) S (B.map Bx.l)) h):=by
 apply vc13 s ss sb; unfold W13
 have hn:=hS.r.ln
 have hnm:=hS.r.sm
 have hsn:=hC.s.ln
 have hbn:=hC.b.ln
 have hbm:=hC.b.sm
 have hlm:(L.map MR.m).length=L.length:=Yc _
 have hlb:(B.map Bx.l).length=B.length:=Yc _
 refine (St.refl h).newb fun h3 hs=>?_
 refine up_loopS (n:=s.n) hs (fun i=>∀ (j:Nat) (x:MR),j<i->L[j]?=some x->FewM x.m) (fun j x hj=>by omega) ?_
 rintro - i h8 hi ⟨hs,hq⟩
 refine sB_intro (fun c=>?_) (fun c=>?_)
 ·
  replace c:=lt_t c
  refine (hS.r.rw.ext hs.ext).nbI (by omega) (by omega) fun b o x gx t=>?_
  replace gx:L[i]?=some x:=gx
  have hxm:=Yb gx
  refine ⟨_,_,_,_,_,_,t,?_⟩
  refine (few13 x.m x.f x.g x.l h8 ((hS.i x hxm).ext hs.ext)).mono ?_
  rintro _ h19 ⟨⟨b1,rfl,hb1⟩,E⟩
  have hs:=hs.step E
  refine ⟨_,rfl,sB_intro (fun c=>RP.f (fun hG=>iff_f hb1 (bF c) (hG.m x.m (List.mem_map_of_mem hxm))) hs.ext) (fun c2=>?_)⟩
  refine Up.next (by omega) (by omega) ⟨hs,fun j y hj hy=>?_⟩
  by_cases e:j=i
  ·
   subst e; rw [gx] at hy; cases hy; exact hb1.1 (bT c2)
  ·
   exact hq j y (by omega) hy
 ·
  replace c:=lt_f c
  refine up_loopS (n:=sb.n) hs (fun i=>∀ (j:Nat) (q:Bx),j<i->B[j]?=some q->q.l.length<=10) (fun j x hj=>by omega) ?_
  rintro - k h25 hk ⟨hs,hq2⟩
  refine ⟨sb,hs.rd 0 rfl (i:=1) rfl,sB_intro (fun d=>?_) (fun d=>?_)⟩
  ·
   replace d:=lt_t d
   refine ⟨sb,hs.rd 0 rfl (i:=1) rfl,?_⟩
   refine (hC.b.rw.ext hs.ext).nbI (by omega) (by omega) fun b o q gq t=>?_
   replace gq:B[k]?=some q:=gq
   have hqm:=Yb gq
   have hql:=(hC.i q hqm).ln
   refine ⟨q.s,t.hd,sBi (fun c5=>RP.f (fun hG=>by have:=hG.b q.l (List.mem_map_of_mem hqm); omega) hs.ext) (fun c5=>?_)⟩
   refine Up.next (by omega) (by omega) ⟨hs,fun j y hj hy=>?_⟩
   by_cases e:j=k
   ·
    subst e; rw [gq] at hy; cases hy; omega
   ·
    exact hq2 j y (by omega) hy
  ·
   replace d:=lt_f d
   refine sBi (fun c1=>?_) (fun c1=>RP.f (fun hG=>by have:=hG.n; omega) hs.ext)
   refine ⟨ss,hs.rd 0 rfl rfl,sBi (fun c2=>?_) (fun c2=>RP.f (fun hG=>by have:=hG.n; omega) hs.ext)⟩
   refine ⟨sb,hs.rd 0 rfl (i:=1) rfl,RP.e ?_ hs.ext⟩
   rw [decide_eq_true_eq]
   refine ⟨fun c3=>⟨fun x hx=>?_,fun b hb=>?_,by omega⟩,fun hG=>by have:=hG.n; omega⟩
   ·
    obtain ⟨y,hy,rfl⟩:=Yp.1 hx
    obtain ⟨j,hj⟩:=Yf.1 hy
    exact hq j y (by have:=(Ya.1 hj).1; omega) hj
   ·
    obtain ⟨y,hy,rfl⟩:=Yp.1 hb
    obtain ⟨j,hj⟩:=Yf.1 hy
    exact hq2 j y (by have:=(Ya.1 hj).1; omega) hj
def cfA (ss sb:Sl):Value:=.agg ⟨[.slice ss.a ss.n ss.c,.slice sb.a sb.n sb.c]⟩
theorem CfI.none_ {h:Heap}:CfI h ⟨none,0,0⟩ ⟨none,0,0⟩ [] []:=⟨⟨Rw.nil,Yyt _,fun _=>⟨rfl,rfl⟩,Nat.zero_le _⟩,⟨Rw.nil,Yyt _,fun _=>⟨rfl,rfl⟩,Nat.zero_le _⟩,fun q hq=>by cases hq⟩
def startS (L:List Mch):List Int:=L.map fun m=>m.s
def bx0:Bx:=⟨⟨none,0,0⟩,[]⟩
theorem bxrows (B:List Bx):∀ r ∈ B.map Bx.cs,r.length=1:=fun r hr=>by obtain ⟨x,_,rfl⟩:=Yp.1 hr; rfl
theorem inrows' (L:List Int):∀ r ∈ L.map inC,r.length=1:=fun r hr=>by obtain ⟨x,_,rfl⟩:=Yp.1 hr; rfl
def Bx.itq (q:Bx):It:=.q q.s 3 1 (q.l.map inC)
structure CfM (A:List It) (ss sb:Sl) (S:List Int) (B:List Bx):Prop where
 s:It.sl ss 3 1 (S.map inC) ∈ A
 b:It.sl sb 23 1 (B.map Bx.cs) ∈ A
 i:∀ q ∈ B,q=bx0\/q.it ∈ A\/q.itq ∈ A
 n:S.length<=1048576/\B.length<=1048576/\∀ q ∈ B,q.l.length<=1048576
theorem CfM.mono {A A':List It} {ss sb:Sl} {S:List Int} {B:List Bx} (h:CfM A ss sb S B) (hA:∀ i ∈ A,i ∈ A'):CfM A' ss sb S B:=⟨hA _ h.s,hA _ h.b,fun q hq=>(h.i q hq).imp id (Or.imp (hA _) (hA _)),h.n⟩
theorem CfM.cfi {h0 h:Heap} {A:List It} {ss sb:Sl} {S:List Int} {B:List Bx} (hs:St h0 h A) (hM:CfM A ss sb S B):CfI h ss sb S B:=by
 obtain ⟨k,hk⟩:=Yf.1 hM.s
 obtain ⟨k',hk'⟩:=Yf.1 hM.b
 have l1:=hs.len k hk (by omega)
 have l2:=hs.len k' hk' (by omega)
 refine ⟨⟨hs.rows k hk (by omega),l1.2.1,l1.2.2,hM.n.1⟩,⟨hs.rows k' hk' (by omega),l2.2.1,l2.2.2,hM.n.2.1⟩,fun q hq=>?_⟩
 rcases hM.i q hq with rfl | hi | hi
 ·
  exact ⟨Rw.nil,Yyt _,fun _=>⟨rfl,rfl⟩,Nat.zero_le _⟩
 ·
  obtain ⟨j,hj⟩:=Yf.1 hi
  have l3:=hs.len j hj (by omega)
  exact ⟨hs.rows j hj (by omega),l3.2.1,l3.2.2,hM.n.2.2 q hq⟩
 ·
  obtain ⟨j,hj⟩:=Yf.1 hi
  have l3:=hs.qlen j hj
  refine ⟨hs.qrw j hj (by omega),l3.2,fun ha=>?_,hM.n.2.2 q hq⟩
  rcases (hs.get hj).1.2 with ⟨_,h2,h3⟩ | ⟨g,o,cur,hb,_⟩
  ·
   exact ⟨h2,h3⟩
  ·
   rw [ha] at hb; cases hb
theorem CfM.none_:CfM [.sl ⟨none,0,0⟩ 3 1 [],.sl ⟨none,0,0⟩ 23 1 []] ⟨none,0,0⟩ ⟨none,0,0⟩ [] []:=⟨Yx,Yn _ Yx,fun q hq=>(by cases hq),Nat.zero_le _,Nat.zero_le _,fun q hq=>(by cases hq)⟩
set_option maxHeartbeats 1600000 in
theorem first46 (L:List MR) (s:Sl) (h:Heap) (hS:SyI h s L) (h6:L.length<=6) :
  Fn Pz 46 #[.slice s.a s.n s.c] h fun v h'=>∃ (ss sb:Sl) (A:List It),v=cfA ss sb/\St h h' A/\CfM A ss sb (startS (L.map MR.m)) (List.replicate (L.length*L.length) bx0):=by
 apply vc46 s; unfold W46
 have hn:=hS.r.ln
 have h36:=sq6 h6
 have hsq:(s.n:Int)*(s.n:Int)=((L.length*L.length:Nat):Int):=by rw [hn]; rfl
 generalize hnn:L.length*L.length=nn at *
 refine (St.refl h).newb fun h1 hs=>?_
 rw [hsq,w64 (n:=((nn:Nat):Int)) (by omega) (by omega),Ys]
 refine ⟨⟨by omega,by omega,by omega⟩,?_⟩
 refine hs.newb fun h2 hs=>?_
 have hs:=hs.blkS nn 1 ((List.replicate nn bx0).map Bx.cs) (by rw [made42,List.map_replicate,List.map_replicate]; rfl) (bxrows _) (by rw [Yc,Yg]) (by simp only [maxLen]; omega)
 refine hs.newput (vs:=[.slice none 0 0,.slice (some ⟨h1.size,0,none⟩) nn nn]) rfl rfl fun h4 hs=>?_
 have hs:=hs.nil_ 3 1
 have hSl:(startS (L.map MR.m)).length=L.length:=by unfold startS; rw [Yc,Yc]
 refine ⟨fun x h' μ=>∃ (i:Nat) (st:Sl),x=(i:Int)/\μ=L.length - i/\i<=L.length/\St h h' [.sl st 3 1 (((startS (L.map MR.m)).take i).map inC),.blk h2.size [.slice st.a st.n st.c,.slice (some ⟨h1.size,0,none⟩) nn nn] 26,.sl ⟨some ⟨h1.size,0,none⟩,nn,nn⟩ 23 1 ((List.replicate nn bx0).map Bx.cs),.blk h.size [.slice none 0 0,.slice none 0 0] 26],⟨_,0,_,rfl,rfl,Nat.zero_le _,hs⟩,?_⟩
 clear hs
 rintro - _ h9 μ ⟨i,st,rfl,rfl,hi,hs⟩
 refine sBi (fun c=>?_) (fun c=>?_)
 ·
  obtain ⟨y,gy⟩:=get_some (l:=L) (i:=i) (by omega)
  have gs:(startS (L.map MR.m))[i]?=some y.m.s:=by unfold startS; rw [Yd,Yd,gy]; rfl
  have hst:=(hs.rows 0 (s:=st) (cs:=inC) rfl (by omega)).ln
  rw [Yu] at hst
  refine ⟨st,hs.rd 1 rfl rfl,?_⟩
  refine (hS.r.rw.ext hs.ext).nbI (by omega) (by omega) fun b o y' gy' t=>?_
  rw [Ys] at gy'
  replace gy':L[i]?=some y':=gy'
  rw [gy] at gy'; cases gy'
  refine ⟨_,t.nth 2 rfl,?_⟩
  refine hs.newbE fun h14 E14 hs=>⟨E14.sm,?_⟩
  refine hs.appended 1 (rows:=((startS (L.map MR.m)).take i).map inC) rfl app42 (m:=1) (news:=[inC y.m.s]) (hs.at 0 rfl (n:=1) rfl) rfl (by simp [inC]) rfl (by omega) (by simp only [maxLen]; omega) fun r h16 nr hs=>?_
  refine hs.put 2 rfl (o:=0) (vs:=[.slice r.a r.n r.c]) rfl (show 1<=2 by decide) fun h17 hs=>?_
  refine ⟨_,(show L.length - (i+1)<L.length - i by omega),i+1,r,by rw [w64 (by omega) (by omega)]; omega,rfl,by omega,?_⟩
  rw [take_snoc gs,Ym]
  exact hs.drop 1
 ·
  have hil:i=L.length:=by omega
  subst hil
  rw [Yj (by omega)] at hs
  refine ⟨st,⟨some ⟨h1.size,0,none⟩,nn,nn⟩,hs.at 1 rfl (o:=0) (n:=2) rfl,?_⟩
  refine hs.put 3 rfl (o:=0) (vs:=[.slice st.a st.n st.c,.slice (some ⟨h1.size,0,none⟩) nn nn]) rfl (show 2<=2 by decide) fun h21 hs=>?_
  refine ⟨st,⟨some ⟨h1.size,0,none⟩,nn,nn⟩,hs.at 3 rfl (o:=0) (n:=2) rfl,st,_,_,rfl,hs,?_⟩
  refine ⟨Yx,Yn _ (Yn _ Yx),fun q hq=>.inl (List.eq_of_mem_replicate hq),by omega,by rw [Yg]; omega,fun q hq=>?_⟩
  rw [List.eq_of_mem_replicate hq]; exact Nat.zero_le _
end Go.VC
end

section
namespace Go.VC
open Go.Proofs
variable [Mono]
namespace M

def W118 (p0_1:Int) (p0_2:Bool) (p0_3 p0_4 p0_5:Int) (p0_6:Bool) (h:Heap) (R:Value->Heap->Prop):Prop:=
 (Wn h (L0 p0_1 p0_2 p0_3 p0_4 p0_5 p0_6) 108 fun h7=>
 (∃ x8,rB h7 (aS h 1) x8 /\
 (sB x8
 (R (vI 0) h7)
 (R (vI 1) h7))))
theorem vc118 (p0_1:Int) (p0_2:Bool) (p0_3 p0_4 p0_5:Int) (p0_6:Bool) (h:Heap) (R:Value->Heap->Prop) (H:W118 p0_1 p0_2 p0_3 p0_4 p0_5 p0_6 h R):Fn Pz 118 #[.agg ⟨(L0 p0_1 p0_2 p0_3 p0_4 p0_5 p0_6)⟩] h R:=fnI (A:=.z) (by kernel_rfl) H

def W82 (p0_1:Int) (p0_2:Bool) (p0_3 p0_4 p0_5:Int) (p0_6:Bool) (p1_7:Int) (p1_8:Bool) (p1_9 p1_10 p1_11:Int) (p1_12:Bool) (h:Heap) (R:Value->Heap->Prop):Prop:=
 (Wn h (L0 p0_1 p0_2 p0_3 p0_4 p0_5 p0_6) 108 fun h13=>
 (Wn h13 (L0 p1_7 p1_8 p1_9 p1_10 p1_11 p1_12) 108 fun h14=>
 (∃ x15 x16 x17 x18 x19 x20,aL0 h14 (aS h 0) x15 x16 x17 x18 x19 x20 /\
 (∃ x21 x22 x23 x24 x25 x26,aL0 h14 (aS h13 0) x21 x22 x23 x24 x25 x26 /\
 (∃ x27,rI h14 (aS h 2) x27 /\
 (∃ x28,rI h14 (aS h13 2) x28 /\
 (∃ x29,rI h14 (aS h 3) x29 /\
 (∃ x30,rI h14 (aS h13 3) x30 /\
 (Fn Pz 118 #[.agg ⟨(L0 x15 x16 x17 x18 x19 x20)⟩] h14
 (fun v31 h33=>∃ x32,iI v31 x32 /\
 (Sm [(aS h13 3),(aS h 3),(aS h13 2),(aS h 2),(aS h13 0)] h14 h33 /\
 (Fn Pz 118 #[.agg ⟨(L0 x21 x22 x23 x24 x25 x26)⟩] h33
 (fun v34 h36=>∃ x35,iI v34 x35 /\
 (Sm [(aS h13 3),(aS h 3),(aS h13 2),(aS h 2),(aS h 0)] h33 h36 /\
 (Fn Pz 120 #[vI x32,vI x35] h36
 (fun v37 h39=>∃ x38,iI v37 x38 /\
 (Sm [(aS h13 3),(aS h 3),(aS h13 2),(aS h 2)] h36 h39 /\
 (Fn Pz 120 #[vI x27,vI x28] h39
 (fun v40 h42=>∃ x41,iI v40 x41 /\
 (Sm [(aS h13 3),(aS h 3),(aS h13 0),(aS h 0)] h39 h42 /\
 (Fn Pz 120 #[vI x29,vI x30] h42
 (fun v43 h45=>∃ x44,iI v43 x44 /\
 (Sm [(aS h13 2),(aS h 2),(aS h13 0),(aS h 0)] h42 h45 /\
 (Wn h45 (L4 x38 x41 x44) 3 fun h46=>
 (Fn Pz 119 #[.slice (some (aS h45 0)) 3 3] h46
 (fun v47 h49=>∃ x48,iI v47 x48 /\
 R (vI x48) h49))))))))))))))))))))))))))
theorem vc82 (p0_1:Int) (p0_2:Bool) (p0_3 p0_4 p0_5:Int) (p0_6:Bool) (p1_7:Int) (p1_8:Bool) (p1_9 p1_10 p1_11:Int) (p1_12:Bool) (h:Heap) (R:Value->Heap->Prop) (H:W82 p0_1 p0_2 p0_3 p0_4 p0_5 p0_6 p1_7 p1_8 p1_9 p1_10 p1_11 p1_12 h R):Fn Pz 82 #[.agg ⟨(L0 p0_1 p0_2 p0_3 p0_4 p0_5 p0_6)⟩,.agg ⟨(L0 p1_7 p1_8 p1_9 p1_10 p1_11 p1_12)⟩] h R:=fnI (A:=.z) (by kernel_rfl) H

def W81 (p0_1 p0_2 p1_3 p1_4:Int) (c0:Addr) (h:Heap) (R:Value->Heap->Prop):Prop:=
 (Wn h [vI p0_1,vI p0_2] 57 fun h5=>
 (Wn h5 [vI p1_3,vI p1_4] 57 fun h6=>
 (∃ x7,rS h6 ⟨c0.block,c0.off+4,none⟩ x7 /\
 (∃ x8,rI h6 (aS h 1) x8 /\
 (NB x7.a fun b9 o10=>(Ib x8 x7.n /\
 (∃ x11 x12 x13 x14 x15 x16,aL0 h6 ⟨b9,o10+Int.toNat x8*6,none⟩ x11 x12 x13 x14 x15 x16 /\
 (∃ x17,rS h6 ⟨c0.block,c0.off+4,none⟩ x17 /\
 (∃ x18,rI h6 (aS h5 1) x18 /\
 (NB x17.a fun b19 o20=>(Ib x18 x17.n /\
 (∃ x21 x22 x23 x24 x25 x26,aL0 h6 ⟨b19,o20+Int.toNat x18*6,none⟩ x21 x22 x23 x24 x25 x26 /\
 (Fn Pz 82 #[.agg ⟨(L0 x11 x12 x13 x14 x15 x16)⟩,.agg ⟨(L0 x21 x22 x23 x24 x25 x26)⟩] h6
 (fun v27 h29=>∃ x28,iI v27 x28 /\
 R (vI x28) h29))))))))))))))
theorem vc81 (p0_1 p0_2 p1_3 p1_4:Int) (c0:Addr) (h:Heap) (R:Value->Heap->Prop) (H:W81 p0_1 p0_2 p1_3 p1_4 c0 h R):Fn Pz 81 #[.agg ⟨[vI p0_1,vI p0_2]⟩,.agg ⟨[vI p1_3,vI p1_4]⟩,.pointer (some c0)] h R:=fnI (A:=.z) (by kernel_rfl) H

end M
end Go.VC
end

section
/- Contracts: the order of steps, over every relation of worlds. (Numbers of layer 27's development dump.) -/
namespace Go.VC
open Go.Proofs Go.LexS
def stC (p:Int) (k:Nat):List Value:=[.int .i64 p,.int .i64 (k:Int)]
variable [Mono]
namespace M
theorem side118 (x:Mv) (h:Heap):Fn Pz 118 #[.agg ⟨x.cs⟩] h fun v h'=>v=.int .i64 (sideM x)/\Ext h h':=by
 apply vc118 x.f x.send x.peer x.label x.t x.ag; unfold W118
 refine (St.refl h).newb fun h7 hs=>?_
 refine ⟨_,hs.rd 0 rfl rfl,?_⟩
 unfold sideM
 refine sB_intro (fun c=>?_) (fun c=>?_)
 ·
  exact ⟨by rw [if_pos c],hs.ext⟩
 ·
  exact ⟨by rw [if_neg (by rw [c]; simp)],hs.ext⟩
theorem order82 (x y:Mv) (h:Heap):Fn Pz 82 #[.agg ⟨x.cs⟩,.agg ⟨y.cs⟩] h fun v h'=>v=.int .i64 (cmpE x.ev y.ev)/\Ext h h':=by
 apply vc82 x.f x.send x.peer x.label x.t x.ag y.f y.send y.peer y.label y.t y.ag; unfold W82
 refine (St.refl h).newb fun h13 hs=>?_
 refine hs.newb fun h14 hs=>?_
 refine ⟨_,_,_,_,_,_,hs.at 1 rfl (o:=0) (n:=6) rfl,_,_,_,_,_,_,hs.at 0 rfl (o:=0) (n:=6) rfl,_,hs.rd 1 rfl rfl,_,hs.rd 0 rfl rfl,_,hs.rd 1 rfl rfl,_,hs.rd 0 rfl rfl,?_⟩
 refine (side118 x _).mono ?_
 rintro _ h33 ⟨rfl,E1⟩
 refine ⟨_,rfl,Sm_ext E1,?_⟩
 have hs:=hs.step E1
 refine (side118 y _).mono ?_
 rintro _ h36 ⟨rfl,E2⟩
 refine ⟨_,rfl,Sm_ext E2,?_⟩
 have hs:=hs.step E2
 refine (cmp110 _ _ _).mono ?_
 rintro _ _ ⟨rfl,rfl⟩
 refine ⟨_,rfl,fun _ _ _ _ hv=>hv,?_⟩
 refine (cmp110 _ _ _).mono ?_
 rintro _ _ ⟨rfl,rfl⟩
 refine ⟨_,rfl,fun _ _ _ _ hv=>hv,?_⟩
 refine (cmp110 _ _ _).mono ?_
 rintro _ _ ⟨rfl,rfl⟩
 refine ⟨_,rfl,fun _ _ _ _ hv=>hv,?_⟩
 refine hs.newb fun h46 hs=>?_
 have hs2:=hs.blkS 3 1 ([cmpI (sideM x) (sideM y),cmpI x.peer y.peer,cmpI x.label y.label].map inC) rfl (inrows _) rfl (by decide)
 refine (or109 [cmpI (sideM x) (sideM y),cmpI x.peer y.peer,cmpI x.label y.label] _ h46 (hs2.rows 0 rfl (by omega)) (show 3<=1048576 by decide)).mono ?_
 rintro _ _ ⟨rfl,rfl⟩
 refine ⟨_,rfl,?_,hs.ext⟩
 show Value.int .i64 (orI3 _ (orI3 _ (orI3 _ 0)))=_
 congr 1
 obtain ⟨f,s,p,l,t,a⟩:=x
 obtain ⟨f',s',p',l',t',a'⟩:=y
 unfold cmpE orI3 sideM Mv.ev
 cases s <;> cases s' <;> simp [cmpI] <;> (repeat' split) <;> omega
theorem orderS81 (mv:List Mv) (sm:Sl) (a:Addr) (p q:Int) (i k:Nat) (x y:Mv) (h:Heap) (ha:hc h ⟨a.block,a.off+4,none⟩=some (.slice sm.a sm.n sm.c)) (hr:Rw h 6 sm (mv.map Mv.cs)) (hx:mv[i]?=some x) (hy:mv[k]?=some y) :
  Fn Pz 81 #[.agg ⟨stC p i⟩,.agg ⟨stC q k⟩,.pointer (some a)] h fun v h'=>v=.int .i64 (cmpE x.ev y.ev)/\Ext h h':=by
 apply vc81 p (i:Nat) q (k:Nat) a; unfold W81
 have hn:=hr.ln
 have hxl:=(Ya.1 hx).1
 have hyl:=(Ya.1 hy).1
 refine (St.refl h).newb fun h5 hs=>?_
 refine hs.newb fun h6 hs=>?_
 refine ⟨sm,hc_ext hs.ext ha,_,hs.rd 1 rfl (i:=1) rfl,?_⟩
 refine (hr.ext hs.ext).nbI (by omega) (by omega) fun b o x' gx t=>?_
 replace gx:mv[i]?=some x':=gx
 rw [hx] at gx; cases gx
 refine ⟨_,_,_,_,_,_,t,sm,hc_ext hs.ext ha,_,hs.rd 0 rfl (i:=1) rfl,?_⟩
 refine (hr.ext hs.ext).nbI (by omega) (by omega) fun b2 o2 y' gy t2=>?_
 replace gy:mv[k]?=some y':=gy
 rw [hy] at gy; cases gy
 refine ⟨_,_,_,_,_,_,t2,?_⟩
 refine (order82 x y h6).mono ?_
 rintro _ h29 ⟨rfl,E⟩
 exact ⟨_,rfl,rfl,hs.ext.trans E⟩
end M
def Sort80:Prop:=∀ (m:Mch) (sm:Sl) (a:Addr) (p:Int) {h0 h:Heap} {Ls:List It},St h0 h Ls->∀ (i:Nat) {s:Sl} {l:List Nat},Ls[i]?=some (.sl s 57 2 (l.map (stC p)))->(∀ x ∈ l,x<m.mv.length)->(l=[]->s.a=none)->m.mv.length<=1048576->l.length<=1048576 ->
 (∀ h':Heap,h.size<=h'.size->(∀ c,c<h.size->s.a.map (·.block) ≠ some c->h'[c]?=h[c]?)->hc h' ⟨a.block,a.off+4,none⟩=some (.slice sm.a sm.n sm.c)/\Rw h' 6 sm (m.mv.map Mv.cs)) ->
 Fn Pz 80 #[.slice s.a s.n s.c,.func (.func 81) #[] #[.pointer (some a)]] h fun v h'=>v=.tuple ⟨[]⟩/\∃ l':List Nat,l'.Perm l/\l'.Pairwise (fun a b=>¬ evLt (m.mv.getD b ⟨0,false,0,0,0,false⟩).ev (m.mv.getD a ⟨0,false,0,0,0,false⟩).ev)/\St h0 h' (Ls.set i (.sl s 57 2 (l'.map (stC p))))
end Go.VC
end

section
/- Contracts: whether a move can be made, on both sides. (Numbers of layer 27's development dump.) -/
namespace Go.VC
open Go.Proofs Go.LexS
def bxI (n p:Nat) (x:Mv):Nat:=if x.send=true then n*p+x.peer.toNat else n*x.peer.toNat+p
theorem two_lt {n a b:Nat} (ha:a<n) (hb:b<n):n*a+b<n*n:=by
 have h1:n*(a+1)<=n*n:=Nat.mul_le_mul_left _ (by omega)
 rw [Nat.mul_succ] at h1; omega
theorem bxI_lt {n p:Nat} {x:Mv} (hp:p<n) (h0:0<=x.peer) (h1:x.peer<(n:Int)):bxI n p x<n*n:=by
 unfold bxI
 split
 ·
  exact two_lt hp (by omega)
 ·
  exact two_lt (by omega) hp
def canS (n:Nat) (k:Int) (S:List Int) (BL:List (List Int)) (p:Nat) (x:Mv):Int:=
 if x.f ≠ S.getD p 0 then 7 else
 if x.send=true then (if k<=((BL.getD (bxI n p x) []).length:Int) then 19 else 0)
 else match BL.getD (bxI n p x) [] with
  | []=>23
  | l::_=>if l ≠ x.label then 23 else 0
theorem box60 (n p:Nat) (x:Mv) (h:Heap) (hn:n<=6) (hp:p<n) (h0:0<=x.peer) (h1:x.peer<(n:Int)) :
  Fn Pz 60 #[.int .i64 (n:Int),.int .i64 (p:Int),.agg ⟨x.cs⟩] h fun v h'=>v=.int .i64 (bxI n p x:Nat)/\Ext h h':=by
 apply vc60 (n:Int) (p:Int) x.f x.send x.peer x.label x.t x.ag; unfold W60
 have h36:=sq6 hn
 refine (St.refl h).newb fun h7 hs=>?_
 refine ⟨_,hs.rd 0 rfl (i:=1) rfl,?_⟩
 obtain ⟨q,hq⟩:∃ q:Nat,x.peer=(q:Int):=⟨x.peer.toNat,by omega⟩
 have hqn:q<n:=by omega
 have hqt:x.peer.toNat=q:=by omega
 have b1:=two_lt hp hqn
 have b2:=two_lt hqn hp
 unfold bxI
 rw [hqt]
 refine sB_intro (fun c=>?_) (fun c=>?_)
 ·
  refine ⟨(q:Int),by rw [<- hq]; exact hs.rd 0 rfl (i:=2) rfl,?_⟩
  have e1:(n:Int)*(p:Int)=((n*p:Nat):Int):=rfl
  have e2:((n*p:Nat):Int)+(q:Int)=((n*p+q:Nat):Int):=rfl
  rw [if_pos c,e1,w64 (n:=((n*p:Nat):Int)) (by omega) (by omega),e2,w64 (n:=((n*p+q:Nat):Int)) (by omega) (by omega)]
  exact ⟨rfl,hs.ext⟩
 ·
  refine ⟨(q:Int),by rw [<- hq]; exact hs.rd 0 rfl (i:=2) rfl,?_⟩
  have e1:(n:Int)*(q:Int)=((n*q:Nat):Int):=rfl
  have e2:((n*q:Nat):Int)+(p:Int)=((n*q+p:Nat):Int):=rfl
  rw [if_neg (by rw [c]; exact Bool.false_ne_true),e1,w64 (n:=((n*q:Nat):Int)) (by omega) (by omega),e2,w64 (n:=((n*q+p:Nat):Int)) (by omega) (by omega)]
  exact ⟨rfl,hs.ext⟩
set_option maxHeartbeats 800000 in
theorem can58 (n:Nat) (k:Int) (ss sb:Sl) (S:List Int) (B:List Bx) (p:Nat) (x:Mv) (h:Heap) (hC:CfI h ss sb S B) (hn:n<=6) (hS:S.length=n) (hB:B.length=n*n) (hp:p<n) (h0:0<=x.peer) (h1:x.peer<(n:Int)) :
  Fn Pz 58 #[.int .i64 (n:Int),.int .i64 k,.agg ⟨[.slice ss.a ss.n ss.c,.slice sb.a sb.n sb.c]⟩,.int .i64 (p:Int),.agg ⟨x.cs⟩] h fun v h'=>v=.int .i64 (canS n k S (B.map Bx.l) p x)/\Ext h h':=by
 apply vc58 (n:Int) k ss sb (p:Int) x.f x.send x.peer x.label x.t x.ag; unfold W58
 have hsn:=hC.s.ln
 have hbn:=hC.b.ln
 have hlt:=bxI_lt hp h0 h1
 refine (St.refl h).newb fun h9 hs=>?_
 refine hs.newb fun h10 hs=>?_
 refine ⟨sb,hs.rd 1 rfl (i:=1) rfl,_,_,_,_,_,_,hs.at 0 rfl (o:=0) (n:=6) rfl,?_⟩
 refine (box60 n p x h10 hn hp h0 h1).mono ?_
 rintro _ h20 ⟨rfl,E⟩
 have hs:=hs.step E
 refine ⟨_,rfl,E.sm,?_⟩
 refine (hC.b.rw.ext hs.ext).nbI (Int.natCast_nonneg _) (Int.ofNat_lt.2 (by rw [hbn,hB]; exact hlt)) fun b21 o22 q gq t=>?_
 rw [Ys] at gq
 replace gq:B[bxI n p x]?=some q:=gq
 have hqi:=hC.i q (Yb gq)
 have hql:=hqi.ln
 refine ⟨q.s,t.hd,_,hs.rd 0 rfl (i:=0) rfl,ss,hs.rd 1 rfl rfl,?_⟩
 refine (hC.s.rw.ext hs.ext).nbI (by omega) (by omega) fun b o z gz t2=>?_
 rw [Ys] at gz
 replace gz:S[p]?=some z:=gz
 have hSg:S.getD p 0=z:=getD_some gz
 have hBg:(B.map Bx.l).getD (bxI n p x) []=q.l:=getD_some (by rw [Yd,gq]; rfl)
 refine ⟨_,t2.hd,?_⟩
 unfold canS
 rw [hSg,hBg]
 refine sBn (fun c=>⟨by rw [if_pos c],hs.ext⟩) (fun c=>?_)
 rw [if_neg (fun h=>h c)]
 refine ⟨_,hs.rd 0 rfl (i:=1) rfl,sB_intro (fun d=>?_) (fun d=>?_)⟩
 ·
  rw [if_pos d]
  refine sBi (fun e=>⟨by rw [if_pos (by omega)],hs.ext⟩) (fun e=>?_)
  rw [if_neg (by omega)]
  exact ⟨_,hs.rd 0 rfl (i:=1) rfl,sB_f (by rw [d]; rfl) ⟨rfl,hs.ext⟩⟩
 ·
  rw [if_neg (by rw [d]; exact Bool.false_ne_true)]
  refine ⟨_,hs.rd 0 rfl (i:=1) rfl,sB_t (by rw [d]; rfl) (sBe (fun e=>?_) (fun e=>?_))⟩
  ·
   rw [List.eq_nil_of_length_eq_zero (l:=q.l) (by omega)]
   exact ⟨rfl,hs.ext⟩
  ·
   refine (hqi.rw.ext hs.ext).nbI (by omega) (by omega) fun b3 o3 y gy t3=>?_
   replace gy:q.l[0]?=some y:=gy
   cases hl:q.l with
   | nil=>rw [hl] at gy; cases gy
   | cons a r=>
    rw [hl] at gy; cases gy
    refine ⟨_,t3.hd,_,hs.rd 0 rfl (i:=3) rfl,sBn (fun f=>⟨?_,hs.ext⟩) (fun f=>⟨?_,hs.ext⟩)⟩
    ·
     show _=Value.int .i64 (if y ≠ x.label then 23 else 0); rw [if_pos f]
    ·
     show _=Value.int .i64 (if y ≠ x.label then 23 else 0); rw [if_neg (fun h=>h f)]
def posS (L:List Mch) (k:Int) (S:List Int) (BL:List (List Int)) (r i:Int):Int:=
 if r<0\/(L.length:Int)<=r then 2 else match L[r.toNat]? with
 | none=>2
 | some m=>if i<0\/(m.mv.length:Int)<=i then 2 else match m.mv[i.toNat]? with
  | none=>2
  | some x=>canS L.length k S BL r.toNat x
set_option maxHeartbeats 1600000 in
theorem possible61 (L:List MR) (s:Sl) (k:Int) (ss sb:Sl) (S:List Int) (B:List Bx) (r i:Int) (h:Heap) (hS:SyI h s L) (hV:SysV (L.map MR.m)) (hC:CfI h ss sb S B) (hSl:S.length=L.length) (hBl:B.length=L.length*L.length) :
  Fn Pz 61 #[.slice s.a s.n s.c,.int .i64 k,.agg ⟨[.slice ss.a ss.n ss.c,.slice sb.a sb.n sb.c]⟩,.agg ⟨[.int .i64 r,.int .i64 i]⟩] h fun v h'=>v=.int .i64 (posS (L.map MR.m) k S (B.map Bx.l) r i)/\Ext h h':=by
 apply vc61 s k ss sb r i; unfold W61
 have hn:=hS.r.ln
 have hsn:=hC.s.ln
 have hbn:=hC.b.ln
 have hlm:(L.map MR.m).length=L.length:=Yc _
 have hV6:=hV.n
 rw [hlm] at hV6
 have h36:=sq6 hV6.2
 refine (St.refl h).newb fun h5 hs=>?_
 refine hs.newb fun h6 hs=>?_
 unfold posS
 rw [hlm]
 refine ⟨_,hs.rd 0 rfl (i:=0) rfl,sBi (fun c=>⟨by rw [if_pos (.inl c)],hs.ext⟩) (fun c1=>?_)⟩
 refine ⟨_,hs.rd 0 rfl (i:=0) rfl,sBi (fun c=>⟨by rw [if_pos (.inr (by omega))],hs.ext⟩) (fun c2=>?_)⟩
 rw [if_neg (by omega)]
 obtain ⟨p,rfl⟩:∃ p:Nat,r=(p:Int):=⟨r.toNat,by omega⟩
 have hp:p<L.length:=by omega
 obtain ⟨y,gy⟩:=get_some (l:=L) (i:=p) hp
 have gm:(L.map MR.m)[p]?=some y.m:=by rw [Yd,gy]; rfl
 rw [Ys,gm]
 have hyi:=hS.i y (Yb gy)
 have hgn:=hyi.pm.ln
 refine ⟨_,hs.rd 0 rfl (i:=1) rfl,sBi (fun c=>⟨?_,hs.ext⟩) (fun c3=>?_)⟩
 ·
  show _=Value.int .i64 (if i<0\/(y.m.mv.length:Int)<=i then 2 else _); rw [if_pos (.inl c)]
 refine ⟨_,hs.rd 0 rfl (i:=1) rfl,_,hs.rd 0 rfl (i:=0) rfl,?_⟩
 have rdL:∀ {F:Nat->Nat->Prop} {h':Heap},Ext h h'->(∀ b o,atC h' ⟨b,o+p*6,none⟩ y.cs->F b o)->NB s.a fun b o=>(0<=(p:Int)/\(p:Int)<(s.n:Nat))/\F b o:=fun {F h'} E hF=>(hS.r.rw.ext E).nbI (by omega) (by omega) fun b o y' gy' t=>by
  rw [Ys] at gy' t
  replace gy':L[p]?=some y':=gy'
  rw [gy] at gy'; cases gy'
  exact hF b o t
 refine rdL hs.ext fun b1 o1 t1=>?_
 refine ⟨y.g,t1.nth 4 rfl,sBi (fun c=>⟨?_,hs.ext⟩) (fun c4=>?_)⟩
 ·
  show _=Value.int .i64 (if i<0\/(y.m.mv.length:Int)<=i then 2 else _); rw [if_pos (.inr (by omega))]
 obtain ⟨j,rfl⟩:∃ j:Nat,i=(j:Int):=⟨i.toNat,by omega⟩
 obtain ⟨x,gx⟩:=get_some (l:=y.m.mv) (i:=j) (by omega)
 refine ⟨_,hs.rd 0 rfl (i:=0) rfl,rdL hs.ext fun b2 o2 t2=>?_⟩
 refine ⟨y.g,t2.nth 4 rfl,_,hs.rd 0 rfl (i:=1) rfl,?_⟩
 refine (hyi.pm.rw.ext hs.ext).nbI (by omega) (by omega) fun b3 o3 x' gx' t3=>?_
 rw [Ys] at gx'
 replace gx':y.m.mv[j]?=some x':=gx'
 rw [gx] at gx'; cases gx'
 refine ⟨_,_,_,_,_,_,t3,?_⟩
 have hxm:=Yb gx
 have hvm:=hV.m p y.m gm
 have hx0:0<=x.peer:=(hvm.2.1.n.mv x hxm).2.2.2.2.1
 have hx1:x.peer<(L.length:Int):=by have:=hvm.2.2 x hxm; rw [hlm] at this; exact this
 refine hs.newbE fun h28 E28 hs=>⟨E28.sm,?_⟩
 refine hs.put 0 rfl (o:=0) (vs:=x.cs) rfl (show 6<=6 by decide) fun h29 hs=>?_
 refine ⟨ss,hs.rd 2 rfl rfl,_,hs.rd 1 rfl (i:=0) rfl,?_⟩
 refine (hC.s.rw.ext hs.ext).nbI (by omega) (by omega) fun b4 o4 z gz t4=>?_
 rw [Ys] at gz
 replace gz:S[p]?=some z:=gz
 have hSg:S.getD p 0=z:=getD_some gz
 refine ⟨_,t4.hd,_,hs.rd 0 rfl (i:=0) rfl,?_⟩
 show sB _ (Value.int .i64 7=.int .i64 (if (j:Int)<0\/(y.m.mv.length:Int)<=(j:Int) then 2 else match y.m.mv[(j:Int).toNat]? with | none=>2 | some x=>canS L.length k S (B.map Bx.l) p x)/\Ext h h29) _
 rw [if_neg (by omega),Ys,gx]
 refine sBn (fun c=>⟨?_,hs.ext⟩) (fun c5=>?_)
 ·
  show _=Value.int .i64 (canS L.length k S (B.map Bx.l) p x)
  unfold canS; rw [hSg,if_pos (fun e=>c e.symm)]
 have key:∀ v:Int,v=canS L.length k S (B.map Bx.l) p x->∀ h',Ext h h'->(Value.int .i64 v=.int .i64 (if (j:Int)<0\/(y.m.mv.length:Int)<=(j:Int) then 2 else match y.m.mv[(j:Int).toNat]? with | none=>2 | some x=>canS L.length k S (B.map Bx.l) p x)/\Ext h h'):=fun v hv h' E=>by
  rw [if_neg (by omega),Ys,gx,hv]; exact ⟨rfl,E⟩
 obtain ⟨q,hq⟩:∃ q:Nat,x.peer=(q:Int):=⟨x.peer.toNat,by omega⟩
 have hqn:q<L.length:=by omega
 have hqt:x.peer.toNat=q:=by omega
 have b1':=two_lt hp hqn
 have b2':=two_lt hqn hp
 refine ⟨_,hs.rd 0 rfl (i:=1) rfl,sB_intro (fun d=>?_) (fun d=>?_)⟩
 ·
  refine ⟨sb,hs.rd 2 rfl (i:=1) rfl,_,hs.rd 1 rfl (i:=0) rfl,(q:Int),by rw [<- hq]; exact hs.rd 0 rfl (i:=2) rfl,?_⟩
  have e1:(s.n:Int)*(p:Int)=((L.length*p:Nat):Int):=by rw [hn]; rfl
  have e2:((L.length*p:Nat):Int)+(q:Int)=((L.length*p+q:Nat):Int):=rfl
  rw [e1,w64 (n:=((L.length*p:Nat):Int)) (by omega) (by omega),e2,w64 (n:=((L.length*p+q:Nat):Int)) (by omega) (by omega)]
  refine (hC.b.rw.ext hs.ext).nbI (Int.natCast_nonneg _) (Int.ofNat_lt.2 (by rw [hbn,hBl]; exact b1')) fun b5 o5 u gu t5=>?_
  rw [Ys] at gu
  replace gu:B[L.length*p+q]?=some u:=gu
  have hul:=(hC.i u (Yb gu)).ln
  have hBg:(B.map Bx.l).getD (bxI L.length p x) []=u.l:=by
   unfold bxI; rw [if_pos d,hqt]
   exact getD_some (by rw [Yd,gu]; rfl)
  refine ⟨u.s,t5.hd,sBi (fun e=>key _ ?_ _ hs.ext) (fun e=>key _ ?_ _ hs.ext)⟩
  ·
   unfold canS; rw [hSg,hBg,if_neg (fun h=>h c5.symm),if_pos d,if_pos (by omega)]
  ·
   unfold canS; rw [hSg,hBg,if_neg (fun h=>h c5.symm),if_pos d,if_neg (by omega)]
 ·
  have hdn:¬ x.send=true:=by rw [d]; exact Bool.false_ne_true
  refine ⟨sb,hs.rd 2 rfl (i:=1) rfl,(q:Int),by rw [<- hq]; exact hs.rd 0 rfl (i:=2) rfl,_,hs.rd 1 rfl (i:=0) rfl,?_⟩
  have e1:(s.n:Int)*(q:Int)=((L.length*q:Nat):Int):=by rw [hn]; rfl
  have e2:((L.length*q:Nat):Int)+(p:Int)=((L.length*q+p:Nat):Int):=rfl
  rw [e1,w64 (n:=((L.length*q:Nat):Int)) (by omega) (by omega),e2,w64 (n:=((L.length*q+p:Nat):Int)) (by omega) (by omega)]
  refine (hC.b.rw.ext hs.ext).nbI (Int.natCast_nonneg _) (Int.ofNat_lt.2 (by rw [hbn,hBl]; exact b2')) fun b5 o5 u gu t5=>?_
  rw [Ys] at gu
  replace gu:B[L.length*q+p]?=some u:=gu
  have hui:=hC.i u (Yb gu)
  have hul:=hui.ln
  have hBg:(B.map Bx.l).getD (bxI L.length p x) []=u.l:=by
   unfold bxI; rw [if_neg hdn,hqt]
   exact getD_some (by rw [Yd,gu]; rfl)
  have hcan:canS L.length k S (B.map Bx.l) p x=match u.l with | []=>23 | l::_=>if l ≠ x.label then 23 else 0:=by
   unfold canS; rw [hSg,hBg,if_neg (fun h=>h c5.symm),if_neg hdn]
  refine ⟨u.s,t5.hd,sBe (fun e=>key _ ?_ _ hs.ext) (fun e=>?_)⟩
  ·
   rw [hcan,List.eq_nil_of_length_eq_zero (l:=u.l) (by omega)]
  ·
   refine (hui.rw.ext hs.ext).nbI (by omega) (by omega) fun b6 o6 w gw t6=>?_
   replace gw:u.l[0]?=some w:=gw
   cases hl:u.l with
   | nil=>rw [hl] at gw; cases gw
   | cons a r=>
    rw [hl] at gw; cases gw
    rw [hl] at hcan
    refine ⟨_,t6.hd,_,hs.rd 0 rfl (i:=3) rfl,sBn (fun f=>key _ ?_ _ hs.ext) (fun f=>key _ ?_ _ hs.ext)⟩
    ·
     rw [hcan]; show _=if w ≠ x.label then 23 else 0; rw [if_pos f]
    ·
     rw [hcan]; show _=if w ≠ x.label then 23 else 0; rw [if_neg (fun h=>h f)]
end Go.VC
end
