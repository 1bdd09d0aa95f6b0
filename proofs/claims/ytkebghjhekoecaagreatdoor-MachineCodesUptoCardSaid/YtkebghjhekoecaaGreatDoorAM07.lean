/- RjH RjF QjX0 QjX QjY RjI RjK RjDa RjDb RjDc RjDf RjDe RjDg RjDh RjDi. -/
import Derived.Test.YtkebghjhekoecaaGreatDoorAM06
set_option linter.all false
set_option maxRecDepth 100000
set_option maxHeartbeats 8000000

section
namespace Go.VC
open Go.Proofs Go.LexS
def withL (x:Int):List Int->List Int
 | []=>[x]
 | y::l=>if x<=y then (if x<y then x::y::l else y::l) else y::withL x l
theorem withL_mem {x v:Int}:∀ {T:List Int},v∈withL x T ↔ v=x\/v∈T
 | []=>by simp[withL]
 | y::l=>by
  unfold withL;split
  .split
   .rw[Yr]
   .have:x=y:=by omega
    subst this;simp
  .rw[Yr,withL_mem,Yr];constructor
   .rintro (h | h | h)
    .exact .inr (.inl h)
    .exact .inl h
    .exact .inr (.inr h)
   .rintro (h | h | h)
    .exact .inr (.inl h)
    .exact .inl h
    .exact .inr (.inr h)
theorem withL_sorted {x:Int}:∀ {T:List Int},T.Pairwise (· < ·)->(withL x T).Pairwise (· < ·)
 | [],_=>by simp[withL]
 | y::l,h=>by
  unfold withL;have h':=List.pairwise_cons.1 h;split
  .split
   .refine List.pairwise_cons.2 ⟨fun v hv=>?_,h⟩;rcases Yr.1 hv with rfl | hv
    .assumption
    .have:=h'.1 v hv;omega
   .exact h
  .refine List.pairwise_cons.2 ⟨fun v hv=>?_,withL_sorted h'.2⟩;rcases withL_mem.1 hv with rfl | hv
   .omega
   .exact h'.1 v hv
theorem withL_len {x:Int}:∀ {T:List Int},x∉T->(withL x T).length=T.length+1
 | [],_=>rfl
 | y::l,h=>by
  unfold withL;rw[Yr,not_or] at h;split
  .split
   .rfl
   .exact absurd (by omega) h.1
  .rw[Yyj,withL_len h.2,Yyj]
theorem withL_same {x:Int}:∀ {T:List Int},T.Pairwise (· < ·)->x∈T->withL x T=T
 | [],_,h=>by cases h
 | y::l,h,hm=>by
  unfold withL;have h':=List.pairwise_cons.1 h;split
  .split
   .rcases Yr.1 hm with e | e
    .omega
    .have:=h'.1 x e;omega
   .rfl
  .rcases Yr.1 hm with e | e
   .omega
   .rw[withL_same h'.2 e]
theorem sorted_le:∀ {T:List Int} {a b:Int},a<=b->T.Pairwise (· < ·)->(∀v∈T,a<=v/\v<b)->(T.length:Int)<=b-a
 | [],a,b,hab,_,_=>by rw[List.length_nil];omega
 | x::l,a,b,hab,h,hm=>by
  have h':=List.pairwise_cons.1 h;have hx:=hm x Yx;have:=sorted_le (T:=l) (a:=x+1) (b:=b) (by omega) h'.2 fun v hv=>⟨by have:=h'.1 v hv;omega,(hm v (Yn _ hv)).2⟩;rw[Yyj];omega
theorem sorted_full:∀ {T:List Int} {a b:Int},a<=b->T.Pairwise (· < ·)->(∀v∈T,a<=v/\v<b)->((T.length:Int)=b-a ↔ ∀v,a<=v->v<b->v∈T)
 | [],a,b,hab,_,_=>by
  rw[List.length_nil];constructor
  .intro h v h1 h2;omega
  .intro h;by_cases e:a=b
   .omega
   .exact absurd (h a (Int.le_refl _) (by omega)) (by simp)
 | x::l,a,b,hab,h,hm=>by
  have h':=List.pairwise_cons.1 h;have hx:=hm x Yx;have hb:∀v∈l,x+1<=v/\v<b:=fun v hv=>⟨by have:=h'.1 v hv;omega,(hm v (Yn _ hv)).2⟩;have h1:=sorted_le (T:=l) (a:=x+1) (b:=b) (by omega) h'.2 hb;have h2:=sorted_full (T:=l) (a:=x+1) (b:=b) (by omega) h'.2 hb;rw[Yyj];constructor
  .intro he v h3 h4;have hxa:x=a:=by omega
   subst hxa;by_cases e:v=x
   .subst e;exact Yx
   .exact Yn _ (h2.1 (by omega) v (by omega) h4)
  .intro ha;have hxa:x=a:=by
    rcases Yr.1 (ha a (Int.le_refl _) (by omega)) with e | e
    .exact e.symm
    .have:=(hb a e).1;omega
   subst hxa;have:=h2.2 fun v h3 h4=>by
    rcases Yr.1 (ha v (by omega) h4) with e | e
    .omega
    .exact e
   omega
theorem refHas105 (L:List Int) (x:Int) (s:Sl) (h:Heap) (hr:Rw h 1 s (L.map inC)) (hl:L.length<=1048576):Fn Pz 105 #[.slice s.a s.n s.c,.int .i64 x] h (RP (x∈L) h):=by
 apply vc105;unfold W105;have hn:=hr.ln;refine up_loop (n:=s.n) (fun i h'=>Ext h h'/\∀(j:Nat) y,j<i->L[j]?=some y->y≠x) ⟨.rfl',fun j y hj=>by omega⟩ ?_;rintro-i h5 hi ⟨E,hq⟩;refine sB_intro (fun c=>?_) (fun c=>RP.f (fun hm=>?_) E)
 .replace c:=lt_t c;refine (hr.ext E).nbI (by omega) (by omega) fun b6 o7 y gy t=>?_;replace gy:L[i]?=some y:=gy;refine⟨_,t.hd,sBe (fun c1=>RP.t (by subst c1;exact Yb gy) E) (fun c1=>Up.next c (by omega) ⟨E,fun j z hj hz=>?_⟩)⟩;by_cases e:j=i
  .subst e;rw[gy] at hz;cases hz;exact c1
  .exact hq j z (by omega) hz
 .replace c:=lt_f c;obtain⟨j,hj⟩:=Yf.1 hm;exact hq j x (by have:=(Ya.1 hj).1;omega) hj rfl
theorem refWith106 (L:List Int) (x:Int) (s:Sl) (h:Heap) (hr:Rw h 1 s (L.map inC)) (hl:L.length<=1048576) :
  Fn Pz 106 #[.slice s.a s.n s.c,.int .i64 x] h fun v h'=>Ext h h'/\∃s':Sl,v=.slice s'.a s'.n s'.c/\Rw h' 1 s' ((withL x L).map inC):=by
 apply vc106;unfold W106 V106b V106a;have hn:=hr.ln;refine⟨fun out done i h' μ=>∃(j:Nat) (T:List Int),i=j/\j<=s.n/\μ=s.n-j/\St h h' [.sl out 3 1 (T.map inC)]/\T.length<=j+1/\(done=false->T.length<=j)/\withL x L=T++(if done=true then L.drop j else withL x (L.drop j)),⟨_,0,[],rfl,by omega,rfl,(St.refl h).nil_ 3 1,by simp,by simp,rfl⟩,?_⟩;rintro-out done _ h7 μ ⟨j,T,rfl,hj,rfl,hs,hT,hTf,hw⟩;have hol:=(hs.rows 0 rfl (by omega)).ln;refine sB_intro (fun c=>?_) (fun c=>?_)
 .replace c:=lt_t c;obtain⟨y,hy⟩:=get_some (l:=L) (i:=j) (by omega);rw[drop_get hy] at hw;refine sB_intro (fun c1=>?_) (fun c1=>?_)
  .have hdn:done=false:=bF c1;subst hdn;have hTf:=hTf rfl;rw[if_neg (by decide)] at hw;refine (hr.ext hs.ext).nbI (by omega) (by omega) fun b8 o9 y' gy t=>?_;replace gy:L[j]?=some y':=gy;rw[hy] at gy;cases gy;refine⟨_,t.hd,sBi (fun c2=>?_) (fun c2=>?_)⟩
   .refine (hr.ext hs.ext).nbI (by omega) (by omega) fun b8 o9 y' gy t=>?_;replace gy:L[j]?=some y':=gy;rw[hy] at gy;cases gy;refine⟨_,t.hd,sBi (fun c3=>?_) (fun c3=>?_)⟩
    .refine hs.app 0 rfl app42 (m:=1) [[.int .i64 x]] rfl rfl (by simp) rfl (by omega) (by simp only[maxLen];omega) fun s15 h16 ns hs=>?_;have hs:St h h16 [.sl s15 3 1 ((T++[x]).map inC)]:=by rw[Ym];exact hs
     have hol:=(hs.rows 0 rfl (by omega)).ln;have hlx:(T++[x]).length=T.length+1:=Yh;refine (hr.ext hs.ext).nbI (by omega) (by omega) fun b8 o9 y' gy t=>?_;replace gy:L[j]?=some y':=gy;rw[hy] at gy;cases gy;refine⟨_,t.hd,?_⟩;refine hs.app 0 rfl app42 (m:=1) [[.int .i64 y]] rfl rfl (by simp) rfl (by omega) (by simp only[maxLen];omega) fun s21 h22 ns hs=>?_;have hs:St h h22 [.sl s21 3 1 ((T++[x]++[y]).map inC)]:=by rw[Ym];exact hs
     refine⟨_,?_,j+1,T++[x]++[y],by rw[w64 (by omega) (by omega)];omega,by omega,rfl,hs,by rw[Yh,hlx,Yv];omega,(fun hd=>by cases hd),?_⟩
     .omega
     .rw[if_pos rfl,hw,withL,if_pos c2,if_pos c3,Yz,Yz];rfl
    .refine (hr.ext hs.ext).nbI (by omega) (by omega) fun b8 o9 y' gy t=>?_;replace gy:L[j]?=some y':=gy;rw[hy] at gy;cases gy;refine⟨_,t.hd,?_⟩;refine hs.app 0 rfl app42 (m:=1) [[.int .i64 y]] rfl rfl (by simp) rfl (by omega) (by simp only[maxLen];omega) fun s21 h22 ns hs=>?_;have hs:St h h22 [.sl s21 3 1 ((T++[y]).map inC)]:=by rw[Ym];exact hs
     refine⟨_,?_,j+1,T++[y],by rw[w64 (by omega) (by omega)];omega,by omega,rfl,hs,by rw[Yh,Yv];omega,(fun hd=>by cases hd),?_⟩
     .omega
     .rw[if_pos rfl,hw,withL,if_pos c2,if_neg c3,Yz];rfl
   .refine (hr.ext hs.ext).nbI (by omega) (by omega) fun b8 o9 y' gy t=>?_;replace gy:L[j]?=some y':=gy;rw[hy] at gy;cases gy;refine⟨_,t.hd,?_⟩;refine hs.app 0 rfl app42 (m:=1) [[.int .i64 y]] rfl rfl (by simp) rfl (by omega) (by simp only[maxLen];omega) fun s21 h22 ns hs=>?_;have hs:St h h22 [.sl s21 3 1 ((T++[y]).map inC)]:=by rw[Ym];exact hs
    refine⟨_,?_,j+1,T++[y],by rw[w64 (by omega) (by omega)];omega,by omega,rfl,hs,by rw[Yh,Yv];omega,(fun _=>by rw[Yh,Yv];omega),?_⟩
    .omega
    .rw[if_neg (by decide),hw,withL,if_neg c2,Yz];rfl
  .have hdn:done=true:=bT c1;subst hdn;rw[if_pos rfl] at hw;refine (hr.ext hs.ext).nbI (by omega) (by omega) fun b8 o9 y' gy t=>?_;replace gy:L[j]?=some y':=gy;rw[hy] at gy;cases gy;refine⟨_,t.hd,?_⟩;refine hs.app 0 rfl app42 (m:=1) [[.int .i64 y]] rfl rfl (by simp) rfl (by omega) (by simp only[maxLen];omega) fun s21 h22 ns hs=>?_;have hs:St h h22 [.sl s21 3 1 ((T++[y]).map inC)]:=by rw[Ym];exact hs
   refine⟨_,?_,j+1,T++[y],by rw[w64 (by omega) (by omega)];omega,by omega,rfl,hs,by rw[Yh,Yv];omega,(fun hd=>by cases hd),?_⟩
   .omega
   .rw[if_pos rfl,hw,Yz];rfl
 .replace c:=lt_f c;rw[List.drop_eq_nil_of_le (by omega)] at hw;refine sB_intro (fun c1=>?_) (fun c1=>?_)
  .have hdn:done=false:=bF c1;subst hdn;rw[if_neg (by decide)] at hw;refine hs.app 0 rfl app42 (m:=1) [[.int .i64 x]] rfl rfl (by simp) rfl (by omega) (by simp only[maxLen];omega) fun s15 h16 ns hs=>?_;have hs:St h h16 [.sl s15 3 1 ((T++[x]).map inC)]:=by rw[Ym];exact hs
   exact⟨hs.ext,_,rfl,by rw[hw];exact hs.rows 0 rfl (by omega)⟩
  .have hdn:done=true:=bT c1;subst hdn;rw[if_pos rfl,Yw] at hw;exact⟨hs.ext,_,rfl,by rw[hw];exact hs.rows 0 rfl (by omega)⟩
structure RcI (m:Mch) (T:List Int):Prop where
 so:T.Pairwise (· < ·)
 b:∀v∈T,0<=v/\v<m.n
 r:∀v∈T,Qr (meds m) (-1) [m.s] v
 s:m.s∈T
def ClM (m:Mch) (i:Nat) (T:List Int):Prop:=∀(j:Nat) (x:Mv),j<i->m.mv[j]?=some x->x.f∈T->x.t∈T
theorem reached61 (m:Mch) (sf sm sl:Sl) (h:Heap) (hM:MI h m sf sm sl) (hN:NumM m) :
  Fn Pz 61 #[.agg ⟨mC m sf sm sl⟩] h fun v h'=>Ext h h'/\∃s:Sl,v=.slice s.a s.n s.c/\((s.n:Int)=m.n ↔ RchM m):=by
 apply vc61 m.role m.n m.s sf sm sl;unfold W61;have hmn:=hM.pm.ln;have hmm:=hM.pm.sm;have hsn:=hN.s;have hnn:=hN.n;refine (St.refl h).newb fun h7 hs=>?_;refine⟨_,hs.rd 0 rfl rfl,?_⟩;refine hs.newb fun h9 hs=>?_;have hs:=hs.blkS 1 1 ([m.s].map inC) rfl (inrows _) rfl (by decide);have hR0:=hs.rows 0 rfl (by omega);have hs:=hs.drop 1;refine⟨fun out n h' μ=>∃(k:Nat) (T:List Int),n=k/\k<=m.n.toNat/\μ=m.n.toNat-k/\St h h' [.blk h.size (mC m sf sm sl) 26]/\Rw h' 1 out (T.map inC)/\RcI m T/\(ClM m m.mv.length T\/k+1<=T.length),⟨_,0,[m.s],rfl,by omega,rfl,hs,hR0,⟨by simp,fun v hv=>by rw[Ye.1 hv];omega,fun v hv=>.base hv,Ye.2 rfl⟩,.inr (by simp)⟩,?_⟩;clear hs hR0;rintro-out _ h15 μ ⟨k,T,rfl,hk,rfl,hs,hR,hT,hcl⟩;refine⟨_,hs.rd 0 rfl rfl,sBi (fun c=>?_) (fun c=>?_)⟩
 .refine⟨fun out i h' μ=>∃(j:Nat) (T:List Int),i=j/\j<=sm.n/\μ=sm.n-j/\St h h' [.blk h.size (mC m sf sm sl) 26]/\Rw h' 1 out (T.map inC)/\RcI m T/\(ClM m m.mv.length T\/(ClM m j T/\k+1<=T.length)\/k+2<=T.length),⟨_,0,T,rfl,by omega,rfl,hs,hR,hT,?_⟩,?_⟩
  .rcases hcl with h1 | h1
   .exact .inl h1
   .exact .inr (.inl ⟨fun j x hj=>by omega,h1⟩)
  clear hs hR hT hcl;rintro-out _ h22 μ ⟨j,T,rfl,hj,rfl,hs,hR,hT,hcl⟩;have hTl:=sorted_le (by omega) hT.so hT.b;refine⟨sm,hs.rd 0 rfl rfl,sB_intro (fun c1=>?_) (fun c1=>?_)⟩
  .replace c1:=lt_t c1;refine⟨sm,hs.rd 0 rfl rfl,?_⟩;refine (hM.pm.rw.ext hs.ext).nbI (by omega) (by omega) fun b25 o26 x gx t=>?_;replace gx:m.mv[j]?=some x:=gx;have hxm:=Yb gx;have hxr:=hN.mv x hxm;refine⟨_,t.nth 0 rfl,?_⟩;refine (refHas105 T x.f out h22 hR (by omega)).mono ?_;rintro _ h30 ⟨⟨b,rfl,hb⟩,E⟩;have hs:=hs.step E;have hR:=hR.ext E;refine⟨_,rfl,sB_intro (fun c2=>?_) (fun c2=>?_)⟩
   .have hfm:=hb.1 c2;refine⟨sm,hs.rd 0 rfl rfl,?_⟩;refine (hM.pm.rw.ext hs.ext).nbI (by omega) (by omega) fun b25 o26 x' gx' t=>?_;replace gx':m.mv[j]?=some x':=gx';rw[gx] at gx';cases gx';refine⟨_,t.nth 4 rfl,?_⟩;refine (refWith106 T x.t out h30 hR (by omega)).mono ?_;rintro _ h37 ⟨E2,s',rfl,hR2⟩;have hs:=hs.step E2;refine⟨_,rfl,?_⟩;have hT2:RcI m (withL x.t T):=⟨withL_sorted hT.so,fun v hv=>by
      rcases withL_mem.1 hv with rfl | hv
      .omega
      .exact hT.b v hv,fun v hv=>by
      rcases withL_mem.1 hv with rfl | hv
      .exact .step (hT.r x.f hfm) ⟨⟨x.f,0,0,0,x.t,false⟩,Yp.2 ⟨x,hxm,rfl⟩,rfl,rfl,rfl⟩
      .exact hT.r v hv,withL_mem.2 (.inr hT.s)⟩
    refine⟨sm.n-(j+1),by omega,j+1,withL x.t T,by rw[w64 (by omega) (by omega)];omega,by omega,rfl,hs,hR2,hT2,?_⟩;by_cases hm:x.t∈T
    .rw[withL_same hT.so hm];rcases hcl with h1 | h1 | h1
     .exact .inl h1
     .refine .inr (.inl ⟨fun i z hi hz hzf=>?_,h1.2⟩);by_cases e:i=j
      .subst e;rw[gx] at hz;cases hz;exact hm
      .exact h1.1 i z (by omega) hz hzf
     .exact .inr (.inr h1)
    .rw[withL_len hm];rcases hcl with h1 | h1 | h1
     .exact absurd (h1 j x (by omega) gx hfm) hm
     .exact .inr (.inr (by omega))
     .exact .inr (.inr (by omega))
   .have hfm:x.f∉T:=iff_f hb c2;refine⟨sm.n-(j+1),by omega,j+1,T,by rw[w64 (by omega) (by omega)];omega,by omega,rfl,hs,hR,hT,?_⟩;rcases hcl with h1 | h1 | h1
    .exact .inl h1
    .refine .inr (.inl ⟨fun i z hi hz hzf=>?_,h1.2⟩);by_cases e:i=j
     .subst e;rw[gx] at hz;cases hz;exact absurd hzf hfm
     .exact h1.1 i z (by omega) hz hzf
    .exact .inr (.inr h1)
  .replace c1:=lt_f c1;refine⟨m.n.toNat-(k+1),by omega,k+1,T,by rw[w64 (by omega) (by omega)];omega,by omega,rfl,hs,hR,hT,?_⟩;rcases hcl with h1 | h1 | h1
   .exact .inl h1
   .exact .inl fun i z hi hz hzf=>h1.1 i z (by omega) hz hzf
   .exact .inr (by omega)
 .have hTl:=sorted_le (by omega) hT.so hT.b;have hcl:ClM m m.mv.length T:=by
   rcases hcl with h1 | h1
   .exact h1
   .omega
  refine⟨hs.ext,_,rfl,?_⟩;have hol:=hR.ln;have hiff:∀v,v∈T ↔ Qr (meds m) (-1) [m.s] v:=fun v=>by
   refine⟨hT.r v,fun hq=>?_⟩
   induction hq with
   | base hm=>rw[Ye.1 hm];exact hT.s
   | step _ hx ih=>
    obtain⟨e,he,_,hf,ht⟩:=hx;obtain⟨x,hx,rfl⟩:=Yp.1 he;obtain⟨i,hi⟩:=Yf.1 hx;subst hf;subst ht;exact hcl i x (Ya.1 hi).1 hi ih
  have hfull:=sorted_full (a:=0) (b:=m.n) (by omega) hT.so hT.b;rw[show ((out.n:Nat):Int)=(T.length:Int) by rw[hol]];rw[Int.sub_zero] at hfull;rw[hfull];exact⟨fun hA v h0 h1=>(hiff v).1 (hA v h0 h1),fun hA v h0 h1=>(hiff v).2 (hA v h0 h1)⟩
theorem VM_iff {m:Mch}:VM m ↔ NumM m/\ApM m/\TimM m/\RchM m:=
 ⟨fun h=>⟨h.n,ap_iff.2 ⟨h.d,h.a⟩,h.t,h.r⟩,fun h=>⟨h.1,(ap_iff.1 h.2.1).1,h.2.2.2,(ap_iff.1 h.2.1).2,h.2.2.1⟩⟩
theorem refValid24 (m:Mch) (sf sm sl:Sl) (h:Heap) (hM:MI h m sf sm sl):Fn Pz 24 #[.agg ⟨mC m sf sm sl⟩] h (RP (VM m) h):=by
 apply vc24 m.role m.n m.s sf sm sl;unfold W24;refine (St.refl h).newb fun h7 hs=>?_;refine⟨_,_,_,sf,sm,sl,hs.at 0 rfl (o:=0) (n:=6) rfl,?_⟩;refine (numbers58 m sf sm sl h7 (hM.ext hs.ext)).mono ?_;rintro _ h16 ⟨⟨b1,rfl,hb1⟩,E⟩;have hs:=hs.step E;refine⟨_,rfl,sB_intro (fun c1=>?_) (fun c1=>RP.f (fun hG=>iff_f hb1 c1 (VM_iff.1 hG).1) hs.ext)⟩;have hN:=hb1.1 c1;refine⟨_,_,_,sf,sm,sl,hs.at 0 rfl (o:=0) (n:=6) rfl,?_⟩;refine (apart59 m sf sm sl h16 (hM.ext hs.ext) hN).mono ?_;rintro _ h25 ⟨⟨b2,rfl,hb2⟩,E⟩;have hs:=hs.step E;refine⟨_,rfl,E.sm,sB_intro (fun c2=>?_) (fun c2=>RP.f (fun hG=>iff_f hb2 c2 (VM_iff.1 hG).2.1) hs.ext)⟩;refine⟨_,_,_,sf,sm,sl,hs.at 0 rfl (o:=0) (n:=6) rfl,?_⟩;refine (timed60 m sf sm sl h25 (hM.ext hs.ext)).mono ?_;rintro _ h34 ⟨⟨b3,rfl,hb3⟩,E⟩;have hs:=hs.step E;refine⟨_,rfl,E.sm,sB_intro (fun c3=>?_) (fun c3=>RP.f (fun hG=>iff_f hb3 c3 (VM_iff.1 hG).2.2.1) hs.ext)⟩;refine⟨_,_,_,sf,sm,sl,hs.at 0 rfl (o:=0) (n:=6) rfl,_,hs.rd 0 rfl rfl,?_⟩;refine (reached61 m sf sm sl h34 (hM.ext hs.ext) hN).mono ?_;rintro _ h44 ⟨E,s,rfl,hb4⟩;refine⟨_,rfl,E.sm,RP.e ?_ (hs.step E).ext⟩;rw[beq_iff_eq,hb4,VM_iff];exact⟨fun hr=>⟨hN,hb2.1 c2,hb3.1 c3,hr⟩,fun hG=>hG.2.2.2⟩
structure FewM (m:Mch):Prop where
 n:m.n<=40
 f:m.fin.length<=45
 q:m.mv.length<=80
 l:m.li.length<=45
theorem few13 (m:Mch) (sf sm sl:Sl) (h:Heap) (hM:MI h m sf sm sl):Fn Pz 13 #[.agg ⟨mC m sf sm sl⟩] h (RP (FewM m) h):=by
 apply vc13 m.role m.n m.s sf sm sl;unfold W13;have hfn:=hM.pf.ln;have hmn:=hM.pm.ln;have hln:=hM.pl.ln;refine (St.refl h).newb fun h7 hs=>?_;refine⟨_,hs.rd 0 rfl rfl,sBi (fun c1=>?_) (fun c1=>RP.f (fun hG=>by have:=hG.n;omega) hs.ext)⟩;refine⟨sf,hs.rd 0 rfl rfl,sBi (fun c2=>?_) (fun c2=>RP.f (fun hG=>by have:=hG.f;omega) hs.ext)⟩;refine⟨sm,hs.rd 0 rfl rfl,sBi (fun c3=>?_) (fun c3=>RP.f (fun hG=>by have:=hG.q;omega) hs.ext)⟩;refine⟨sl,hs.rd 0 rfl rfl,RP.e ?_ hs.ext⟩;rw[decide_eq_true_eq];exact⟨fun c4=>⟨c1,by omega,by omega,by omega⟩,fun hG=>by have:=hG.l;omega⟩
end Go.VC
end

section
namespace Go.VC
open Go.Proofs Go.LexS
structure Hv where
 role:Int
 send:Bool
 peer:Int
 label:Int
 vs:Sl
def Hv.cs (x:Hv):List Value:=[.int .i64 x.role,.bool x.send,.int .i64 x.peer,.int .i64 x.label,.slice x.vs.a x.vs.n x.vs.c]
def Hv.ev (x:Hv):Ev:=⟨x.send,x.peer,x.label⟩
def nxE (m:Mch) (s:Int) (e:Ev):Int:=match m.mv.find? fun y=>decide (y.f=s/\y.ev=e) with | some y=>y.t | none=>-1
def nxH (m:Mch) (s:Int) (x:Hv):Int:=if x.role=m.role then nxE m s x.ev else -1
theorem nxE_none {m:Mch} {s:Int} {e:Ev} (h:∀x∈m.mv,x.f=s->x.ev≠e):nxE m s e=-1:=by
 unfold nxE;have:(m.mv.find? fun y=>decide (y.f=s/\y.ev=e))=none:=by
  rw[List.find?_eq_none];intro x hx hd;have:=Yyn hd;exact h x hx this.1 this.2
 rw[this]
theorem nxE_some {m:Mch} (hD:DetM m) {s:Int} {e:Ev} {k:Nat} {y:Mv} (hk:m.mv[k]?=some y) (hf:y.f=s) (he:y.ev=e):nxE m s e=y.t:=by
 unfold nxE;cases hq:m.mv.find? fun y=>decide (y.f=s/\y.ev=e) with
 | none=>
  rw[List.find?_eq_none] at hq;exact absurd (decide_eq_true ⟨hf,he⟩) (hq y (Yb hk))
 | some z=>
  have hz:=List.find?_some hq;obtain⟨j,hj⟩:=Yf.1 (List.mem_of_find?_eq_some hq);have hz2:z.f=s/\z.ev=e:=Yyn hz;by_cases e1:j=k
  .subst e1;rw[hk] at hj;cases hj;rfl
  .exact absurd (hz2.2.trans he.symm) (hD j k z y hj hk e1 (by rw[hz2.1,hf])).1
theorem order103 (m:Mch) (sm:Sl) (b k:Nat) (a:Addr) (x:Mv) (e:Ev) (h:Heap) (ha:hc h a=some (.pointer (some ⟨b,0,none⟩))) (hb:hc h ⟨b,0+4,none⟩=some (.slice sm.a sm.n sm.c)) (hr:Rw h 6 sm (m.mv.map Mv.cs)) (hx:m.mv[k]?=some x) :
  Fn Pz 103 #[.int .i64 (k:Nat),.agg ⟨e.cs⟩,.pointer (some a)] h fun v h'=>v=.int .i64 (cmpE x.ev e)/\Ext h h':=by
 apply vc103 _ e.send e.peer e.label;unfold W103;have hn:=hr.ln;have hxl:=(Ya.1 hx).1;refine (St.refl h).newb fun h4 hs=>?_;refine⟨_,hc_ext hs.ext ha,?_⟩;refine⟨sm,hc_ext hs.ext hb,?_⟩;refine (hr.ext hs.ext).nbI (by omega) (by omega) fun b8 o9 x' gx t=>?_;replace gx:m.mv[k]?=some x':=gx;rw[hx] at gx;cases gx;refine⟨_,_,_,_,_,_,t,_,_,_,hs.at 0 rfl (o:=0) (n:=3) rfl,?_⟩;refine (M.of63 x h4).mono ?_;rintro _ h23 ⟨rfl,E⟩;have hs:=hs.step E;refine⟨_,_,_,rfl,E.sm,?_⟩;refine (M.compare104 x.ev e h23).mono ?_;rintro _ h26 ⟨rfl,E2⟩;exact⟨_,rfl,rfl,(hs.step E2).ext⟩
theorem cal103:callable Pz 103=true:=by kernel_rfl
theorem mid_nat {i j:Nat} (hi:i<=1048576) (hj:j<=1048576):IntKind.wrap .i64 (shrI .u64 (IntKind.wrap .u64 (IntKind.wrap .i64 ((i:Int)+(j:Int)))) 1)=(((i+j)/2:Nat):Int):=by
 have e1:IntKind.wrap .i64 ((i:Int)+(j:Int))=((i+j:Nat):Int):=by rw[w64 (by omega) (by omega)];omega
 have e2:shrI .u64 ((i+j:Nat):Int) 1=(((i+j)/2^1:Nat):Int):=shr_nat (k:=1) (by decide);rw[e1,wu64 (by omega) (by omega),e2,show (2^1:Nat)=2 from rfl,w64 (by omega) (by omega)]
theorem cmpE_zero {x y:Ev} (h:cmpE x y=0):x=y:=by
 unfold cmpE at h;split at h
 .split at h<;>omega
 .rename_i hs;unfold orI3 at h;split at h
  .rename_i h1;exact absurd h h1
  .rename_i h1;exact ev_ext (Classical.not_not.1 hs) (cmpI_zero.1 (Classical.not_not.1 h1)) (cmpI_zero.1 h)
theorem search102 (m:Mch) (sm:Sl) (b c:Nat) (l:List Nat) (s:Sl) (e:Ev) (h:Heap) (ha:hc h ⟨c,0,none⟩=some (.pointer (some ⟨b,0,none⟩))) (hb:hc h ⟨b,0+4,none⟩=some (.slice sm.a sm.n sm.c)) (hr:Rw h 6 sm (m.mv.map Mv.cs))
  (hl:Rw h 1 s ((natI l).map inC)) (hlm:∀k∈l,∃x,m.mv[k]?=some x) (hll:l.length<=1048576) (hso:∀(j i:Nat) (a b:Nat),i<j->l[i]?=some a->l[j]?=some b->evLt (evI m a) (evI m b)) :
  Fn Pz 102 #[.slice s.a s.n s.c,.agg ⟨e.cs⟩,.func (.func 103) #[] #[.pointer (some ⟨c,0,none⟩)]] h fun v h'=>Ext h h'/\∃(i:Int) (f:Bool),v=.tuple ⟨[.int .i64 i,.bool f]⟩/\(f=true->∃(j k:Nat),i=(j:Int)/\l[j]?=some k/\evI m k=e)/\(f=false->∀k∈l,evI m k≠e):=by
 apply vc102 s e.send e.peer e.label 103 (some ⟨c,0,none⟩);unfold W102 V102a;have hn:=hl.ln;rw[show (natI l).length=l.length from Yc _] at hn;refine (St.refl h).newb fun h4 hs=>?_;refine⟨fun x y h' μ=>∃i j:Nat,x=i/\y=j/\i<=j/\j<=s.n/\μ=j-i/\St h h' [.blk h.size e.cs 79]/\(∀(t:Nat) k,t<i->l[t]?=some k->evLt (evI m k) e)/\∀(t:Nat) k,j<=t->l[t]?=some k->¬evLt (evI m k) e,
  ⟨_,0,s.n,rfl,rfl,by omega,Yyt _,rfl,hs,fun t k ht=>by omega,fun t k ht hk=>by have:=(Ya.1 hk).1;omega⟩,?_⟩
 clear hs;rintro-_ _ h10 μ ⟨i,j,rfl,rfl,hij,hj,rfl,hs,hlo,hhi⟩;refine sBi (fun c1=>?_) (fun c1=>?_)
 .rw[mid_nat (by omega) (by omega)];refine⟨by decide,?_⟩;refine (hl.ext hs.ext).nbI (by omega) (by omega) fun b11 o12 d gd t=>?_;replace gd:(natI l)[(i+j)/2]?=some d:=gd;obtain⟨k,hk,rfl⟩:=natI_get gd;obtain⟨x,hx⟩:=hlm k (Yb hk);refine⟨_,t.nth 0 rfl,_,_,_,hs.at 0 rfl (o:=0) (n:=3) rfl,?_⟩;rw[cal103,cond_true];refine (order103 m sm b k ⟨c,0,none⟩ x e h10 (hc_ext hs.ext ha) (hc_ext hs.ext hb) (hr.ext hs.ext) hx).mono ?_;rintro _ h19 ⟨rfl,E⟩;have hs:=hs.step E;have hev:evI m k=x.ev:=evI_of hx;refine⟨_,rfl,sBi (fun c2=>?_) (fun c2=>?_)⟩
  .rw[cmpE_neg] at c2;refine⟨_,?_,(i+j)/2+1,j,by rw[w64 (by omega) (by omega)];omega,rfl,by omega,hj,rfl,hs,fun t k' ht hk'=>?_,hhi⟩
   .omega
   .by_cases et:t=(i+j)/2
    .subst et;rw[hk] at hk';cases hk';rw[hev];exact c2
    .have h1:=hso ((i+j)/2) t k' k (by omega) hk' hk;rw[hev] at h1;exact evLt_trans h1 c2
  .rw[cmpE_neg] at c2;refine⟨_,?_,i,(i+j)/2,rfl,rfl,by omega,by omega,rfl,hs,hlo,fun t k' ht hk'=>?_⟩
   .omega
   .by_cases et:t=(i+j)/2
    .subst et;rw[hk] at hk';cases hk';rw[hev];exact c2
    .have h1:=hso t ((i+j)/2) k k' (by omega) hk hk';rw[hev] at h1;exact fun h2=>c2 (evLt_trans h1 h2)
 .have hijj:i=j:=by omega
  subst hijj;refine sBi (fun c2=>?_) (fun c2=>⟨hs.ext,_,false,rfl,(fun hf=>by cases hf),fun _ k hk he=>?_⟩)
  .refine (hl.ext hs.ext).nbI (by omega) (by omega) fun b22 o23 d gd t=>?_;replace gd:(natI l)[i]?=some d:=gd;obtain⟨k,hk,rfl⟩:=natI_get gd;obtain⟨x,hx⟩:=hlm k (Yb hk);refine⟨_,t.nth 0 rfl,_,_,_,hs.at 0 rfl (o:=0) (n:=3) rfl,?_⟩;rw[cal103,cond_true];refine (order103 m sm b k ⟨c,0,none⟩ x e h10 (hc_ext hs.ext ha) (hc_ext hs.ext hb) (hr.ext hs.ext) hx).mono ?_;rintro _ h30 ⟨rfl,E⟩;have hev:evI m k=x.ev:=evI_of hx;refine⟨_,rfl,(hs.step E).ext,_,_,rfl,fun hf=>⟨i,k,rfl,hk,?_⟩,fun hf k' hk' he=>?_⟩
   .have h0:cmpE x.ev e=0:=by simpa using hf
    rw[hev];exact cmpE_zero h0
   .have h0:cmpE x.ev e≠0:=by simpa using hf
    obtain⟨t,ht⟩:=Yf.1 hk';rcases Nat.lt_trichotomy t i with h1 | h1 | h1
    .have:=hlo t k' h1 ht;rw[he] at this;exact evLt_irr _ this
    .subst h1;rw[hk] at ht;cases ht;rw[hev] at he;apply h0;rw[he];unfold cmpE orI3 cmpI;simp
    .have h2:=hso t i k k' h1 hk ht;rw[he,hev] at h2;exact hhi i k (Yyt _) hk (by rw[hev];exact h2)
  .obtain⟨t,ht⟩:=Yf.1 hk;have htl:=(Ya.1 ht).1;have:=hlo t k (by omega) ht;rw[he] at this;exact evLt_irr _ this
theorem find48 (m:Mch) (sf sm sl:Sl) (b:Nat) (S:Nat->List Nat) (s:Int) (e:Ev) (h:Heap) (hM:MI h m sf sm sl) (hV:VM m) (hT:TbI h ⟨b,0,none⟩ m sf sm sl S) (h0:0<=s) (h1:s<m.n) :
  Fn Pz 48 #[.pointer (some ⟨b,0,none⟩),.int .i64 s,.agg ⟨e.cs⟩] h fun v h'=>Ext h h'/\((v=.int .i64 (-1)/\nxE m s e=-1)\/∃(k:Nat) (y:Mv),v=.int .i64 (k:Nat)/\m.mv[k]?=some y/\nxE m s e=y.t):=by
 apply vc48 ⟨b,0,none⟩ s e.send e.peer e.label;unfold W48;obtain⟨ho,qs,_,hat,hhn,hho,hqs⟩:=hT.ex;have hmn:=hM.pm.ln;have hmm:=hM.pm.sm;have hvl:s.toNat<m.n.toNat:=by omega
 have hS:=hT.so s.toNat hvl;have hrow:=hqs s.toNat hvl;have hsi:((s.toNat:Nat):Int)=s:=by omega
 refine (St.refl h).newb fun h4 hs=>?_;refine hs.newb fun h5 hs=>?_;refine⟨_,hs.rd 1 rfl rfl,?_⟩;refine⟨ho,(atC_ext hs.ext hat).nth 6 rfl,?_⟩;refine (hho.ext hs.ext).nbI (by omega) (by omega) fun b9 o10 v gv t=>?_;have hv:v=s.toNat:=by rw[Yyb hvl] at gv;exact (Yyp gv).symm
 subst hv;have hlm:∀k∈S s.toNat,∃x,m.mv[k]?=some x/\x.f=s:=fun k hk=>by
  obtain⟨x,hx,hf⟩:=outIx_mem.1 (hS.p.mem_iff.1 hk);exact⟨x,hx,by omega⟩
 have hll:(S s.toNat).length<=1048576:=by
  rw[hS.p.length_eq];unfold outIx;exact Yys (List.length_filter_le _ _) (by rw[Yyd];omega)
 have hnd:=hS.p.nodup_iff.2 (outIx_nodup m ((s.toNat:Nat):Int));have hso:∀(j i:Nat) (a b:Nat),i<j->(S s.toNat)[i]?=some a->(S s.toNat)[j]?=some b->evLt (evI m a) (evI m b):=by
  refine srt_lt hS fun j a b ha hb=>?_;obtain⟨x,hx,hxf⟩:=hlm a (Yb ha);obtain⟨y,hy,hyf⟩:=hlm b (Yb hb);have hne:a≠b:=fun e=>by
   have h1:=(Ya.1 ha);have h2:=(Ya.1 hb);have h3:=(List.pairwise_iff_getElem.1 hnd) j (j+1) h1.1 h2.1 (by omega);rw[h1.2,h2.2] at h3;exact h3 e
  rw[evI_of hx,evI_of hy];exact (hV.d a b x y hx hy hne (by omega)).1
 refine⟨_,t.hd,_,_,_,hs.at 0 rfl (o:=0) (n:=3) rfl,?_⟩;refine (search102 m sm b h.size (S s.toNat) (qs s.toNat) e h5 (hs.rd 1 rfl rfl) ((atC_ext hs.ext hat).nth 4 rfl) (hM.pm.rw.ext hs.ext) (hrow.ext hs.ext) (fun k hk=>(hlm k hk).imp fun x hx=>hx.1) hll hso).mono ?_;rintro _ h18 ⟨E,i,f,rfl,hft,hff⟩;have hs:=hs.step E;refine⟨_,_,rfl,sB_intro (fun c=>?_) (fun c=>?_)⟩
 .refine⟨hs.ext,.inl ⟨rfl,nxE_none fun x hx hxf=>?_⟩⟩;obtain⟨k,hk⟩:=Yf.1 hx;have:=hff (bF c) k (hS.p.mem_iff.2 (outIx_mem.2 ⟨x,hk,by omega⟩))
  rwa [evI_of hk] at this
 .obtain⟨j,k,rfl,hjk,hev⟩:=hft (bT c);obtain⟨x,hx,hxf⟩:=hlm k (Yb hjk);have hjl:=(Ya.1 hjk).1;refine⟨_,hs.rd 1 rfl rfl,ho,(atC_ext hs.ext hat).nth 6 rfl,?_⟩;refine (hho.ext hs.ext).nbI (by omega) (by omega) fun b22 o23 v gv t=>?_;have hv:v=s.toNat:=by rw[Yyb hvl] at gv;exact (Yyp gv).symm
  subst hv;have hrn:=hrow.ln;rw[show (natI (S s.toNat)).length=(S s.toNat).length from Yc _] at hrn;refine⟨_,t.hd,?_⟩;refine (hrow.ext hs.ext).nbI (by omega) (by omega) fun b25 o26 d gd t2=>?_;replace gd:(natI (S s.toNat))[j]?=some d:=gd;obtain⟨k',hk',rfl⟩:=natI_get gd;rw[hjk] at hk';cases hk';refine⟨_,t2.nth 0 rfl,hs.ext,.inr ⟨k,x,rfl,hx,nxE_some hV.d hx hxf ?_⟩⟩;rw[<-evI_of hx];exact hev
def runN (m:Mch):Int->Nat->List Hv->Int × Nat × Int
 | s,i,[]=>(s,i,0)
 | s,i,x::l=>if 0<=nxH m s x then runN m (nxH m s x) (i+1) l else (s,i,23)
def runV (r:Int × Nat × Int):Value:=.tuple ⟨[.int .i64 r.1,.int .i64 (r.2.1:Nat),.int .i64 r.2.2]⟩
theorem newput' {h0 h:Heap} {L:List It} {zs vs:List Value} {e:TypeId} {K:Heap->Prop} {n:Nat} (hn:n=vs.length) (hl:zs.length=vs.length) (hs:St h0 h L) (hK:∀h3,Ext h h3->St h0 h3 (.blk h.size vs e::L)->K h3) :
  ∀h2:Heap,h2=h.push (.cells ⟨zs⟩ e)->okAt h2 ⟨h.size,0,none⟩ n/\∀h3:Heap,h3=hputs h2 ⟨h.size,0,none⟩ 0 vs->K h3:=by
 subst hn;exact VC.newput hl fun h3 E o=>hK h3 E (hs.more E (i:=.blk h.size vs e) o fun b hb=>by cases hb;exact Yyt _)
open Classical in
theorem run14 (m:Mch) (sf sm sl:Sl) (L:List Hv) (s:Sl) (h:Heap) (hM:MI h m sf sm sl) (hL:Rw h 5 s (L.map Hv.cs)) (hLm:L.length<=1048576) :
  Fn Pz 14 #[.agg ⟨mC m sf sm sl⟩,.slice s.a s.n s.c] h fun v h'=>v=runV (if VM m then runN m m.s 0 L else (0,0,1))/\Ext h h':=by
 apply vc14 m.role m.n m.s sf sm sl;unfold W14;have hmn:=hM.pm.ln;have hsn:=hL.ln;refine (St.refl h).newb fun h7 hs=>?_;refine⟨_,_,_,sf,sm,sl,hs.at 0 rfl (o:=0) (n:=6) rfl,?_⟩;refine (open47 m sf sm sl h7 (hM.ext hs.ext)).mono ?_;rintro _ h17 ⟨E,p,b,rfl,hb,hbT⟩;have hs:=hs.step E;refine⟨_,_,rfl,sB_intro (fun c=>⟨by rw[if_neg (iff_f hb (bF c))];rfl,hs.ext⟩) (fun c=>?_)⟩;obtain⟨b0,S,rfl,hT⟩:=hbT (bT c);have hV:=hb.1 (bT c);rw[if_pos hV];have hms:=hV.n.s;refine⟨_,hs.rd 0 rfl rfl,?_⟩;refine⟨fun a x h' μ=>∃i:Nat,x=i/\i<=s.n/\μ=s.n-i/\0<=a/\a<m.n/\runN m m.s 0 L=runN m a i (L.drop i)/\St h h' [.blk h.size (mC m sf sm sl) 26]/\TbI h' ⟨b0,0,none⟩ m sf sm sl S,⟨_,0,rfl,by omega,rfl,hms.1,hms.2,rfl,hs,hT⟩,?_⟩;clear hs hT;rintro-a _ h24 μ ⟨i,rfl,hi,rfl,ha0,ha1,hrun,hs,hT⟩;refine sB_intro (fun c1=>?_) (fun c1=>?_)
 .replace c1:=lt_t c1;refine (hL.ext hs.ext).nbI (by omega) (by omega) fun b25 o26 x gx t=>?_;replace gx:L[i]?=some x:=gx;have hdr:L.drop i=x::L.drop (i+1):=drop_get gx;rw[hdr,runN] at hrun;refine⟨_,_,_,_,_,t,?_⟩;refine newput' (vs:=x.cs) rfl rfl hs fun h33 E33 hs=>?_;have hT:=hT.ext E33;refine⟨fun k h'=>St h h' [.blk h24.size x.cs 37,.blk h.size (mC m sf sm sl) 26]/\TbI h' ⟨b0,0,none⟩ m sf sm sl S/\((k=-1/\nxH m a x=-1)\/∃(kn:Nat) (y:Mv),k=(kn:Int)/\m.mv[kn]?=some y/\nxH m a x=y.t),?_,?_⟩
  .refine⟨_,hs.rd 0 rfl rfl,_,hs.rd 1 rfl rfl,sBe (fun c2=>?_) (fun c2=>?_)⟩
   .refine⟨_,hs.rd 0 rfl rfl,_,hs.rd 0 rfl rfl,_,hs.rd 0 rfl rfl,?_⟩;refine (find48 m sf sm sl b0 S a x.ev h33 (hM.ext hs.ext) hV hT ha0 ha1).mono ?_;rintro _ h42 ⟨E,hr⟩;have hnx:nxH m a x=nxE m a x.ev:=by unfold nxH;rw[if_pos c2]
    rcases hr with ⟨rfl,hn⟩ | ⟨k,y,rfl,hy,hn⟩
    .exact⟨_,rfl,hs.step E,hT.ext E,.inl ⟨rfl,by rw[hnx,hn]⟩⟩
    .exact⟨_,rfl,hs.step E,hT.ext E,.inr ⟨k,y,rfl,hy,by rw[hnx,hn]⟩⟩
   .exact⟨hs,hT,.inl ⟨rfl,by unfold nxH;rw[if_neg c2]⟩⟩
  .clear hs hT;rintro-k h44 ⟨hs,hT,hk⟩;rcases hk with ⟨rfl,hn⟩ | ⟨kn,y,rfl,hy,hn⟩
   .refine sBi (fun _=>⟨?_,hs.ext⟩) (fun c3=>absurd (by decide) c3);rw[hrun,if_neg (by omega)];rfl
   .have hyl:=(Ya.1 hy).1;have hyr:=hV.n.mv y (Yb hy);refine sBi (fun c3=>by omega) (fun _=>?_);refine⟨sm,hs.rd 1 rfl rfl,?_⟩;refine (hM.pm.rw.ext hs.ext).nbI (by omega) (by omega) fun b46 o47 y' gy t2=>?_;replace gy:m.mv[kn]?=some y':=gy;rw[hy] at gy;cases gy;refine⟨_,t2.nth 4 rfl,s.n-(i+1),by omega,i+1,by rw[w64 (by omega) (by omega)];omega,by omega,rfl,by omega,by omega,?_,hs.drop 1,hT⟩;rw[hrun,if_pos (by omega),hn]
 .replace c1:=lt_f c1;have his:i=s.n:=by omega
  subst his;refine⟨?_,hs.ext⟩;rw[hrun,List.drop_eq_nil_of_le (by omega)];rfl
end Go.VC
end

section
namespace Go.VC
def setOf (L:List Nat):PSet:=fun j=>decide (j∈L)
def Can (n:Nat) (L:List Nat):Prop:=L=(List.range n).filter fun j=>decide (j∈L)
theorem Can.mk (n:Nat) (p:Nat->Bool):Can n ((List.range n).filter p):=by
 unfold Can;apply List.filter_congr;intro x hx;by_cases hm:x∈(List.range n).filter p
 .rw[decide_eq_true hm];exact (List.mem_filter.1 hm).2
 .rw[decide_eq_false hm];cases hp:p x
  .rfl
  .exact absurd (List.mem_filter.2 ⟨hx,hp⟩) hm
theorem Can.lt {n:Nat} {L:List Nat} (h:Can n L):∀j∈L,j<n:=by
 intro j hj;rw[h,List.mem_filter,List.mem_range] at hj;exact hj.1
theorem setOf_inj {n:Nat} {L L':List Nat} (h:Can n L) (h':Can n L'):setOf L=setOf L' ↔ L=L':=by
 constructor
 .intro e;rw[h,h'];congr 1
 .intro e;rw[e]
theorem elems_setOf {n:Nat} {L:List Nat} (h:Can n L) (hn:n<=4096):elems (setOf L)=L:=by
 unfold elems;have e:List.range 4096=List.range n++(List.range (4096-n)).map (n + ·):=by rw[<-List.range_add];congr 1;omega
 rw[e,List.filter_append];have e2:((List.range (4096-n)).map (n + ·)).filter (setOf L)=[]:=by
  rw[List.filter_eq_nil_iff];intro x hx;obtain⟨y,_,rfl⟩:=Yp.1 hx;unfold setOf;simp only[decide_eq_true_eq];intro hm;have:=h.lt _ hm;omega
 rw[e2,Yw];exact h.symm
def evsC (es:List Ed) (role:Int) (L:List Nat):List Ev:=sortE (L.flatMap fun n=>(visL es role n).map (·.x))
def toC (es:List Ed) (role:Int) (L:List Nat) (x:Ev):List Int:=L.flatMap fun n=>(visL es role n).filterMap fun a=>if a.x=x then some a.to else none
theorem evs_setOf {n:Nat} {L:List Nat} (h:Can n L) (hn:n<=4096) (es:List Ed) (role:Int):evs es role (setOf L)=evsC es role L:=by unfold evs evL evsC;rw[elems_setOf h hn]
theorem toL_setOf {n:Nat} {L:List Nat} (h:Can n L) (hn:n<=4096) (es:List Ed) (role:Int) (x:Ev):toL es role (setOf L) x=toC es role L x:=by unfold toL toC;rw[elems_setOf h hn]
def addC (es:List Ed) (role:Int) (L:List Nat):List Nat:=es.foldl (fun L x=>if (vis1 role x).isNone&&decide (x.f.toNat∈L) && !decide (x.t.toNat∈L) then L++[x.t.toNat] else L) L
def bfsC (es:List Ed) (role:Int):Nat->List Nat->List Nat
 | 0,L=>L
 | f+1,L=>bfsC es role f (addC es role L)
def okC (es:List Ed) (role:Int) (l:List Int) (L:List Nat):Bool:=
 l.all (fun v=>decide (0<=v)&&decide (v.toNat∈L))&&es.all (fun x=>!(vis1 role x).isNone || !decide (x.f.toNat∈L)||decide (x.t.toNat∈L)) &&
  (List.range L.length).all fun i=>match L[i]? with
   | some j=>l.any (fun v=>decide (v=(j:Int)))||es.any fun x=>(vis1 role x).isNone&&decide (x.f.toNat∈L.take i)&&decide (x.t=(j:Int))
   | none=>false
theorem okC_clo {es:List Ed} {role:Int} {l:List Int} {L:List Nat} (hes:∀x∈es,0<=x.f/\0<=x.t) (h:okC es role l L=true) (j:Nat):clo es role l j=decide (j∈L):=by
 unfold okC at h;simp only[Yt,List.all_eq_true,List.mem_range] at h;obtain⟨⟨h1,h2⟩,h3⟩:=h;have fwd:∀a:Int,Qr es role l a->0<=a/\a.toNat∈L:=by
  intro a ha
  induction ha with
  | base hm=>have:=h1 _ hm;simpa using this
  | step _ hx ih=>
   obtain⟨x,hx,hv,hf,rfl⟩:=hx;refine⟨(hes x hx).2,?_⟩;have:=h2 x hx;simp only[Bool.or_eq_true,Bool.not_eq_true',decide_eq_false_iff_not,decide_eq_true_eq] at this;rcases this with (h4 | h4) | h4
   .rw[hv] at h4;cases h4
   .exact absurd (by rw[hf];exact ih.2) h4
   .exact h4
 have bwd:∀i,i<=L.length->∀j∈L.take i,Qr es role l (j:Int):=by
  intro i
  induction i with
  | zero=>intro _ j hj;rw[Yyk] at hj;cases hj
  | succ i ih=>
   intro hi j hj;obtain⟨y,hy⟩:=get_some (l:=L) (i:=i) (by omega);rw[take_snoc hy,Yk,Ye] at hj;rcases hj with hj | rfl
   .exact ih (by omega) j hj
   .have:=h3 i (by omega);rw[hy] at this;simp only[Bool.or_eq_true,List.any_eq_true,decide_eq_true_eq,Yt] at this;rcases this with ⟨v,hv,rfl⟩ | ⟨x,hx,⟨h4,h5⟩,h6⟩
    .exact .base hv
    .have hq:=ih (by omega) _ h5;rw[show ((x.f.toNat:Nat):Int)=x.f by have:=hes x hx;omega] at hq;exact .step hq ⟨x,hx,Option.isNone_iff_eq_none.1 h4,rfl,h6⟩
 have hiff:clo es role l j=true ↔ j∈L:=by
  rw[clo_iff];constructor
  .intro h;have:=(fwd _ h).2;rwa [Ys] at this
  .intro h;exact bwd L.length (Yyt _) j (by rw[Yye];exact h)
 by_cases hj:j∈L
 .rw[decide_eq_true hj];exact hiff.2 hj
 .rw[decide_eq_false hj];cases hc:clo es role l j
  .rfl
  .exact absurd (hiff.1 hc) hj
def cloC (es:List Ed) (role:Int) (n:Nat) (l:List Int):Option (List Nat):=
 let L:=bfsC es role n (l.map Int.toNat).eraseDups
 if okC es role l L then some ((List.range n).filter fun j=>decide (j∈L)) else none
theorem cloC_ok {es:List Ed} {role:Int} {n:Nat} {l:List Int} {L:List Nat} (hes:∀x∈es,0<=x.f/\0<=x.t) (hlt:∀j:Nat,clo es role l j=true->j<n) (h:cloC es role n l=some L):Can n L/\clo es role l=setOf L:=by
 unfold cloC at h;simp only at h;split at h
 .rename_i hk;cases h;refine⟨Can.mk _ _,?_⟩
  funext j
  rw[okC_clo hes hk];unfold setOf;by_cases hj:j∈bfsC es role n (l.map Int.toNat).eraseDups
  .rw[decide_eq_true hj,decide_eq_true];have:clo es role l j=true:=by rw[okC_clo hes hk,decide_eq_true hj]
   exact List.mem_filter.2 ⟨List.mem_range.2 (hlt j this),decide_eq_true hj⟩
  .rw[decide_eq_false hj,decide_eq_false];intro hm;exact hj (Yyn (List.mem_filter.1 hm).2)
 .cases h
def rowCS (S:List (List Nat)) (L:List Nat):List (List Nat):=if L∈S then S else S++[L]
theorem rowI_setOf {n:Nat} {L:List Nat} (hL:Can n L):∀ {S:List (List Nat)},(∀s∈S,Can n s)->rowI (S.map setOf) (setOf L)=idxF S L
 | [],_=>rfl
 | s::S,h=>by
  rw[Yyl,rowI,idxF];have hs:=setOf_inj (h s (Yx ..)) hL;by_cases e:s=L
  .rw[if_pos (hs.2 e),if_pos e]
  .rw[if_neg (fun h=>e (hs.1 h)),if_neg e,rowI_setOf hL fun s hs=>h s (Yn _ hs)]
theorem rowS_setOf {n:Nat} {L:List Nat} (hL:Can n L) {S:List (List Nat)} (hS:∀s∈S,Can n s):rowS (S.map setOf) (setOf L)=(rowCS S L).map setOf/\∀s∈rowCS S L,Can n s:=by
 have hiff:setOf L∈S.map setOf ↔ L∈S:=by
  rw[<-rowI_lt,rowI_setOf hL hS,Yc];constructor
  .intro h;by_cases hm:L∈S
   .exact hm
   .rw[idxF_not hm] at h;omega
  .intro h;exact idxF_lt h
 unfold rowS rowCS;by_cases hm:L∈S
 .rw[if_pos (hiff.2 hm),if_pos hm];exact⟨rfl,hS⟩
 .rw[if_neg (fun h=>hm (hiff.1 h)),if_neg hm,Ym];refine⟨rfl,fun s hs=>?_⟩;rcases Yk.1 hs with hs | hs
  .exact hS s hs
  .rw[Ye] at hs;rw[hs];exact hL
def arcsC (es:List Ed) (role:Int) (n:Nat) (i:Nat) (L:List Nat):List Ev->List (List Nat)->List Mv->Option (List (List Nat) × List Mv)
 | [],S,M=>some (S,M)
 | x::r,S,M=>match cloC es role n (toC es role L x) with
  | none=>none
  | some T=>arcsC es role n i L r (rowCS S T) (M++[⟨i,x.send,x.peer,x.label,(idxF S T:Nat),false⟩])
theorem arcsC_ok {es:List Ed} {role:Int} {n i:Nat} {L:List Nat} (hn:n<=4096) (hes:∀x∈es,0<=x.f/\0<=x.t) (hlt:∀(x:Ev) (j:Nat),clo es role (toC es role L x) j=true->j<n) (hL:Can n L):∀(l:List Ev) (S:List (List Nat)) (M:List Mv) {S':List (List Nat)} {M':List Mv},(∀s∈S,Can n s)->arcsC es role n i L l S M=some (S',M') ->
  arcsF es role i (setOf L) l (S.map setOf) M=(S'.map setOf,M')/\∀s∈S',Can n s
 | [],S,M,S',M',hS,h=>by cases h;exact⟨rfl,hS⟩
 | x::r,S,M,S',M',hS,h=>by
  rw[arcsC] at h;cases hc:cloC es role n (toC es role L x) with
  | none=>rw[hc] at h;cases h
  | some T=>
   rw[hc] at h;replace h:arcsC es role n i L r (rowCS S T) (M++[⟨i,x.send,x.peer,x.label,(idxF S T:Nat),false⟩])=some (S',M'):=h;obtain⟨h1,h2⟩:=cloC_ok hes (hlt x) hc;have h3:=rowS_setOf h1 hS;have:=arcsC_ok hn hes hlt hL r _ _ h3.2 h;rw[arcsF,toL_setOf hL hn,h2,rowI_setOf h1 hS,h3.1];exact this
def viewsCF (es:List Ed) (role:Int) (n:Nat):Nat->Nat->List (List Nat)->List Mv->Option (Option (List (List Nat) × List Mv))
 | 0,_,_,_=>some none
 | f+1,i,S,M=>match S[i]? with
  | none=>some (some (S,M))
  | some L=>match arcsC es role n i L (evsC es role L) S M with
   | none=>none
   | some (S',M')=>if S'.length>200 then some none else viewsCF es role n f (i+1) S' M'
theorem viewsCF_ok {es:List Ed} {role:Int} {n:Nat} (hn:n<=4096) (hes:∀x∈es,0<=x.f/\0<=x.t) (hlt:∀(L:List Nat) (x:Ev) (j:Nat),clo es role (toC es role L x) j=true->j<n):∀(f i:Nat) (S:List (List Nat)) (M:List Mv) {r:Option (List (List Nat) × List Mv)},(∀s∈S,Can n s)->viewsCF es role n f i S M=some r ->
  viewsF es role f i (S.map setOf) M=r.map (fun q=>(q.1.map setOf,q.2))/\∀q,r=some q->∀s∈q.1,Can n s
 | 0,i,S,M,r,_,h=>by cases h;exact⟨rfl,fun q hq=>by cases hq⟩
 | f+1,i,S,M,r,hS,h=>by
  rw[viewsCF] at h;rw[viewsF,Yd];cases hg:S[i]? with
  | none=>
   rw[hg] at h;cases h;exact⟨rfl,fun q hq=>by cases hq;exact hS⟩
  | some L=>
   rw[hg] at h;have hL:=hS L (Yb hg);cases ha:arcsC es role n i L (evsC es role L) S M with
   | none=>simp only[ha] at h;cases h
   | some q=>
    obtain⟨S',M'⟩:=q;simp only[ha] at h;have h1:=arcsC_ok hn hes (hlt L) hL _ S M hS ha;rw[<-evs_setOf hL hn] at h1;show (if (arcsF es role i (setOf L) (evs es role (setOf L)) (S.map setOf) M).1.length>200 then none else viewsF es role f (i+1) (arcsF es role i (setOf L) (evs es role (setOf L)) (S.map setOf) M).1 (arcsF es role i (setOf L) (evs es role (setOf L)) (S.map setOf) M).2)=_/\_;rw[h1.1];simp only[Yc];split
    .rename_i hc;rw[if_pos hc] at h;cases h;exact⟨rfl,fun q hq=>by cases hq⟩
    .rename_i hc;rw[if_neg hc] at h;exact viewsCF_ok hn hes hlt f (i+1) S' M' h1.2 h
theorem viewV_congr {F F':Nat->List Ev} {en en':Nat->Bool} {O:List Bool} {T:List Ti} {l:List Nat} (hF:∀k∈l,F k=F' k) (he:∀k∈l,en k=en' k):viewV F en O T l=viewV F' en' O T l:=by
 have hb:∀k∈l,badV F en l k=badV F' en' l k:=by
  intro k hk;unfold badV;have ha:(l.any fun q=>en q||decide (F k≠F q))=l.any fun q=>en' q||decide (F' k≠F' q):=by
   rw[Bool.eq_iff_iff,List.any_eq_true,List.any_eq_true];constructor
   .rintro⟨q,hq,h⟩;exact⟨q,hq,by rw[<-he q hq,<-hF q hq,<-hF k hk];exact h⟩
   .rintro⟨q,hq,h⟩;exact⟨q,hq,by rw[he q hq,hF q hq,hF k hk];exact h⟩
  rw[ha,hF k hk,he k hk]
 unfold viewV;congr 1
 suffices h:∀(m:List Nat) (st:Option (Bool × Ti)),(∀k∈m,k∈l)->m.foldl (stepV F en O T l) st=m.foldl (stepV F' en' O T l) st from h l _ fun k hk=>hk
 intro m
 induction m with
 | nil=>intro st _;rfl
 | cons a m ih=>
  intro st hs;rw[List.foldl_cons,List.foldl_cons];have:stepV F en O T l st a=stepV F' en' O T l st a:=by unfold stepV;rw[hb a (hs a (Yx ..))]
  rw[this];exact ih _ fun k hk=>hs k (Yn _ hk)
def rawLC (vw:List Nat->Option Ti):Nat->List (List Nat)->List Mv->List To->Option (List Mv × List To)
 | _,[],M,L=>some (M,L)
 | n,p::S,M,L=>match vw p with
  | none=>none
  | some x=>rawLC vw (n+1) S (M.map (updR n x)) (L++limR n x M)
theorem rawLC_ok {vw vw':List Nat->Option Ti} {N:Nat} (hN:N<=4096):∀(n:Nat) (S:List (List Nat)) (M:List Mv) (L:List To),(∀s∈S,Can N s/\vw s=vw' s)->rawL vw n (S.map setOf) M L=rawLC vw' n S M L
 | _,[],_,_,_=>rfl
 | n,p::S,M,L,h=>by
  obtain⟨h1,h2⟩:=h p (Yx ..);rw[Yyl,rawL,rawLC,elems_setOf h1 hN,h2];cases vw' p with
  | none=>rfl
  | some x=>exact rawLC_ok hN (n+1) S _ _ fun s hs=>h s (Yn _ hs)
end Go.VC
end

section
namespace Go.VC
open Go.LexS
def fC (g:Gl) (role:Int) (k:Nat):List Ev:=((cloC g.es role g.n.toNat [(k:Int)]).map (evsC g.es role)).getD []
def enC (g:Gl) (role:Int) (k:Nat):Bool:=((cloC g.es role g.n.toNat [(k:Int)]).map fun L=>decide (g.e.toNat∈L)).getD false
def vwC (g:Gl) (role:Int):List Nat->Option Ti:=viewV (fC g role) (enC g role) (ownE g.es role g.n.toNat).1 (ownT g.es g.ts role g.n.toNat)
def rawC (g:Gl) (role:Int):Option (Option Mch × Int):=
 if !(List.range g.n.toNat).all (fun k=>(cloC g.es role g.n.toNat [(k:Int)]).isSome) then none else
 match cloC g.es role g.n.toNat [g.s] with
 | none=>none
 | some L0=>match viewsCF g.es role g.n.toNat 202 0 [L0] [] with
  | none=>none
  | some none=>some (none,6)
  | some (some (S,M))=>if M.length>400 then some (none,6) else
   match rawLC (vwC g role) 0 S M [] with
   | none=>some (none,18)
   | some (M',L')=>some (some ⟨role,S.length,0,S.map (fun L=>decide (g.e.toNat∈L)),M',L'⟩,0)
theorem rawC_ok {g:Gl} {role:Int} {r:Option Mch × Int} (hV:ValidS g) (h0:0<=role) (h1:role<g.rs.length) (h:rawC g role=some r):raw g role=r:=by
 have hN:=hV.num.n;have hn:g.n.toNat<=4096:=by omega
 have hes:∀x∈g.es,0<=x.f/\0<=x.t:=fun x hx=>by have:=hV.num.e x hx;unfold EdS at this;omega
 have hlt:∀(l:List Int),(∀v∈l,0<=v/\v<g.n)->∀j:Nat,clo g.es role l j=true->j<g.n.toNat:=fun l hl j hj=>by have:=clo_lt hV hl j hj;omega
 have hto:∀(L:List Nat) (x:Ev) (j:Nat),clo g.es role (toC g.es role L x) j=true->j<g.n.toNat:=by
  intro L x;refine hlt _ fun v hv=>?_;unfold toC at hv;obtain⟨k,_,h2⟩:=List.mem_flatMap.1 hv;obtain⟨a,ha,h3⟩:=Yym.1 h2;unfold visL at ha;obtain⟨e,he,h4⟩:=Yym.1 ha;have:=hV.num.e e he;unfold EdS at this;split at h4
  .rw[Yya] at h4;obtain⟨_,_,rfl⟩:=h4;split at h3
   .cases h3;show 0<=e.t/\e.t<g.n;omega
   .cases h3
  .cases h4
 unfold rawC at h;split at h
 .cases h
 rename_i hall;have hall:∀k,k<g.n.toNat->(cloC g.es role g.n.toNat [(k:Int)]).isSome=true:=by
  intro k hk;have:(List.range g.n.toNat).all (fun k=>(cloC g.es role g.n.toNat [(k:Int)]).isSome)=true:=by
   revert hall
   generalize (List.range g.n.toNat).all (fun k=>(cloC g.es role g.n.toNat [(k:Int)]).isSome)=b;cases b<;>simp
  exact List.all_eq_true.1 this k (List.mem_range.2 hk)
 have hfirst:∀k,k<g.n.toNat->firstE g role (k:Int)=fC g role k/\firstB g role (k:Int)=enC g role k:=by
  intro k hk;obtain⟨L,hL⟩:=Option.isSome_iff_exists.1 (hall k hk);obtain⟨h2,h3⟩:=cloC_ok hes (hlt [(k:Int)] fun v hv=>by rw[Ye] at hv;omega) hL;unfold firstE firstB fC enC;rw[hL,h3,evs_setOf h2 hn];exact⟨rfl,rfl⟩
 cases hc0:cloC g.es role g.n.toNat [g.s] with
 | none=>simp only[hc0] at h;cases h
 | some L0=>
  simp only[hc0] at h;obtain⟨h2,h3⟩:=cloC_ok hes (hlt [g.s] fun v hv=>by rw[Ye] at hv;omega) hc0;cases hv:viewsCF g.es role g.n.toNat 202 0 [L0] [] with
  | none=>simp only[hv] at h;cases h
  | some w=>
   simp only[hv] at h;obtain⟨h4,h5⟩:=viewsCF_ok hn hes hto 202 0 [L0] [] (fun s hs=>by rw[Ye] at hs;rw[hs];exact h2) hv;have h6:views g role=w.map fun q=>(q.1.map setOf,q.2):=by
    unfold views;rw[h3];exact h4
   unfold raw;rw[if_neg (by simpa using ⟨hV,h0,h1⟩),h6];cases w with
   | none=>simpa using h
   | some q=>
    obtain⟨S,M⟩:=q;have hS:=h5 (S,M) rfl;simp only[Option.map_some] at h ⊢;split at h
    .rename_i hM;rw[if_pos hM];simpa using h
    .rename_i hM;rw[if_neg hM];rw[rawLC_ok (vw:=vwG g role) (vw':=vwC g role) hn 0 S M [] fun s hs=>⟨hS s hs,viewV_congr (fun k hk=>(hfirst k ((hS s hs).lt k hk)).1) fun k hk=>(hfirst k ((hS s hs).lt k hk)).2⟩];cases hl:rawLC (vwC g role) 0 S M [] with
     | none=>simp only[hl] at h ⊢;simpa using h
     | some q=>
      obtain⟨M',L'⟩:=q;simp only[hl] at h ⊢;rw[<-Yyp h,Yc,List.map_map];rfl
end Go.VC
end

section
namespace Go.VC
open Go.Proofs Go.LexS
def exD (x:Nm):Dc:=⟨x,⟨none,0,0⟩,0,⟨none,0,0⟩,⟨none,0,0⟩,[],[],[]⟩
def exEs:Bool->List Ed
 | true=>[⟨0,0,1,0,1,false⟩,⟨0,0,1,1,2,false⟩,⟨1,1,2,0,3,false⟩,⟨2,1,2,1,4,false⟩,⟨3,2,1,2,5,false⟩,⟨4,2,1,3,5,false⟩]
 | false=>[⟨0,0,1,0,1,false⟩,⟨0,0,1,1,2,false⟩,⟨1,2,1,2,3,false⟩,⟨2,2,1,3,3,false⟩]
def exGl (b:Bool) (hr hd he ht:Sl):Gl:=⟨[101],hr,hd,if b then 6 else 4,0,if b then 5 else 3,he,ht,[[112],[113],[114]],[exD [97],exD [98],exD [99],exD [100]],exEs b,[]⟩
theorem edge70 (p0 p1 p2 p3 p4:Int) (h:Heap):Fn Pz 95 #[.int .i64 p0,.int .i64 p1,.int .i64 p2,.int .i64 p3,.int .i64 p4] h fun v h'=>v=.agg ⟨Ed.cs ⟨p0,p1,p2,p3,p4,false⟩⟩/\Ext h h':=by
 apply vc95;unfold W95;have hs:=St.refl h;refine hs.newput (vs:=Ed.cs ⟨p0,p1,p2,p3,p4,false⟩) rfl rfl fun h2 hs=>?_;exact⟨_,_,_,_,_,_,hs.at 0 rfl (n:=6) rfl,rfl,hs.ext⟩
theorem RL.none_ {α:Type} {h:Heap} {k:Nat} {cs:α->List Value}:RL h k ⟨none,0,0⟩ cs []:=⟨Rw.nil,Yyt _,fun _=>⟨rfl,rfl⟩,Nat.zero_le _⟩
theorem St.rl {α:Type} {h0 h:Heap} {L:List It} (hs:St h0 h L) (k:Nat) {s:Sl} {e:TypeId} {n:Nat} {cs:α->List Value} {l:List α} (hk:L[k]?=some (.sl s e n (l.map cs))) (hn:0<n) (hl:l.length<=1048576):RL h n s cs l:=by
 have:=hs.len k hk hn;exact⟨hs.rows k hk hn,this.2.1,this.2.2,hl⟩
theorem nmrows (L:List Nm):∀r∈L.map nmC,r.length=1:=fun r hr=>by obtain⟨x,_,rfl⟩:=Yp.1 hr;rfl
theorem dcrows (L:List Dc):∀r∈L.map Dc.cs,r.length=5:=fun r hr=>by obtain⟨x,_,rfl⟩:=Yp.1 hr;rfl
theorem edrows (L:List Ed):∀r∈L.map Ed.cs,r.length=6:=fun r hr=>by obtain⟨x,_,rfl⟩:=Yp.1 hr;rfl
theorem example34 (b:Bool) (h:Heap):Fn Pz 46 #[.bool b] h fun v h'=>Ext h h'/\∃hr hd he:Sl,v=(exGl b hr hd he ⟨none,0,0⟩).v/\GI h' (exGl b hr hd he ⟨none,0,0⟩):=by
 apply vc46;unfold W46 V46a;have hs:=St.refl h;refine hs.newb fun h1 hs=>?_;refine hs.newb fun h2 hs=>?_;have hs:=hs.blkS 3 1 ([[112],[113],[114]].map nmC) rfl (nmrows _) rfl (by decide);refine hs.newb fun h3 hs=>?_;have hs:=hs.blkS 4 5 ([exD [97],exD [98],exD [99],exD [100]].map Dc.cs) rfl (dcrows _) rfl (by decide);refine hs.newput (vs:=[.string (bs [101]),.slice (some ⟨h1.size,0,none⟩) 3 3,.slice (some ⟨h2.size,0,none⟩) 4 4,.int .i64 4,.int .i64 0,.int .i64 3,.slice none 0 0,.slice none 0 0]) rfl rfl fun h5 hs=>?_;refine (edge70 _ _ _ _ _ _).mono ?_;rintro _ _ ⟨rfl,E⟩;replace hs:=hs.step E;clear E;refine⟨_,_,_,_,_,_,rfl,?_⟩;refine (edge70 _ _ _ _ _ _).mono ?_;rintro _ _ ⟨rfl,E⟩;replace hs:=hs.step E;clear E;refine⟨_,_,_,_,_,_,rfl,?_⟩;refine (edge70 _ _ _ _ _ _).mono ?_;rintro _ _ ⟨rfl,E⟩;replace hs:=hs.step E;clear E;refine⟨_,_,_,_,_,_,rfl,?_⟩;refine (edge70 _ _ _ _ _ _).mono ?_;rintro _ _ ⟨rfl,E⟩;replace hs:=hs.step E;clear E;refine⟨_,_,_,_,_,_,rfl,?_⟩;refine hs.newb fun h38 hs=>?_;have hs:=hs.blkS 4 6 ((exEs false).map Ed.cs) rfl (edrows _) rfl (by decide);refine hs.put 1 rfl (o:=6) (vs:=[.slice (some ⟨_,0,none⟩) 4 4]) rfl (show 7<=8 by decide) fun h39 hs=>?_;cases b
 .refine sB_f rfl ?_;refine⟨_,⟨some ⟨h1.size,0,none⟩,3,3⟩,⟨some ⟨h2.size,0,none⟩,4,4⟩,_,_,_,⟨some ⟨_,0,none⟩,4,4⟩,⟨none,0,0⟩,hs.at 1 rfl (n:=8) rfl,?_⟩;refine hs.put 4 rfl (o:=0) (vs:=(exGl false ⟨some ⟨h1.size,0,none⟩,3,3⟩ ⟨some ⟨h2.size,0,none⟩,4,4⟩ ⟨some ⟨_,0,none⟩,4,4⟩ ⟨none,0,0⟩).cs) rfl (show 8<=8 by decide) fun h117 hs=>?_;refine⟨_,⟨some ⟨h1.size,0,none⟩,3,3⟩,⟨some ⟨h2.size,0,none⟩,4,4⟩,_,_,_,⟨some ⟨_,0,none⟩,4,4⟩,⟨none,0,0⟩,hs.at 4 rfl (n:=8) rfl,hs.ext,_,_,_,rfl,?_⟩;refine⟨hs.rl 3 rfl (by decide) (show 3<=1048576 by decide),⟨hs.rl 2 rfl (by decide) (show 4<=1048576 by decide),fun d hd=>?_⟩,hs.rl 0 rfl (by decide) (show 4<=1048576 by decide),RL.none_⟩;have hd:d∈[exD [97],exD [98],exD [99],exD [100]]:=hd;simp only[Yr,List.not_mem_nil,or_false] at hd;rcases hd with rfl | rfl | rfl | rfl<;>exact⟨RL.none_,RL.none_,RL.none_⟩
 .refine sB_t rfl ?_;refine hs.put 1 rfl (o:=3) (vs:=[.int .i64 6]) rfl (show 4<=8 by decide) fun h40 hs=>?_;refine hs.put 1 rfl (o:=5) (vs:=[.int .i64 5]) rfl (show 6<=8 by decide) fun h41 hs=>?_;refine (edge70 _ _ _ _ _ _).mono ?_;rintro _ _ ⟨rfl,E⟩;replace hs:=hs.step E;clear E;refine⟨_,_,_,_,_,_,rfl,?_⟩;refine (edge70 _ _ _ _ _ _).mono ?_;rintro _ _ ⟨rfl,E⟩;replace hs:=hs.step E;clear E;refine⟨_,_,_,_,_,_,rfl,?_⟩;refine (edge70 _ _ _ _ _ _).mono ?_;rintro _ _ ⟨rfl,E⟩;replace hs:=hs.step E;clear E;refine⟨_,_,_,_,_,_,rfl,?_⟩;refine (edge70 _ _ _ _ _ _).mono ?_;rintro _ _ ⟨rfl,E⟩;replace hs:=hs.step E;clear E;refine⟨_,_,_,_,_,_,rfl,?_⟩;refine (edge70 _ _ _ _ _ _).mono ?_;rintro _ _ ⟨rfl,E⟩;replace hs:=hs.step E;clear E;refine⟨_,_,_,_,_,_,rfl,?_⟩;refine (edge70 _ _ _ _ _ _).mono ?_;rintro _ _ ⟨rfl,E⟩;replace hs:=hs.step E;clear E;refine⟨_,_,_,_,_,_,rfl,?_⟩;refine hs.newb fun h90 hs=>?_;have hs:=hs.blkS 6 6 ((exEs true).map Ed.cs) rfl (edrows _) rfl (by decide);refine hs.put 2 rfl (o:=6) (vs:=[.slice (some ⟨_,0,none⟩) 6 6]) rfl (show 7<=8 by decide) fun h91 hs=>?_;refine⟨_,⟨some ⟨h1.size,0,none⟩,3,3⟩,⟨some ⟨h2.size,0,none⟩,4,4⟩,_,_,_,⟨some ⟨_,0,none⟩,6,6⟩,⟨none,0,0⟩,hs.at 2 rfl (n:=8) rfl,?_⟩;refine hs.put 5 rfl (o:=0) (vs:=(exGl true ⟨some ⟨h1.size,0,none⟩,3,3⟩ ⟨some ⟨h2.size,0,none⟩,4,4⟩ ⟨some ⟨_,0,none⟩,6,6⟩ ⟨none,0,0⟩).cs) rfl (show 8<=8 by decide) fun h117 hs=>?_;refine⟨_,⟨some ⟨h1.size,0,none⟩,3,3⟩,⟨some ⟨h2.size,0,none⟩,4,4⟩,_,_,_,⟨some ⟨_,0,none⟩,6,6⟩,⟨none,0,0⟩,hs.at 5 rfl (n:=8) rfl,hs.ext,_,_,_,rfl,?_⟩;refine⟨hs.rl 4 rfl (by decide) (show 3<=1048576 by decide),⟨hs.rl 3 rfl (by decide) (show 4<=1048576 by decide),fun d hd=>?_⟩,hs.rl 0 rfl (by decide) (show 6<=1048576 by decide),RL.none_⟩;have hd:d∈[exD [97],exD [98],exD [99],exD [100]]:=hd;simp only[Yr,List.not_mem_nil,or_false] at hd;rcases hd with rfl | rfl | rfl | rfl<;>exact⟨RL.none_,RL.none_,RL.none_⟩
deriving instance DecidableEq for Ed
theorem ex_valid (b:Bool) (hr hd he ht:Sl):ValidS (exGl b hr hd he ht):=by
 have hrs:(exGl b hr hd he ht).rs=[[112],[113],[114]]:=rfl;have hds:(exGl b hr hd he ht).ds=[exD [97],exD [98],exD [99],exD [100]]:=rfl;have hes:(exGl b hr hd he ht).es=exEs b:=rfl;have hall:allF [exD [97],exD [98],exD [99],exD [100]]=[]:=rfl;have get3:∀ {α:Type} {P:Nat->α->Prop} {l:List α},(∀i (hi:i<l.length),P i l[i])->∀i x,l[i]?=some x->P i x:=by
  intro α P l h i x hx;obtain⟨h1,h2⟩:=Ya.1 hx;rw[<-h2];exact h i h1
 refine⟨⟨by rfl,by rw[hrs];decide,by rw[hrs];decide,?_⟩,⟨?_,?_,?_⟩,?_,⟨?_,?_,?_⟩,?_,?_,?_⟩
 .rw[hrs];refine get3 (P:=fun i s=>isWord s=true/\s∉List.take i [[112],[113],[114]]) fun i hi=>?_;have hi:i<3:=hi
  match i,hi with
  | 0,_=>exact Yyn rfl
  | 1,_=>exact Yyn rfl
  | 2,_=>exact Yyn rfl
 .cases b<;>exact⟨Yyn rfl,Yyn rfl,Yyn rfl,Yyn rfl,Yyn rfl,Yyn rfl⟩
 .rw[hes];cases b<;>decide
 .rw[hes];unfold EdS;rw[hrs,hds];cases b
  .show ∀x∈exEs false,0<=x.f/\0<=x.t/\0<=x.a/\0<=x.b/\0<=x.l/\x.f<4/\x.t<4/\x.a<((3:Nat):Int)/\x.b<((3:Nat):Int)/\x.a≠x.b/\x.l<((4:Nat):Int);decide
  .show ∀x∈exEs true,0<=x.f/\0<=x.t/\0<=x.a/\0<=x.b/\0<=x.l/\x.f<6/\x.t<6/\x.a<((3:Nat):Int)/\x.b<((3:Nat):Int)/\x.a≠x.b/\x.l<((4:Nat):Int);decide
 .rw[hds];refine⟨by decide,by rw[hall];decide,?_⟩;refine get3 (P:=fun i d=>DcS [exD [97],exD [98],exD [99],exD [100]] i d) fun i hi=>?_;have hi:i<4:=hi;have hg:GuardS [] [] []:=⟨by decide,by decide,fun x hx=>(by cases hx),fun x hx=>(by cases hx)⟩
  match i,hi with
  | 0,_=>exact⟨by rfl,Yyn rfl,Yyn rfl,by rfl,fun k f hf=>(by cases hf),by rw[hall];exact hg⟩
  | 1,_=>exact⟨by rfl,Yyn rfl,Yyn rfl,by rfl,fun k f hf=>(by cases hf),by rw[hall];exact hg⟩
  | 2,_=>exact⟨by rfl,Yyn rfl,Yyn rfl,by rfl,fun k f hf=>(by cases hf),by rw[hall];exact hg⟩
  | 3,_=>exact⟨by rfl,Yyn rfl,Yyn rfl,by rfl,fun k f hf=>(by cases hf),by rw[hall];exact hg⟩
 .rw[hes];cases b
  .show ∀x∈exEs false,x.f≠3;decide
  .show ∀x∈exEs true,x.f≠5;decide
 .rw[hes];cases b
  .show ∀x∈exEs false,x.ag=true->x.f≠0;decide
  .show ∀x∈exEs true,x.ag=true->x.f≠0;decide
 .rw[hes];have key:((exEs b).zipIdx.all fun p=>(exEs b).zipIdx.all fun q=>!decide ((p.2≠q.2/\p.1.f=q.1.f/\((p.1.a=q.1.a/\p.1.b=q.1.b/\p.1.l=q.1.l)\/p.1.a≠q.1.a\/p.1.ag=true))\/(p.1.ag=true/\q.1.t=p.1.f/\(p.1.a≠q.1.a\/p.1.l≠q.1.l))))=true:=by
   cases b<;>decide
  intro i x hx k y hy hbad;have h1:=List.all_eq_true.1 key (x,i) (Yf.2 ⟨i,by rw[List.getElem?_zipIdx,hx];simp⟩);have h2:=List.all_eq_true.1 h1 (y,k) (Yf.2 ⟨k,by rw[List.getElem?_zipIdx,hy];simp⟩);have h3:=Yyo (Bool.not_eq_true' _ ▸ h2);exact h3 hbad
 .intro i t ht;exact absurd ht (by show ([]:List To)[i]?≠some t;simp)
 .intro v h0 h1;rw[hes];cases b
  .have h1:v<4:=h1;show Rch (exEs false) false 0 v;have s0:Rch (exEs false) false 0 0:=.refl;have s1:Rch (exEs false) false 0 1:=.step s0 ⟨⟨0,0,1,0,1,false⟩,by decide,rfl,rfl⟩;have s2:Rch (exEs false) false 0 2:=.step s0 ⟨⟨0,0,1,1,2,false⟩,by decide,rfl,rfl⟩;have s3:Rch (exEs false) false 0 3:=.step s1 ⟨⟨1,2,1,2,3,false⟩,by decide,rfl,rfl⟩;have:v=0\/v=1\/v=2\/v=3:=by omega
   rcases this with rfl | rfl | rfl | rfl<;>assumption
  .have h1:v<6:=h1;show Rch (exEs true) false 0 v;have s0:Rch (exEs true) false 0 0:=.refl;have s1:Rch (exEs true) false 0 1:=.step s0 ⟨⟨0,0,1,0,1,false⟩,by decide,rfl,rfl⟩;have s2:Rch (exEs true) false 0 2:=.step s0 ⟨⟨0,0,1,1,2,false⟩,by decide,rfl,rfl⟩;have s3:Rch (exEs true) false 0 3:=.step s1 ⟨⟨1,1,2,0,3,false⟩,by decide,rfl,rfl⟩;have s4:Rch (exEs true) false 0 4:=.step s2 ⟨⟨2,1,2,1,4,false⟩,by decide,rfl,rfl⟩;have s5:Rch (exEs true) false 0 5:=.step s3 ⟨⟨3,2,1,2,5,false⟩,by decide,rfl,rfl⟩;have:v=0\/v=1\/v=2\/v=3\/v=4\/v=5:=by omega
   rcases this with rfl | rfl | rfl | rfl | rfl | rfl<;>assumption
 .intro v h0 h1;rw[hes];cases b
  .have h1:v<4:=h1;show Rch (exEs false) true 3 v;have s3:Rch (exEs false) true 3 3:=.refl;have s1:Rch (exEs false) true 3 1:=.step s3 ⟨⟨1,2,1,2,3,false⟩,by decide,rfl,rfl⟩;have s2:Rch (exEs false) true 3 2:=.step s3 ⟨⟨2,2,1,3,3,false⟩,by decide,rfl,rfl⟩;have s0:Rch (exEs false) true 3 0:=.step s1 ⟨⟨0,0,1,0,1,false⟩,by decide,rfl,rfl⟩;have:v=0\/v=1\/v=2\/v=3:=by omega
   rcases this with rfl | rfl | rfl | rfl<;>assumption
  .have h1:v<6:=h1;show Rch (exEs true) true 5 v;have s5:Rch (exEs true) true 5 5:=.refl;have s3:Rch (exEs true) true 5 3:=.step s5 ⟨⟨3,2,1,2,5,false⟩,by decide,rfl,rfl⟩;have s4:Rch (exEs true) true 5 4:=.step s5 ⟨⟨4,2,1,3,5,false⟩,by decide,rfl,rfl⟩;have s1:Rch (exEs true) true 5 1:=.step s3 ⟨⟨1,1,2,0,3,false⟩,by decide,rfl,rfl⟩;have s2:Rch (exEs true) true 5 2:=.step s4 ⟨⟨2,1,2,1,4,false⟩,by decide,rfl,rfl⟩;have s0:Rch (exEs true) true 5 0:=.step s1 ⟨⟨0,0,1,0,1,false⟩,by decide,rfl,rfl⟩;have:v=0\/v=1\/v=2\/v=3\/v=4\/v=5:=by omega
   rcases this with rfl | rfl | rfl | rfl | rfl | rfl<;>assumption
def exM:Mch:=⟨2,4,0,[false,false,false,true],[⟨0,false,1,0,1,false⟩,⟨0,false,1,1,2,false⟩,⟨1,true,1,2,3,false⟩,⟨2,true,1,3,3,false⟩],[]⟩
theorem ex_raw_true (hr hd he ht:Sl):rawC (exGl true hr hd he ht) 2=some (some exM,0):=by kernel_rfl
theorem ex_min:minF exM=exM:=by kernel_rfl
theorem ex_true (hr hd he ht:Sl):proj (exGl true hr hd he ht) 2=(some exM,0):=by
 have:=rawC_ok (ex_valid true hr hd he ht) (by decide) (show (2:Int)<((3:Nat):Int) by decide) (ex_raw_true hr hd he ht);unfold proj;rw[this];show (some (minF exM),0)=_;rw[ex_min]
theorem exM_get (i:Nat) (x:Mv) (h:exM.mv[i]?=some x):(i=0/\x=⟨0,false,1,0,1,false⟩)\/(i=1/\x=⟨0,false,1,1,2,false⟩)\/(i=2/\x=⟨1,true,1,2,3,false⟩)\/(i=3/\x=⟨2,true,1,3,3,false⟩):=by
 match i,h with
 | 0,h=>exact .inl ⟨rfl,(Yyp h).symm⟩
 | 1,h=>exact .inr (.inl ⟨rfl,(Yyp h).symm⟩)
 | 2,h=>exact .inr (.inr (.inl ⟨rfl,(Yyp h).symm⟩))
 | 3,h=>exact .inr (.inr (.inr ⟨rfl,(Yyp h).symm⟩))
 | n+4,h=>exact absurd h (by simp[exM])
theorem exM_mem (x:Mv) (h:x∈exM.mv):x=⟨0,false,1,0,1,false⟩\/x=⟨0,false,1,1,2,false⟩\/x=⟨1,true,1,2,3,false⟩\/x=⟨2,true,1,3,3,false⟩:=by
 obtain⟨i,hi⟩:=Yf.1 h;rcases exM_get i x hi with ⟨_,e⟩ | ⟨_,e⟩ | ⟨_,e⟩ | ⟨_,e⟩
 .exact .inl e
 .exact .inr (.inl e)
 .exact .inr (.inr (.inl e))
 .exact .inr (.inr (.inr e))
theorem exM_ag (x:Mv) (h:x∈exM.mv):x.ag=false:=by
 rcases exM_mem x h with rfl | rfl | rfl | rfl<;>rfl
theorem exVM:VM exM:=by
 refine⟨⟨⟨by decide,by decide⟩,⟨by decide,by decide⟩,⟨by decide,by decide⟩,rfl,by decide,fun x hx=>?_⟩,fun i k x y hx hy hne hf=>?_,fun v h0 h1=>?_,⟨fun x hx ha=>?_,fun x hx ha=>?_,fun x hx ha=>?_,fun x hx ha=>?_,fun x hx ha=>?_⟩,fun i t h=>?_⟩
 .rcases exM_mem x hx with rfl | rfl | rfl | rfl<;>decide
 .rcases exM_get i x hx with ⟨rfl,rfl⟩ | ⟨rfl,rfl⟩ | ⟨rfl,rfl⟩ | ⟨rfl,rfl⟩<;>rcases exM_get k y hy with ⟨rfl,rfl⟩ | ⟨rfl,rfl⟩ | ⟨rfl,rfl⟩ | ⟨rfl,rfl⟩<;>first
   | exact absurd rfl hne
   | exact absurd hf (by decide)
   | exact⟨fun e=>absurd (congrArg Ev.label e) (by decide),rfl⟩
 .have q0:Qr (meds exM) (-1) [exM.s] 0:=.base (Ye.2 rfl);have q1:Qr (meds exM) (-1) [exM.s] 1:=.step q0 ⟨⟨0,0,0,0,1,false⟩,Yp.2 ⟨⟨0,false,1,0,1,false⟩,by simp[exM],rfl⟩,rfl,rfl,rfl⟩;have q2:Qr (meds exM) (-1) [exM.s] 2:=.step q0 ⟨⟨0,0,0,0,2,false⟩,Yp.2 ⟨⟨0,false,1,1,2,false⟩,by simp[exM],rfl⟩,rfl,rfl,rfl⟩;have q3:Qr (meds exM) (-1) [exM.s] 3:=.step q1 ⟨⟨1,0,0,0,3,false⟩,Yp.2 ⟨⟨1,true,1,2,3,false⟩,by simp[exM],rfl⟩,rfl,rfl,rfl⟩;have h1:v<4:=h1;have:v=0\/v=1\/v=2\/v=3:=by omega
  rcases this with rfl | rfl | rfl | rfl
  .exact q0
  .exact q1
  .exact q2
  .exact q3
 .rw[exM_ag x hx] at ha;cases ha
 .rw[exM_ag x hx] at ha;cases ha
 .rw[exM_ag x hx] at ha;cases ha
 .rw[exM_ag x hx] at ha;cases ha
 .rw[exM_ag x hx] at ha;cases ha
 .simp[exM] at h
def evA (l:Int):Hv:=⟨2,false,1,l,⟨none,0,0⟩⟩
def evB:Hv:=⟨2,true,1,2,⟨none,0,0⟩⟩
theorem ex_run0:runN exM exM.s 0 [evA 0,evB]=(3,2,0):=by kernel_rfl
theorem ex_run1:runN exM exM.s 0 [evA 1,evB]=(2,1,23):=by kernel_rfl
theorem hvrows (L:List Hv):∀r∈L.map Hv.cs,r.length=5:=fun r hr=>by obtain⟨x,_,rfl⟩:=Yp.1 hr;rfl
theorem awake12 (h:Heap) (hx:Gx h):Fn Pz 12 #[] h fun v h'=>v=.bool true/\Ext h h':=by
 apply vc12;unfold W12;have hs:=St.refl h;refine (example34 true h).mono ?_;rintro _ h10 ⟨E10,hr,hd,he,rfl,hg⟩;refine⟨_,hr,hd,_,_,_,he,⟨none,0,0⟩,rfl,?_⟩;refine (project12 _ 2 h10 hg (hx.ext E10)).mono ?_;rintro _ h19 ⟨E19,hm⟩;rw[ex_true] at hm;cases hm with
 | err he0 _=>cases he0
 | @ok m sf sm sl he0 hs2=>
  cases he0;have hM:MI h19 exM sf sm sl:=⟨hs2.rl 0 rfl (by omega) (by decide),hs2.rl 1 rfl (by omega) (by decide),hs2.rl 2 rfl (by omega) (by decide)⟩;have E0:Ext h h19:=E10.trans E19;refine⟨_,_,_,sf,sm,sl,0,rfl,?_⟩;refine (St.refl h19).newput (vs:=mC exM sf sm sl) rfl rfl fun h21 hs=>?_;refine hs.newb fun h22 hs=>?_;refine hs.newb fun h23 hs=>?_;refine hs.put 1 rfl (o:=0) (vs:=(evA 0).cs) rfl (show 5<=5 by decide) fun h24 hs=>?_;refine hs.put 0 rfl (o:=0) (vs:=evB.cs) rfl (show 5<=5 by decide) fun h25 hs=>?_;refine⟨_,_,_,sf,sm,sl,hs.at 2 rfl (o:=0) (n:=6) rfl,_,_,_,_,⟨none,0,0⟩,hs.at 1 rfl (o:=0) (n:=5) rfl,_,_,_,_,⟨none,0,0⟩,hs.at 0 rfl (o:=0) (n:=5) rfl,?_⟩;refine hs.newb fun h42 hs=>?_;have hs:=hs.blkS 2 5 ([evA 0,evB].map Hv.cs) rfl (hvrows _) rfl (by decide);refine (run14 exM sf sm sl [evA 0,evB] _ h42 (hM.ext hs.ext) (hs.rows 0 rfl (by omega)) (by decide)).mono ?_;rintro _ h47 ⟨rfl,E⟩;have hs:=hs.step E;rw[if_pos exVM,ex_run0];refine⟨_,_,_,rfl,?_⟩;refine hs.put 2 rfl (o:=3) (vs:=[.int .i64 1]) rfl (show 3+1<=5 by decide) fun h48 hs=>?_;refine⟨_,_,_,sf,sm,sl,hs.at 3 rfl (o:=0) (n:=6) rfl,_,_,_,_,⟨none,0,0⟩,hs.at 2 rfl (o:=0) (n:=5) rfl,_,_,_,_,⟨none,0,0⟩,hs.at 1 rfl (o:=0) (n:=5) rfl,?_⟩;refine hs.newb fun h65 hs=>?_;have hs:=hs.blkS 2 5 ([evA 1,evB].map Hv.cs) rfl (hvrows _) rfl (by decide);refine (run14 exM sf sm sl [evA 1,evB] _ h65 (hM.ext hs.ext) (hs.rows 0 rfl (by omega)) (by decide)).mono ?_;rintro _ h70 ⟨rfl,E⟩;have hs:=hs.step E;rw[if_pos exVM,ex_run1];refine⟨_,_,_,rfl,?_⟩;refine sB_t rfl (sB_t rfl (sB_t rfl (sB_t rfl (sB_t rfl ?_))));refine⟨_,_,_,sf,sm,sl,hs.at 4 rfl (o:=0) (n:=6) rfl,?_⟩;refine (valid23 exM sf sm sl h70 (hM.ext hs.ext)).mono ?_;rintro _ h79 ⟨⟨b,rfl,hb⟩,E⟩;exact⟨_,rfl,by rw[hb.2 exVM],E0.trans (hs.step E).ext⟩
end Go.VC
end

section
namespace Go.VC
open Go.Proofs Go.LexS
namespace M
end M
theorem mv_ext {x y:Mv} (c:((x.f==y.f)&&((x.send==y.send)&&((x.peer==y.peer)&&((x.label==y.label)&&((x.t==y.t)&&((x.ag==y.ag)&&true))))))=true):x=y:=by
 cases x;cases y;simp only[Bool.and_true,Yt,beq_iff_eq] at c;obtain⟨h1,h2,h3,h4,h5,h6⟩:=c;simp only[Mv.mk.injEq];exact⟨h1,h2,h3,h4,h5,h6⟩
theorem to_ext {x y:To} (c:((x.s==y.s)&&((x.k==y.k)&&((x.e==y.e)&&true)))=true):x=y:=by
 cases x;cases y;simp only[Bool.and_true,Yt,beq_iff_eq] at c;obtain⟨h1,h2,h3⟩:=c;simp only[To.mk.injEq];exact⟨h1,h2,h3⟩
theorem mch_ext {m k:Mch} (h1:m.role=k.role) (h2:m.n=k.n) (h3:m.s=k.s) (h4:m.fin=k.fin) (h5:m.mv=k.mv) (h6:m.li=k.li):m=k:=by
 cases m;cases k;simp only[Mch.mk.injEq];exact⟨h1,h2,h3,h4,h5,h6⟩
theorem same17 (m k:Mch) (sf sm sl tf tm tl:Sl) (h:Heap) (hM:MI h m sf sm sl) (hK:MI h k tf tm tl) :
  Fn Pz 17 #[.agg ⟨mC m sf sm sl⟩,.agg ⟨mC k tf tm tl⟩] h (RP (m=k) h):=by
 apply vc17 m.role m.n m.s sf sm sl k.role k.n k.s tf tm tl;unfold W17;have f1:=hM.pf.ln;have f2:=hK.pf.ln;have m1:=hM.pm.ln;have m2:=hK.pm.ln;have l1:=hM.pl.ln;have l2:=hK.pl.ln;have f3:=hM.pf.sm;have m3:=hM.pm.sm;have l3:=hM.pl.sm;refine (St.refl h).newb fun h13 hs=>?_;refine hs.newb fun h14 hs=>?_;refine⟨_,hs.rd 1 rfl rfl,_,hs.rd 0 rfl rfl,sBn (fun c1=>RP.f (fun e=>c1 (by rw[e])) hs.ext) (fun c1=>?_)⟩;refine⟨_,hs.rd 1 rfl rfl,_,hs.rd 0 rfl rfl,sBn (fun c2=>RP.f (fun e=>c2 (by rw[e])) hs.ext) (fun c2=>?_)⟩;refine⟨_,hs.rd 1 rfl rfl,_,hs.rd 0 rfl rfl,sBn (fun c3=>RP.f (fun e=>c3 (by rw[e])) hs.ext) (fun c3=>?_)⟩;refine⟨sf,hs.rd 1 rfl rfl,tf,hs.rd 0 rfl rfl,sBn (fun c4=>RP.f (fun e=>by rw[<-e] at f2;omega) hs.ext) (fun c4=>?_)⟩;refine⟨sm,hs.rd 1 rfl rfl,tm,hs.rd 0 rfl rfl,sBn (fun c5=>RP.f (fun e=>by rw[<-e] at m2;omega) hs.ext) (fun c5=>?_)⟩;refine⟨sl,hs.rd 1 rfl rfl,tl,hs.rd 0 rfl rfl,sBn (fun c6=>RP.f (fun e=>by rw[<-e] at l2;omega) hs.ext) (fun c6=>?_)⟩;have allEq:∀ {α:Type} {L K:List α} {n:Nat},n=L.length->n=K.length->(∀(j:Nat) x y,j<n->L[j]?=some x->K[j]?=some y->x=y)->L=K:=fun {α L K n} e1 e2 hq=>by
  refine Yyr fun i=>?_;by_cases hil:i<n
  .obtain⟨x,hx⟩:=get_some (l:=L) (i:=i) (by omega);obtain⟨y,hy⟩:=get_some (l:=K) (i:=i) (by omega);rw[hx,hy,hq i x y (by omega) hx hy]
  .rw[Yl (by omega),Yl (by omega)]
 refine up_loopS (n:=sf.n) hs (fun i=>∀(j:Nat) x y,j<i->m.fin[j]?=some x->k.fin[j]?=some y->x=y) (fun j x y hj=>by omega) ?_;clear hs;rintro-i h31 hi ⟨hs,hq⟩;refine⟨sf,hs.rd 1 rfl rfl,sB_intro (fun d=>?_) (fun d=>?_)⟩
 .replace d:=lt_t d;refine⟨sf,hs.rd 1 rfl rfl,?_⟩;refine (hM.pf.rw.ext hs.ext).nbI (by omega) (by omega) fun b34 o35 x gx t=>?_;replace gx:m.fin[i]?=some x:=gx;refine⟨_,t.hd,tf,hs.rd 0 rfl rfl,?_⟩;refine (hK.pf.rw.ext hs.ext).nbI (by omega) (by omega) fun b38 o39 y gy t2=>?_;replace gy:k.fin[i]?=some y:=gy;refine⟨_,t2.hd,sB_intro (fun c=>RP.f (fun e=>by rw[<-e,gx] at gy;cases gy;simp at c) hs.ext) (fun c=>Up.next d (by omega) ⟨hs,fun j x' y' hj hx hy=>?_⟩)⟩;by_cases e:j=i
  .subst e;rw[gx] at hx;rw[gy] at hy;cases hx;cases hy;simpa using c
  .exact hq j x' y' (by omega) hx hy
 have hF:m.fin=k.fin:=allEq f1 (by omega) fun j x y hj=>hq j x y (by have:=lt_f d;omega);clear hq;refine up_loopS (n:=sm.n) hs (fun i=>∀(j:Nat) x y,j<i->m.mv[j]?=some x->k.mv[j]?=some y->x=y) (fun j x y hj=>by omega) ?_;clear hs;rintro-i h46 hi ⟨hs,hq⟩;refine⟨sm,hs.rd 1 rfl rfl,sB_intro (fun d=>?_) (fun d=>?_)⟩
 .replace d:=lt_t d;refine⟨sm,hs.rd 1 rfl rfl,?_⟩;refine (hM.pm.rw.ext hs.ext).nbI (by omega) (by omega) fun b34 o35 x gx t=>?_;replace gx:m.mv[i]?=some x:=gx;refine⟨_,_,_,_,_,_,t,tm,hs.rd 0 rfl rfl,?_⟩;refine (hK.pm.rw.ext hs.ext).nbI (by omega) (by omega) fun b38 o39 y gy t2=>?_;replace gy:k.mv[i]?=some y:=gy;refine⟨_,_,_,_,_,_,t2,sB_intro (fun c=>RP.f (fun e=>by rw[<-e,gx] at gy;cases gy;simp at c) hs.ext) (fun c=>Up.next d (by omega) ⟨hs,fun j x' y' hj hx hy=>?_⟩)⟩;by_cases e:j=i
  .subst e;rw[gx] at hx;rw[gy] at hy;cases hx;cases hy;exact mv_ext (bT c)
  .exact hq j x' y' (by omega) hx hy
 have hG:m.mv=k.mv:=allEq m1 (by omega) fun j x y hj=>hq j x y (by have:=lt_f d;omega);clear hq;refine up_loopS (n:=sl.n) hs (fun i=>∀(j:Nat) x y,j<i->m.li[j]?=some x->k.li[j]?=some y->x=y) (fun j x y hj=>by omega) ?_;clear hs;rintro-i h71 hi ⟨hs,hq⟩;refine⟨sl,hs.rd 1 rfl rfl,sB_intro (fun d=>?_) (fun d=>?_)⟩
 .replace d:=lt_t d;refine⟨sl,hs.rd 1 rfl rfl,?_⟩;refine (hM.pl.rw.ext hs.ext).nbI (by omega) (by omega) fun b34 o35 x gx t=>?_;replace gx:m.li[i]?=some x:=gx;refine⟨_,_,_,t,tl,hs.rd 0 rfl rfl,?_⟩;refine (hK.pl.rw.ext hs.ext).nbI (by omega) (by omega) fun b38 o39 y gy t2=>?_;replace gy:k.li[i]?=some y:=gy;refine⟨_,_,_,t2,sB_intro (fun c=>RP.f (fun e=>by rw[<-e,gx] at gy;cases gy;simp at c) hs.ext) (fun c=>Up.next d (by omega) ⟨hs,fun j x' y' hj hx hy=>?_⟩)⟩;by_cases e:j=i
  .subst e;rw[gx] at hx;rw[gy] at hy;cases hx;cases hy;exact to_ext (bT c)
  .exact hq j x' y' (by omega) hx hy
 have hH:m.li=k.li:=allEq l1 (by omega) fun j x y hj=>hq j x y (by have:=lt_f d;omega);exact RP.t (mch_ext c1 c2 c3 hF hG hH) hs.ext
end Go.VC
end

section
namespace Go.VC
open Go.Proofs Go.LexS
def zigN (n:Int):Nat:=if 0<=n then (2*n).toNat else (-2*n-1).toNat
theorem zig_lt {n:Int} (h0:-9223372036854775808<=n) (h1:n<=9223372036854775807):zigN n<18446744073709551616:=by
 unfold zigN;split<;>omega
def venc (u:Nat):List Int:=if h:u<128 then [(u:Int)] else ((u%128+128:Nat):Int)::venc (u/128)
termination_by u
decreasing_by omega
theorem venc_lt {u:Nat} (h:u<128):venc u=[(u:Int)]:=by rw[venc,dif_pos h]
theorem venc_ge {u:Nat} (h:¬u<128):venc u=((u%128+128:Nat):Int)::venc (u/128):=by rw[venc,dif_neg h]
theorem venc_len:∀(k u:Nat),u<128^(k+1)->(venc u).length<=k+1
 | 0,u,h=>by rw[venc_lt (by simpa using h)];exact Yyt _
 | k+1,u,h=>by
  by_cases hu:u<128
  .rw[venc_lt hu];simp
  .rw[venc_ge hu,Yyj];have:=venc_len k (u/128) (by rw[Nat.div_lt_iff_lt_mul (by decide)];rw[Nat.pow_succ] at h;exact h);omega
theorem venc_byte:∀(u:Nat),∀x∈venc u,0<=x/\x<256:=by
 intro u
 induction u using Nat.strongRecOn with
 | ind u ih=>
  intro x hx;by_cases hu:u<128
  .rw[venc_lt hu,Ye] at hx;omega
  .rw[venc_ge hu,Yr] at hx;rcases hx with rfl | hx
   .omega
   .exact ih (u/128) (by omega) x hx
def I64 (n:Int):Prop:=-9223372036854775808<=n/\n<=9223372036854775807
def encI (n:Int):List Int:=venc (zigN n)
theorem encI_len {n:Int} (h:I64 n):(encI n).length<=10:=venc_len 9 _ (Nat.lt_of_lt_of_le (zig_lt h.1 h.2) (by decide))
theorem encI_byte {n:Int}:∀x∈encI n,0<=x/\x<256:=venc_byte _
theorem encI_pos {n:Int}:encI n≠[]:=by
 unfold encI;rw[venc];split<;>exact List.cons_ne_nil _ _
theorem flat_len {α:Type} {f:α->List Int} {c:Nat}:∀(X:List α),(∀a∈X,(f a).length<=c)->(X.flatMap f).length<=X.length*c
 | [],_=>Nat.zero_le _
 | a::X,h=>by
  rw[List.flatMap_cons,Yh,Yyj,Nat.succ_mul];have h1:=h a Yx;have h2:=flat_len X fun b hb=>h b (Yn _ hb);omega
theorem flat_byte {α:Type} {f:α->List Int} (hf:∀a,∀x∈f a,0<=x/\x<256) (X:List α):∀x∈X.flatMap f,0<=x/\x<256:=fun x hx=>by
 obtain⟨a,_,h⟩:=List.mem_flatMap.1 hx;exact hf a x h
theorem zig_bits {n:Int} (h:I64 n):xorI .u64 (shlI .u64 (IntKind.wrap .u64 n) 1) (IntKind.wrap .u64 (shrI .i64 n 63))=(zigN n:Int):=by
 obtain⟨h0,h1⟩:=h;have e63:min (Int.toNat 63) (IntKind.bits .i64)=63:=by decide
 have e1:min (Int.toNat 1) (IntKind.bits .u64)=1:=by decide
 have es:shrI .i64 n 63=n/9223372036854775808:=by
  unfold shrI;rw[e63,Int.fdiv_eq_ediv_of_nonneg _ (by decide)];rfl
 have ex:∀a b:Nat,a<2^64->b<2^64->xorI .u64 (a:Int) (b:Int)=((a ^^^ b:Nat):Int):=fun a b ha hb=>by
  unfold xorI;have e:(BitVec.ofInt (IntKind.bits .u64) (a:Int) ^^^ BitVec.ofInt (IntKind.bits .u64) (b:Int)).toNat=a ^^^ b:=by
   show (BitVec.ofInt 64 (a:Int) ^^^ BitVec.ofInt 64 (b:Int)).toNat=_;rw[BitVec.ofInt_natCast,BitVec.ofInt_natCast,BitVec.toNat_xor,BitVec.toNat_ofNat,BitVec.toNat_ofNat,Nat.mod_eq_of_lt ha,Nat.mod_eq_of_lt hb]
  rw[e];have:=Nat.xor_lt_two_pow ha hb;exact wu64 (by omega) (by omega)
 rw[es];unfold shlI;rw[e1];by_cases hn:0<=n
 .have ez:n/9223372036854775808=0:=by omega
  rw[ez,wu64 (n:=n) hn (by omega),show n*2^1=2*n by omega,wu64 (n:=2*n) (by omega) (by omega),wu64 (n:=0) (by decide) (by decide)];obtain⟨m,rfl⟩:∃m:Nat,n=(m:Int):=⟨n.toNat,by omega⟩;rw[show (2:Int)*(m:Int)=((2*m:Nat):Int) by omega];have:=ex (2*m) 0 (by omega) (by decide);rw[Nat.xor_zero] at this;unfold zigN;rw[if_pos hn];refine this.trans ?_;omega
 .have ez:n/9223372036854775808=-1:=by omega
  have ew:IntKind.wrap .u64 n=n+18446744073709551616:=by
   simp[IntKind.wrap,IntKind.signed,IntKind.bits];omega
  have ew2:IntKind.wrap .u64 ((n+18446744073709551616)*2^1)=2*n+18446744073709551616:=by
   simp[IntKind.wrap,IntKind.signed,IntKind.bits];omega
  have ew3:IntKind.wrap .u64 (-1)=((18446744073709551615:Nat):Int):=by decide
  rw[ez,ew,ew2,ew3];obtain⟨m,hm⟩:∃m:Nat,2*n+18446744073709551616=(m:Int):=⟨(2*n+18446744073709551616).toNat,by omega⟩;rw[hm,ex m 18446744073709551615 (by omega) (by decide)];have hx:m ^^^ 18446744073709551615=18446744073709551615-m:=by
   have h2:(BitVec.ofNat 64 m ^^^ BitVec.allOnes 64).toNat=(~~~ (BitVec.ofNat 64 m)).toNat:=by rw[BitVec.xor_allOnes]
   rw[BitVec.toNat_xor,BitVec.toNat_not,BitVec.toNat_allOnes,BitVec.toNat_ofNat,Nat.mod_eq_of_lt (show m<2^64 by omega)] at h2;exact h2
  rw[hx];unfold zigN;rw[if_neg hn];omega
theorem or128 {b:Nat} (h:b<256):b|||128=b%128+128:=by
 have key:∀b<256,b|||128=b%128+128:=by decide
 exact key b h
theorem or_bits {u:Nat}:orI .u8 (IntKind.wrap .u8 (u:Int)) 128=((u%128+128:Nat):Int):=by
 have ew:IntKind.wrap .u8 (u:Int)=((u%256:Nat):Int):=by
  simp[IntKind.wrap,IntKind.signed,IntKind.bits]
 rw[ew];unfold orI;have e:(BitVec.ofInt (IntKind.bits .u8) ((u%256:Nat):Int)|||BitVec.ofInt (IntKind.bits .u8) 128).toNat=u%128+128:=by
  show (BitVec.ofInt 8 ((u%256:Nat):Int)|||BitVec.ofInt 8 ((128:Nat):Int)).toNat=_;rw[BitVec.ofInt_natCast,BitVec.ofInt_natCast,BitVec.toNat_or,BitVec.toNat_ofNat,BitVec.toNat_ofNat,Nat.mod_eq_of_lt (show u%256<2^8 by omega),Nat.mod_eq_of_lt (show 128<2^8 by decide),or128 (by omega)];omega
 rw[e];exact wu8 (by omega) (by omega)
theorem shr7 {u:Nat}:shrI .u64 (u:Int) 7=((u/128:Nat):Int):=by
 have:=shr_nat (w:=u) (k:=7) (by decide);exact this
def rdU:Nat->Bool->List Int->Option (Nat × List Int)
 | 0,_,_=>none
 | _+1,_,[]=>none
 | k+1,fst,c::r=>if c<128 then (if (c=0/\fst=false)\/(k=0/\1<c) then none else some (c.toNat,r)) else (rdU k false r).map fun q=>(c.toNat-128+128*q.1,q.2)
theorem rdU_venc:∀(k u:Nat) (fst:Bool) (r:List Int),u<2*128^k->(u=0->fst=true)->rdU (k+1) fst (venc u++r)=some (u,r):=by
 intro k
 induction k with
 | zero=>
  intro u fst r h h0;rw[venc_lt (by omega),List.cons_append,List.nil_append];unfold rdU;rw[if_pos (by omega),if_neg]
  .rfl
  .rintro (⟨a,b⟩ | ⟨a,b⟩)
   .rw[h0 (by omega)] at b;cases b
   .omega
 | succ k ih=>
  intro u fst r h h0;by_cases hu:u<128
  .rw[venc_lt hu,List.cons_append,List.nil_append];unfold rdU;rw[if_pos (by omega),if_neg]
   .rfl
   .rintro (⟨a,b⟩ | ⟨a,b⟩)
    .rw[h0 (by omega)] at b;cases b
    .cases a
  .rw[venc_ge hu,List.cons_append];unfold rdU;rw[if_neg (by omega),ih (u/128) false r (by rw[Nat.pow_succ] at h;omega) (fun e=>by omega)];simp only[Option.map_some,Option.some.injEq,Prod.mk.injEq,and_true];omega
def zag (u:Nat):Int:=if u%2=0 then ((u/2:Nat):Int) else -((u/2:Nat):Int)-1
theorem zag_zig (n:Int):zag (zigN n)=n:=by
 unfold zag zigN;split<;>split<;>omega
def rIq (l:List Int):Option (Int × List Int):=(rdU 10 true l).map fun q=>(zag q.1,q.2)
theorem rI_enc {n:Int} (hn:I64 n) (r:List Int):rIq (encI n++r)=some (n,r):=by
 unfold rIq encI;rw[rdU_venc 9 (zigN n) true r (Nat.lt_of_lt_of_le (zig_lt hn.1 hn.2) (by decide)) (fun _=>rfl)];simp only[Option.map_some,zag_zig]
def rMany {α:Type} (f:List Int->Option (α × List Int)):Nat->List Int->Option (List α × List Int)
 | 0,l=>some ([],l)
 | n+1,l=>(rMany f n l).bind fun p=>(f p.2).map fun q=>(p.1++[q.1],q.2)
theorem rMany_lng {α:Type} {f:List Int->Option (α × List Int)} {l:List Int}:∀ {n:Nat} {X:List α} {r:List Int},rMany f n l=some (X,r)->X.length=n
 | 0,X,r,h=>by unfold rMany at h;injection h with h;injection h with h1 h2;rw[<-h1];rfl
 | n+1,X,r,h=>by
  unfold rMany at h;rcases hq:rMany f n l with _ | ⟨Y,s⟩
  .rw[hq] at h;cases h
  .rw[hq] at h;rcases ht:f s with _ | ⟨a,t⟩
   .simp[ht] at h
   .simp only[Option.bind_some,ht,Option.map_some] at h;injection h with h;injection h with h1 h2;rw[<-h1,Yh,rMany_lng hq];rfl
theorem rMany_enc {α:Type} {f:List Int->Option (α × List Int)} {g:α->List Int} {ok:α->Bool} {X:List α} (hf:∀a∈X,∀r,f (g a++r)=if ok a then some (a,r) else none) (r:List Int) :
  ∀i,i<=X.length->rMany f i (X.flatMap g++r)=if (X.take i).all ok then some (X.take i,(X.drop i).flatMap g++r) else none:=by
 intro i
 induction i with
 | zero=>intro _;rfl
 | succ i ih=>
  intro hi;obtain⟨a,ha⟩:∃a,X[i]?=some a:=⟨X[i],Yi (by omega)⟩;unfold rMany;rw[ih (by omega),take_snoc ha,List.all_append];have hd:X.drop i=a::X.drop (i+1):=by
   obtain⟨h1,h2⟩:=Ya.1 ha;rw[List.drop_eq_getElem_cons h1,h2]
  cases hb:(X.take i).all ok with
  | false=>rfl
  | true=>
   rw[if_pos rfl,hd,List.flatMap_cons,Yz];simp only[Option.bind_some,hf a (Yb ha),List.all_cons,List.all_nil,Bool.and_true,Bool.true_and];cases ok a<;>simp
theorem rMany_all {α:Type} {f:List Int->Option (α × List Int)} {g:α->List Int} {ok:α->Bool} {X:List α} (hf:∀a∈X,∀r,f (g a++r)=if ok a then some (a,r) else none) (r:List Int) :
  rMany f X.length (X.flatMap g++r)=if X.all ok then some (X,r) else none:=by
 rw[rMany_enc hf r X.length (Yyt _),Yye,List.drop_length];rfl
def fnvS (h c:Nat):Nat:=(1099511628211*(h ^^^ c))%18446744073709551616
def fnv (h:Nat) (l:List Int):Nat:=l.foldl (fun h c=>fnvS h c.toNat) h
def hsh (l:List Int):Nat:=fnv 14695981039346656037 l
theorem fnvS_lt (h c:Nat):fnvS h c<18446744073709551616:=Nat.mod_lt _ (by decide)
theorem fnv_lt:∀(l:List Int) (h:Nat),h<18446744073709551616->fnv h l<18446744073709551616
 | [],_,hh=>hh
 | c::l,h,_=>fnv_lt l (fnvS h c.toNat) (fnvS_lt _ _)
theorem hsh_lt (l:List Int):hsh l<18446744073709551616:=fnv_lt l _ (by decide)
theorem fnv_app (h:Nat) (l m:List Int):fnv h (l++m)=fnv (fnv h l) m:=List.foldl_append
theorem fnv_snoc (h:Nat) (l:List Int) (m:Nat):fnv h (l++[(m:Int)])=fnvS (fnv h l) m:=by
 rw[fnv_app];simp only[fnv,List.foldl_cons,List.foldl_nil,Ys]
theorem odd_inj {a b:Nat} (ha:a<18446744073709551616) (hb:b<18446744073709551616) (h:1099511628211*a%18446744073709551616=1099511628211*b%18446744073709551616):a=b:=by
 rw[Nat.mul_comm _ a,Nat.mul_comm _ b] at h;have key:∀x:Nat,x<18446744073709551616->(x*1099511628211%18446744073709551616)*14886173955864302971%18446744073709551616=x:=fun x hx=>by
  rw[Nat.mod_mul_mod,Nat.mul_assoc,show 1099511628211*14886173955864302971=18446744073709551616*887285111055+1 from by decide,Nat.mul_add,Nat.mul_one,Nat.add_comm,Nat.mul_left_comm,Nat.add_mul_mod_self_left,Nat.mod_eq_of_lt hx]
 rw[<-key a ha,<-key b hb,h]
theorem xor_c {a b c:Nat} (h:a ^^^ c=b ^^^ c):a=b:=by
 have:=congrArg (· ^^^ c) h;simpa [Nat.xor_assoc] using this
theorem c_xor {a b c:Nat} (h:c ^^^ a=c ^^^ b):a=b:=xor_c (c:=c) (by rw[Nat.xor_comm a,Nat.xor_comm b];exact h)
theorem fnvS_injH {a b c:Nat} (ha:a<18446744073709551616) (hb:b<18446744073709551616) (hc:c<256) (h:fnvS a c=fnvS b c):a=b:=
 xor_c (odd_inj (Nat.xor_lt_two_pow (n:=64) ha (by omega)) (Nat.xor_lt_two_pow (n:=64) hb (by omega)) h)
theorem fnvS_injC {a b c:Nat} (hc:c<18446744073709551616) (ha:a<256) (hb:b<256) (h:fnvS c a=fnvS c b):a=b:=
 c_xor (odd_inj (Nat.xor_lt_two_pow (n:=64) hc (by omega)) (Nat.xor_lt_two_pow (n:=64) hc (by omega)) h)
def Byt (l:List Int):Prop:=∀x∈l,0<=x/\x<256
theorem fnv_injH:∀(l:List Int) {a b:Nat},Byt l->a<18446744073709551616->b<18446744073709551616->fnv a l=fnv b l->a=b
 | [],a,b,_,_,_,h=>h
 | c::l,a,b,hl,ha,hb,h=>by
  have hc:=hl c Yx;exact fnvS_injH ha hb (c:=c.toNat) (by omega) (fnv_injH l (fun x hx=>hl x (Yn _ hx)) (fnvS_lt _ _) (fnvS_lt _ _) h)
theorem hsh_set {l:List Int} (hl:Byt l) {k:Nat} {x y:Int} (hx:l[k]?=some x) (hy:0<=y/\y<256) (hne:y≠x):hsh (l.set k y)≠hsh l:=by
 obtain⟨hk,he⟩:=Ya.1 hx;have e1:l=l.take k++x::l.drop (k+1):=by
  rw[<-he,<-List.drop_eq_getElem_cons hk,List.take_append_drop]
 have e2:l.set k y=l.take k++y::l.drop (k+1):=List.set_eq_take_append_cons_drop.trans (if_pos hk);have hb:=hl x (Yb hx);intro h;rw[e2] at h
 conv at h=>rhs;rw[e1]
 unfold hsh at h;rw[fnv_app,fnv_app] at h;have h2:=fnv_injH (l.drop (k+1)) (a:=fnvS _ y.toNat) (b:=fnvS _ x.toNat) (fun z hz=>hl z (List.mem_of_mem_drop hz)) (fnvS_lt _ _) (fnvS_lt _ _) h;have h3:=fnvS_injC (fnv_lt (l.take k) _ (by decide)) (by omega) (by omega) h2;omega
def eight (u:Nat):List Int:=[((u/72057594037927936%256:Nat):Int),((u/281474976710656%256:Nat):Int),((u/1099511627776%256:Nat):Int),((u/4294967296%256:Nat):Int),
 ((u/16777216%256:Nat):Int),((u/65536%256:Nat):Int),((u/256%256:Nat):Int),((u%256:Nat):Int)]
theorem eight_inj {u v:Nat} (hu:u<18446744073709551616) (hv:v<18446744073709551616) (h:eight u=eight v):u=v:=by
 unfold eight at h;simp only[List.cons.injEq,and_true] at h;omega
theorem eight_byt (u:Nat):Byt (eight u):=fun x hx=>by
 unfold eight at hx;simp only[Yr,List.not_mem_nil,or_false] at hx;omega
def sealB (b:List Int):List Int:=b++eight (hsh b)
theorem rdU_conv:∀(k:Nat) (fst:Bool) (l:List Int) (u:Nat) (r:List Int),Byt l->rdU k fst l=some (u,r)->l=venc u++r/\(u=0->fst=true)/\u<2*128^(k-1)
 | 0,_,l,u,r,_,h=>by unfold rdU at h;cases h
 | k+1,_,[],u,r,_,h=>by unfold rdU at h;cases h
 | k+1,fst,c::l,u,r,hb,h=>by
  have hc:=hb c Yx;unfold rdU at h;split at h
  .rename_i hlt;split at h
   .cases h
   .rename_i hno;injection h with h;injection h with h1 h2;subst h1 h2;rw[venc_lt (by omega)];refine⟨by rw[Int.toNat_of_nonneg hc.1];rfl,fun e=>?_,?_⟩
    .cases fst with
     | true=>rfl
     | false=>exact absurd (Or.inl ⟨by omega,rfl⟩) hno
    .show c.toNat<2*128^k;cases k with
     | zero=>
      have:¬1<c:=fun h=>hno (Or.inr ⟨rfl,h⟩);omega
     | succ k=>
      have:1<=128^k:=Nat.pow_pos (by decide);rw[Nat.pow_succ];omega
  .rename_i hge;rcases hq:rdU k false l with _ | ⟨u',r'⟩
   .rw[hq] at h;cases h
   .rw[hq] at h;injection h with h;injection h with h1 h2;obtain⟨e,h0,hlt⟩:=rdU_conv k false l u' r' (fun x hx=>hb x (Yn _ hx)) hq;have h0':u'≠0:=fun e=>by have:=h0 e;cases this
    replace h1:c.toNat-128+128*u'=u:=h1;replace h2:r'=r:=h2;have hge2:¬u<128:=by omega
    refine⟨?_,fun e=>by omega,?_⟩
    .rw[venc_ge hge2,show u/128=u' by omega,e,h2];show _=((u%128+128:Nat):Int)::(venc u'++r);rw[show ((u%128+128:Nat):Int)=c by omega]
    .show u<2*128^k;cases k with
     | zero=>unfold rdU at hq;cases hq
     | succ k=>
      have hlt:u'<2*128^k:=hlt;rw[Nat.pow_succ];omega
theorem zig_zag (u:Nat):zigN (zag u)=u:=by
 unfold zag zigN;split<;>split<;>omega
theorem rI_conv {l r:List Int} {n:Int} (hb:Byt l) (h:rIq l=some (n,r)):l=encI n++r/\I64 n:=by
 unfold rIq at h;rcases hq:rdU 10 true l with _ | ⟨u,r'⟩
 .rw[hq] at h;cases h
 .rw[hq] at h;injection h with h;injection h with h1 h2;obtain⟨e,_,hlt⟩:=rdU_conv _ _ _ _ _ hb hq;replace h1:zag u=n:=h1;replace h2:r'=r:=h2;subst h1 h2;have e9:2*128^(10-1)=18446744073709551616:=by decide
  rw[e9] at hlt;refine⟨by unfold encI;rw[zig_zag];exact e,?_⟩;unfold zag I64;split<;>constructor<;>omega
theorem rMany_conv {α:Type} {f:List Int->Option (α × List Int)} {g:α->List Int} (hf:∀l a r,Byt l->f l=some (a,r)->l=g a++r) {l:List Int} (hb:Byt l):∀ {n:Nat} {X:List α} {r:List Int},rMany f n l=some (X,r)->l=X.flatMap g++r
 | 0,X,r,h=>by unfold rMany at h;injection h with h;injection h with h1 h2;rw[<-h1,h2];rfl
 | n+1,X,r,h=>by
  unfold rMany at h;rcases hq:rMany f n l with _ | ⟨Y,s⟩
  .rw[hq] at h;cases h
  .rw[hq] at h;simp only[Option.bind_some] at h;rcases ht:f s with _ | ⟨a,t⟩
   .rw[ht] at h;cases h
   .rw[ht] at h;injection h with h;injection h with h1 h2;have e:=rMany_conv hf hb hq;have hs:Byt s:=fun x hx=>hb x (by rw[e];exact List.mem_append_right _ hx);have e2:=hf s a t hs ht;replace h1:Y++[a]=X:=h1;replace h2:t=r:=h2;rw[<-h1,List.flatMap_append,List.flatMap_cons,List.flatMap_nil,Yw,Yz,<-h2,<-e2];exact e
end Go.VC
end

section
namespace Go.VC
open Go.Proofs Go.LexS
def encB (b:Bool):List Int:=[if b then 1 else 0]
def rBo:List Int->Option (Bool × List Int)
 | []=>none
 | c::r=>if c<=1 then some (c==1,r) else none
theorem rBo_enc (b:Bool) (r:List Int):rBo (encB b++r)=some (b,r):=by
 cases b<;>rfl
theorem rBo_conv {l r:List Int} {b:Bool} (hb:Byt l) (h:rBo l=some (b,r)):l=encB b++r:=by
 cases l with
 | nil=>cases h
 | cons c l=>
  have hc:=hb c Yx;replace h:(if c<=1 then some (c==1,l) else none)=some (b,r):=h;split at h
  .injection h with h;injection h with h1 h2;subst h1;subst h2;rcases (show c=0\/c=1 by omega) with rfl | rfl<;>rfl
  .cases h
theorem encB_byt (b:Bool):∀x∈encB b,0<=x/\x<256:=by
 cases b<;>intro x hx<;>simp[encB] at hx<;>omega
theorem encB_len (b:Bool):(encB b).length=1:=rfl
def rBd (lo hi:Int) (l:List Int):Option (Int × List Int):=(rIq l).bind fun q=>if lo<=q.1/\q.1<=hi then some q else none
theorem rBd_enc {n lo hi:Int} (hn:I64 n) (h:lo<=n/\n<=hi) (r:List Int):rBd lo hi (encI n++r)=some (n,r):=by
 unfold rBd;rw[rI_enc hn];exact if_pos h
theorem rBd_conv {l r:List Int} {n lo hi:Int} (hb:Byt l) (h:rBd lo hi l=some (n,r)):l=encI n++r/\lo<=n/\n<=hi:=by
 unfold rBd at h;rcases hq:rIq l with _ | t
 .rw[hq] at h;cases h
 .rw[hq] at h;simp only[Option.bind_some] at h;split at h
  .rename_i hc;injection h with h;subst h;exact⟨(rI_conv hb hq).1,hc⟩
  .cases h
theorem rBd_le {l:List Int} {q:Int × List Int} {lo hi:Int} (h:rBd lo hi l=some q):lo<=q.1/\q.1<=hi:=by
 unfold rBd at h;rcases hq:rIq l with _ | t
 .rw[hq] at h;cases h
 .rw[hq] at h;simp only[Option.bind_some] at h;split at h
  .rename_i hc;injection h with h;rw[<-h];exact hc
  .cases h
theorem Byt.rest {l p r:List Int} (h:Byt l) (e:l=p++r):Byt r:=fun x hx=>h x (by rw[e];exact List.mem_append_right _ hx)
/-! ### moves, timeouts -/
def encMv (x:Mv):List Int:=encI x.f++(encB x.send++(encI x.peer++(encI x.label++(encI x.t++encB x.ag))))
def rMv (l:List Int):Option (Mv × List Int):=(rIq l).bind fun a=>(rBo a.2).bind fun b=>(rIq b.2).bind fun c=>(rIq c.2).bind fun d=>(rIq d.2).bind fun e=>(rBo e.2).map fun g=>(⟨a.1,b.1,c.1,d.1,e.1,g.1⟩,g.2)
structure I64M (x:Mv):Prop where
 f:I64 x.f
 p:I64 x.peer
 l:I64 x.label
 t:I64 x.t
theorem rMv_enc {x:Mv} (h:I64M x) (r:List Int):rMv (encMv x++r)=some (x,r):=by
 unfold rMv encMv;simp only[Yz,rI_enc h.f,rI_enc h.p,rI_enc h.l,rI_enc h.t,rBo_enc,Option.bind_some,Option.map_some]
theorem rMv_conv (l:List Int) (x:Mv) (r:List Int) (hb:Byt l) (h:rMv l=some (x,r)):l=encMv x++r:=by
 unfold rMv at h;rcases h1:rIq l with _ | ⟨a,l1⟩
 .rw[h1] at h;cases h
 rw[h1,Option.bind_some] at h;rcases h2:rBo l1 with _ | ⟨b,l2⟩
 .simp[h2] at h
 simp only[h2,Option.bind_some] at h;rcases h3:rIq l2 with _ | ⟨c,l3⟩
 .simp[h3] at h
 simp only[h3,Option.bind_some] at h;rcases h4:rIq l3 with _ | ⟨d,l4⟩
 .simp[h4] at h
 simp only[h4,Option.bind_some] at h;rcases h5:rIq l4 with _ | ⟨e,l5⟩
 .simp[h5] at h
 simp only[h5,Option.bind_some] at h;rcases h6:rBo l5 with _ | ⟨g,l6⟩
 .simp[h6] at h
 simp only[h6,Option.map_some,Option.some.injEq,Prod.mk.injEq] at h;obtain⟨rfl,rfl⟩:=h;have e1:=(rI_conv hb h1).1;have b1:=hb.rest e1;have e2:=rBo_conv b1 h2;have b2:=b1.rest e2;have e3:=(rI_conv b2 h3).1;have b3:=b2.rest e3;have e4:=(rI_conv b3 h4).1;have b4:=b3.rest e4;have e5:=(rI_conv b4 h5).1;have b5:=b4.rest e5;have e6:=rBo_conv b5 h6;unfold encMv;simp only[Yz];rw[<-e6,<-e5,<-e4,<-e3,<-e2,<-e1]
theorem encMv_byt (x:Mv):∀y∈encMv x,0<=y/\y<256:=fun y hy=>by
 unfold encMv at hy;simp only[Yk] at hy;rcases hy with h | h | h | h | h | h
 .exact encI_byte y h
 .exact encB_byt _ y h
 .exact encI_byte y h
 .exact encI_byte y h
 .exact encI_byte y h
 .exact encB_byt _ y h
theorem encMv_len {x:Mv} (h:I64M x):(encMv x).length<=42:=by
 unfold encMv;simp only[Yh,encB_len];have h1:=encI_len h.f;have h2:=encI_len h.p;have h3:=encI_len h.l;have h4:=encI_len h.t;omega
def encTo (x:To):List Int:=encI x.s++(encI x.k++encI x.e)
def rTo (l:List Int):Option (To × List Int):=(rIq l).bind fun a=>(rIq a.2).bind fun b=>(rIq b.2).map fun c=>(⟨a.1,b.1,c.1⟩,c.2)
structure I64To (x:To):Prop where
 s:I64 x.s
 k:I64 x.k
 e:I64 x.e
theorem rTo_enc {x:To} (h:I64To x) (r:List Int):rTo (encTo x++r)=some (x,r):=by
 unfold rTo encTo;simp only[Yz,rI_enc h.s,rI_enc h.k,rI_enc h.e,Option.bind_some,Option.map_some]
theorem rTo_conv (l:List Int) (x:To) (r:List Int) (hb:Byt l) (h:rTo l=some (x,r)):l=encTo x++r:=by
 unfold rTo at h;rcases h1:rIq l with _ | ⟨a,l1⟩
 .rw[h1] at h;cases h
 rw[h1,Option.bind_some] at h;rcases h2:rIq l1 with _ | ⟨b,l2⟩
 .simp[h2] at h
 simp only[h2,Option.bind_some] at h;rcases h3:rIq l2 with _ | ⟨c,l3⟩
 .simp[h3] at h
 simp only[h3,Option.map_some,Option.some.injEq,Prod.mk.injEq] at h;obtain⟨rfl,rfl⟩:=h;have e1:=(rI_conv hb h1).1;have b1:=hb.rest e1;have e2:=(rI_conv b1 h2).1;have b2:=b1.rest e2;have e3:=(rI_conv b2 h3).1;unfold encTo;simp only[Yz];rw[<-e3,<-e2,<-e1]
theorem encTo_byt (x:To):∀y∈encTo x,0<=y/\y<256:=fun y hy=>by
 unfold encTo at hy;simp only[Yk] at hy;rcases hy with h | h | h
 .exact encI_byte y h
 .exact encI_byte y h
 .exact encI_byte y h
theorem encTo_len {x:To} (h:I64To x):(encTo x).length<=30:=by
 unfold encTo;simp only[Yh];have h1:=encI_len h.s;have h2:=encI_len h.k;have h3:=encI_len h.e;omega
/-! ### machines -/
def encM (m:Mch):List Int:=encI m.role++encI m.n++encI m.s++m.fin.flatMap encB++encI m.mv.length++m.mv.flatMap encMv++encI m.li.length++m.li.flatMap encTo
def rHd (l:List Int):Option ((Int × Int × Int) × List Int):=(rIq l).bind fun a=>(rBd 1 200 a.2).bind fun b=>(rIq b.2).map fun c=>((a.1,b.1,c.1),c.2)
def rMc (l:List Int):Option (Mch × List Int):=(rHd l).bind fun a=>(rMany rBo a.1.2.1.toNat a.2).bind fun b=>(rBd 0 400 b.2).bind fun c=>(rMany rMv c.1.toNat c.2).bind fun d=>(rBd 0 200 d.2).bind fun e=>(rMany rTo e.1.toNat e.2).map fun g=>
 (⟨a.1.1,a.1.2.1,a.1.2.2,b.1,d.1,g.1⟩,g.2)
structure I64Mc (m:Mch):Prop where
 r:I64 m.role
 s:I64 m.s
 n:1<=m.n/\m.n<=200
 f:(m.fin.length:Int)=m.n
 l:m.li.length<=200/\∀x∈m.li,I64To x
 m:m.mv.length<=400/\∀x∈m.mv,I64M x
theorem rMany_ok {α:Type} {f:List Int->Option (α × List Int)} {g:α->List Int} {X:List α} (hf:∀a∈X,∀r,f (g a++r)=some (a,r)) (r:List Int):rMany f X.length (X.flatMap g++r)=some (X,r):=by
 have:=rMany_all (f:=f) (g:=g) (ok:=fun _=>true) (X:=X) (fun a ha r=>by rw[if_pos rfl];exact hf a ha r) r
 rwa [if_pos (List.all_eq_true.2 fun _ _=>rfl)] at this
theorem I64.nat {n:Nat} (h:n<=1000000):I64 (n:Int):=⟨by omega,by omega⟩
theorem rMc_enc {m:Mch} (h:I64Mc m) (r:List Int):rMc (encM m++r)=some (m,r):=by
 have hn:=h.n;have hf:=h.f;have e1:rHd (encM m++r)=some ((m.role,m.n,m.s),m.fin.flatMap encB++(encI m.mv.length++(m.mv.flatMap encMv++(encI m.li.length++(m.li.flatMap encTo++r))))):=by
  unfold rHd encM;simp only[Yz,rI_enc h.r,Option.bind_some,rBd_enc (n:=m.n) ⟨by omega,by omega⟩ hn,rI_enc h.s,Option.map_some]
 have e2:=rMany_ok (f:=rBo) (g:=encB) (X:=m.fin) (fun a _ r=>rBo_enc a r);have e3:=rMany_ok (f:=rMv) (g:=encMv) (X:=m.mv) (fun a ha r=>rMv_enc (h.m.2 a ha) r);have e4:=rMany_ok (f:=rTo) (g:=encTo) (X:=m.li) (fun a ha r=>rTo_enc (h.l.2 a ha) r);have hm:=h.m.1;have hl:=h.l.1;unfold rMc;rw[e1,Option.bind_some];show Option.bind (rMany rBo m.n.toNat _) _=_;rw[show m.n.toNat=m.fin.length by omega,e2,Option.bind_some,rBd_enc (I64.nat (by omega)) ⟨by omega,by omega⟩,Option.bind_some];show Option.bind (rMany rMv m.mv.length _) _=_;rw[e3,Option.bind_some,rBd_enc (I64.nat (by omega)) ⟨by omega,by omega⟩,Option.bind_some];show Option.map _ (rMany rTo m.li.length _)=_;rw[e4];rfl
theorem rMc_conv {l r:List Int} {m:Mch} (hb:Byt l) (h:rMc l=some (m,r)):l=encM m++r:=by
 unfold rMc rHd at h;rcases h1:rIq l with _ | ⟨a,l1⟩
 .simp[h1] at h
 simp only[h1,Option.bind_some] at h;rcases h2:rBd 1 200 l1 with _ | ⟨b,l2⟩
 .simp[h2] at h
 simp only[h2,Option.bind_some] at h;rcases h3:rIq l2 with _ | ⟨c,l3⟩
 .simp[h3] at h
 simp only[h3,Option.map_some,Option.bind_some] at h;rcases h4:rMany rBo b.toNat l3 with _ | ⟨F,l4⟩
 .simp[h4] at h
 simp only[h4,Option.bind_some] at h;rcases h5:rBd 0 400 l4 with _ | ⟨d,l5⟩
 .simp[h5] at h
 simp only[h5,Option.bind_some] at h;rcases h6:rMany rMv d.toNat l5 with _ | ⟨M,l6⟩
 .simp[h6] at h
 simp only[h6,Option.bind_some] at h;rcases h7:rBd 0 200 l6 with _ | ⟨e,l7⟩
 .simp[h7] at h
 simp only[h7,Option.bind_some] at h;rcases h8:rMany rTo e.toNat l7 with _ | ⟨T,l8⟩
 .simp[h8] at h
 simp only[h8,Option.map_some,Option.some.injEq,Prod.mk.injEq] at h;obtain⟨rfl,rfl⟩:=h;have e1:=(rI_conv hb h1).1;have b1:=hb.rest e1;have e2:=(rBd_conv b1 h2).1;have b2:=b1.rest e2;have e3:=(rI_conv b2 h3).1;have b3:=b2.rest e3;have e4:=rMany_conv (g:=encB) (fun l a r hb h=>rBo_conv hb h) b3 h4;have b4:=b3.rest e4;obtain⟨e5,d0,_⟩:=rBd_conv b4 h5;have b5:=b4.rest e5;have e6:=rMany_conv (g:=encMv) rMv_conv b5 h6;have b6:=b5.rest e6;obtain⟨e7,t0,_⟩:=rBd_conv b6 h7;have b7:=b6.rest e7;have e8:=rMany_conv (g:=encTo) rTo_conv b7 h8;have n6:=rMany_lng h6;have n8:=rMany_lng h8;unfold encM;simp only[Yz];rw[n6,n8,Int.toNat_of_nonneg d0,Int.toNat_of_nonneg t0,<-e8,<-e7,<-e6,<-e5,<-e4,<-e3,<-e2,<-e1]
theorem encM_byt (m:Mch):Byt (encM m):=fun x hx=>by
 unfold encM at hx;simp only[Yk,or_assoc] at hx;rcases hx with h | h | h | h | h | h | h | h
 .exact encI_byte x h
 .exact encI_byte x h
 .exact encI_byte x h
 .exact flat_byte encB_byt _ x h
 .exact encI_byte x h
 .exact flat_byte encMv_byt _ x h
 .exact encI_byte x h
 .exact flat_byte encTo_byt _ x h
theorem encM_len {m:Mch} (h:I64Mc m):(encM m).length<=24000:=by
 have hn:=h.n;have hf:=h.f;have h1:=encI_len h.r;have h2:=encI_len (n:=m.n) ⟨by omega,by omega⟩;have h3:=encI_len h.s;have h4:=encI_len (I64.nat (n:=m.mv.length) (by have:=h.m.1;omega));have h5:=encI_len (I64.nat (n:=m.li.length) (by have:=h.l.1;omega));have h6:=flat_len (f:=encB) (c:=1) m.fin fun b _=>Yyt 1;have h7:=flat_len (f:=encMv) (c:=42) m.mv fun x hx=>encMv_len (h.m.2 x hx);have h8:=flat_len (f:=encTo) (c:=30) m.li fun x hx=>encTo_len (h.l.2 x hx);have h9:=h.m.1;have h0:=h.l.1;unfold encM;simp only[Yh];omega
/-! ### the sealed form -/
def magicM:List Int:=[70,82,68,77,49]
def bodyM (m:Mch):List Int:=magicM++encM m
theorem bodyM_byt (m:Mch):Byt (bodyM m):=fun x hx=>by
 unfold bodyM at hx;rcases Yk.1 hx with h | h
 .have key:∀y∈magicM,0<=y/\y<256:=by decide
  exact key x h
 .exact encM_byt m x h
theorem bodyM_len {m:Mch} (h:I64Mc m):(bodyM m).length<=24005:=by
 have:=encM_len h;unfold bodyM;rw[Yh];have e:magicM.length=5:=rfl;omega
def mZ:Mch:=⟨0,0,0,[],[],[]⟩
open Classical in
noncomputable def decM (b:List Int):Int × Mch:=
 if b.length<13\/b.take 5≠magicM then (4,mZ) else
 if eight (hsh (b.take (b.length-8)))≠b.drop (b.length-8) then (5,mZ) else
 match rMc ((b.take (b.length-8)).drop 5) with
 | some (m,[])=>if VM m then (0,m) else (4,mZ)
 | _=>(4,mZ)
theorem VM.i64 {m:Mch} (h:VM m):I64Mc m:=by
 obtain⟨hr,hn,hs,hf,hml,hmv⟩:=h.n;have key:∀(j:Nat) (t:To),m.li[j]?=some t->0<=t.s/\t.s<m.n:=fun j t ht=>by
  obtain⟨_,x,hx,hf,_⟩:=(h.t j t ht).e;have:=hmv x (Yb hx);omega
 have ord:∀(j:Nat) (t:To),m.li[j]?=some t->(j:Int)<=t.s:=by
  intro j
  induction j with
  | zero=>intro t ht;have:=key 0 t ht;omega
  | succ j ih=>
   intro t ht;have hj:=(Ya.1 ht).1;have gz:m.li[j]?=some m.li[j]:=Yi (by omega);have h1:=(h.t (j+1) t ht).o m.li[j] (by omega) (by rw[Nat.add_sub_cancel];exact gz);have h2:=ih _ gz;omega
 have hll:m.li.length<=200:=by
  rcases Nat.lt_or_ge 200 m.li.length with hlt | hge
  .have gz:m.li[200]?=some m.li[200]:=Yi hlt;have h1:=ord 200 _ gz;have h2:=key 200 _ gz;omega
  .exact hge
 refine⟨⟨by omega,by omega⟩,⟨by omega,by omega⟩,hn,hf,⟨hll,fun t ht=>?_⟩,⟨hml,fun x hx=>?_⟩⟩;rotate_left
 .have:=hmv x hx;exact⟨⟨by omega,by omega⟩,⟨by omega,by omega⟩,⟨by omega,by omega⟩,⟨by omega,by omega⟩⟩
 .obtain⟨j,hj⟩:=Yf.1 ht;have h1:=key j t hj;obtain⟨h2,x,hx,_⟩:=(h.t j t hj).e;have h3:=(h.t j t hj).k;have h4:=(Ya.1 hx).1;exact⟨⟨by omega,by omega⟩,⟨by omega,by omega⟩,⟨by omega,by omega⟩⟩
theorem decM_enc {m:Mch} (h:VM m):decM (sealB (bodyM m))=(0,m):=by
 have hl:(sealB (bodyM m)).length-8=(bodyM m).length:=by
  unfold sealB;rw[Yh];rfl
 have h13:¬((sealB (bodyM m)).length<13\/(sealB (bodyM m)).take 5≠magicM):=by
  rintro (h | h)
  .unfold sealB bodyM at h;rw[Yh,Yh] at h;have e5:magicM.length=5:=rfl;have e8:(eight (hsh (magicM++encM m))).length=8:=rfl;omega
  .exact h rfl
 have hr:=rMc_enc h.i64 [];rw[Yw] at hr;unfold decM;rw[if_neg h13,hl,show (sealB (bodyM m)).take (bodyM m).length=bodyM m from List.take_left' rfl,show (sealB (bodyM m)).drop (bodyM m).length=eight (hsh (bodyM m)) from List.drop_left' rfl,if_neg (fun h=>h rfl),
  show (bodyM m).drop 5=encM m from rfl,hr]
 exact if_pos h
theorem decM_conv {b:List Int} {m:Mch} (hb:Byt b) (h:decM b=(0,m)):VM m/\b=sealB (bodyM m):=by
 unfold decM at h;split at h
 .cases h
 .rename_i h1;split at h
  .cases h
  .rename_i h2;split at h
   .rename_i m' hm;split at h
    .rename_i hv;injection h with _ h;subst h;refine⟨hv,?_⟩;have hbT:Byt (b.take (b.length-8)):=fun x hx=>hb x (List.mem_of_mem_take hx);have e:=rMc_conv (fun x hx=>hbT x (List.mem_of_mem_drop hx)) hm;rw[Yw] at e;have h2:eight (hsh (b.take (b.length-8)))=b.drop (b.length-8):=Classical.not_not.1 h2;have h5:b.take 5=magicM:=Classical.not_not.1 fun e=>h1 (.inr e);have h13:¬b.length<13:=fun e=>h1 (.inl e);have e3:b.take (b.length-8)=bodyM m':=by
      rw[<-List.take_append_drop 5 (b.take (b.length-8)),e,List.take_take,Nat.min_eq_left (by omega),h5];rfl
     unfold sealB;rw[<-e3,h2,List.take_append_drop]
    .cases h
   .cases h
theorem decM_change {b:List Int} (hb:Byt b) {k:Nat} {x y:Int} (hx:(sealB b)[k]?=some x) (hy:0<=y/\y<256) (hne:y≠x):(decM ((sealB b).set k y)).1≠0:=by
 have hk:=(Ya.1 hx).1;have e8:(eight (hsh b)).length=8:=rfl;have hl:((sealB b).set k y).length-8=b.length:=by
  rw[Yyh];unfold sealB;rw[Yh,e8];omega
 have hlen:(sealB b).length=b.length+8:=by unfold sealB;rw[Yh,e8]
 unfold decM;rw[hl];have key:eight (hsh (((sealB b).set k y).take b.length))≠((sealB b).set k y).drop b.length:=by
  unfold sealB at hx ⊢;by_cases hkb:k<b.length
  .rw[List.set_append_left _ _ hkb];rw[Yyi hkb] at hx;rw[List.take_left' (by rw[Yyh]),List.drop_left' (by rw[Yyh])];exact fun h=>hsh_set hb hx hy hne (eight_inj (hsh_lt _) (hsh_lt _) h)
  .rw[List.set_append_right _ _ (by omega)];rw[Yyc (by omega)] at hx;rw[List.take_left' rfl,List.drop_left' rfl];intro h;have h2:=congrArg (·[k-b.length]?) h;simp only[Yq (show k-b.length<(eight (hsh b)).length by omega),hx] at h2;injection h2 with h2;exact hne h2.symm
 split
 .show (4:Int)≠0;decide
 .first | (rw[if_pos key];show (5:Int)≠0;decide) | (show (5:Int)≠0;decide)
end Go.VC
end

section
namespace Go.VC
open Go.Proofs Go.LexS Go.RowKit
def u8C (b:Int):List Value:=[.int .u8 b]
theorem app48:appB Pz 65 5 1 1=true:=by kernel_rfl
theorem u8rows (l:List Int):∀r∈l.map u8C,r.length=1:=fun r hr=>by obtain⟨x,_,rfl⟩:=Yp.1 hr;rfl
theorem int65 (b:Sl) (xs:List Int) (n:Int) (h0 h:Heap) (L:List It) (hs:St h0 h (.sl b 5 1 (xs.map u8C)::L)) (hn:I64 n) (hl:xs.length<=100000000) :
  Fn Pz 78 #[.slice b.a b.n b.c,.int .i64 n] h fun v h'=>∃b':Sl,v=.slice b'.a b'.n b'.c/\St h0 h' (.sl b' 5 1 ((xs++encI n).map u8C)::L):=by
 apply vc78 b n;unfold W78;rw[zig_bits hn];refine⟨by decide,by decide,?_⟩;have hz:=zig_lt hn.1 hn.2;refine⟨fun b u h' μ=>∃(v:Nat) (pre:List Int),u=(v:Int)/\μ=v/\v<18446744073709551616/\pre++venc v=encI n/\St h0 h' (.sl b 5 1 ((xs++pre).map u8C)::L),⟨_,zigN n,[],rfl,rfl,hz,rfl,by rw[Yw];exact hs⟩,?_⟩;clear hs;rintro-b2 _ h6 μ ⟨v,pre,rfl,hμ,hv,he,hs⟩;have hlen:=(hs.rows 0 (s:=b2) (cs:=u8C) rfl (by omega)).ln;have hpl:pre.length<=10:=by
  have h1:=congrArg List.length he;rw[Yh] at h1;have h2:=encI_len hn;omega
 rw[Yh] at hlen;refine sBi (fun c=>?_) (fun c=>?_)
 .have hv1:¬v<128:=by omega
  rw[venc_ge hv1] at he;rw[or_bits];refine hs.app 0 (s:=b2) (rows:=(xs++pre).map u8C) rfl app48 (m:=1) [[.int .u8 ((v%128+128:Nat):Int)]] rfl rfl (by simp) rfl (by omega) (by simp only[maxLen];omega) fun s8 h9 ns hs=>?_;refine⟨by decide,v/128,by omega,v/128,pre++[((v%128+128:Nat):Int)],shr7,rfl,by omega,by rw[Yz];exact he,?_⟩;rw[<-Yz,Ym];exact hs
 .have hv1:v<128:=by omega
  rw[venc_lt hv1] at he;rw[wu8 (n:=(v:Int)) (by omega) (by omega)];refine hs.app 0 (s:=b2) (rows:=(xs++pre).map u8C) rfl app48 (m:=1) [[.int .u8 (v:Int)]] rfl rfl (by simp) rfl (by omega) (by simp only[maxLen];omega) fun s12 h13 ns hs=>?_;refine⟨s12,rfl,?_⟩;rw[<-he,<-Yz,Ym];exact hs
theorem St.cut {h0 h:Heap} {L:List It} (hs:St h0 h L) (k:Nat) {s:Sl} {e:TypeId} {n:Nat} {rows:List (List Value)} (hk:L[k]?=some (.sl s e n rows)) (hn:0<n) (i:Nat) (hi:i<=s.n):St h0 h (L.set k (.sl ⟨subA s.a (Int.toNat 0) s.c n,Int.toNat (i:Int)-Int.toNat 0,s.c-Int.toNat 0⟩ e n (rows.take i))):=by
 have e0:subA s.a (Int.toNat 0) s.c n=s.a:=subA_zero _ _ _;rw[e0,show Int.toNat (i:Int)-Int.toNat 0=i from rfl,show s.c-Int.toNat 0=s.c from rfl];have hget:=hs.get hk;have hln:=(hs.rw k hk hn).1;have hrl:∀r∈rows.take i,r.length=n:=fun r hr=>hget.2 r (List.mem_of_mem_take hr);have hfl:(rows.take i).flatten.length=i*n:=by rw[flatten_len _ hrl,Yu,Nat.min_eq_left (by omega)]
 refine hs.turn hk (Yyt _) (j:=.sl ⟨s.a,i,s.c⟩ e n (rows.take i)) ⟨⟨hfl,?_⟩,hrl⟩ (fun b hb=>.inr hb) (fun _ _ _=>rfl);rcases hget.1.2 with ⟨ha,hn0,hc0⟩ | ⟨g,cur,ha,hb0,hh,hnc,hcm,hsz,htk⟩
 .exact .inl ⟨ha,by show i=0;omega,hc0⟩
 .refine .inr ⟨g,cur,ha,hb0,hh,by show i<=s.c;omega,hcm,hsz,?_⟩;have hm:i*n<=s.n*n:=Nat.mul_le_mul_right _ hi;have h3:(rows.take i).flatten=rows.flatten.take (i*n):=by
   have h5:rows=rows.take i++rows.drop i:=(List.take_append_drop i rows).symm;rw[congrArg List.flatten h5,List.flatten_append,Yyq (by rw[hfl];exact Yyt _)];rw[Yj (l:=(rows.take i).flatten) (by rw[hfl];exact Yyt _)]
  show cur.toList.take (i*n)=_;rw[h3,<-htk,List.take_take,Nat.min_eq_left (by omega)]
def toB (l:List Int):List UInt8:=l.map fun x=>UInt8.ofNat x.toNat
theorem toB_c {l:List Int} (h:∀x∈l,0<=x/\x<256):(l.map u8C).flatten=byteC (toB l):=by
 induction l with
 | nil=>rfl
 | cons x r ih=>
  have hx:=h x Yx;rw[Yyl,Yyu,ih fun y hy=>h y (Yn _ hy)];show [Value.int .u8 x]++byteC (toB r)=Value.int .u8 ((UInt8.ofNat x.toNat).toNat:Int)::byteC (toB r);rw[UInt8.toNat_ofNat',Nat.mod_eq_of_lt (by omega),Int.toNat_of_nonneg hx.1];rfl
theorem toB_inj {l l':List Int} (h:∀x∈l,0<=x/\x<256) (h':∀x∈l',0<=x/\x<256) (e:toB l=toB l'):l=l':=by
 have back:∀ {l:List Int},(∀x∈l,0<=x/\x<256)->(toB l).map (fun b=>(b.toNat:Int))=l:=fun {l} h=>by
  unfold toB;rw[List.map_map];refine (List.map_congr_left fun x hx=>?_).trans (List.map_id _);have hx:=h x hx;show (((UInt8.ofNat x.toNat).toNat:Nat):Int)=x;rw[UInt8.toNat_ofNat',Nat.mod_eq_of_lt (by omega),Int.toNat_of_nonneg hx.1]
 rw[<-back h,<-back h',e]
theorem St.pick {h0 h:Heap} {L:List It} (hs:St h0 h L) (k:Nat) {i:It} (hk:L[k]?=some i):St h0 h (i::L.eraseIdx k):=by
 obtain⟨hl,e⟩:=Ya.1 hk;refine hs.perm ?_;rw[List.eraseIdx_eq_take_drop_succ,<-e];have e2:L=L.take k++L[k]::L.drop (k+1):=by rw[List.getElem_cons_drop,List.take_append_drop]
 conv=>lhs;rw[e2]
 exact List.perm_middle
theorem It.apart.symm {i j:It} (h:It.apart i j):It.apart j i:=fun b hb hc=>h b hc hb
theorem St.picks {h0 h:Heap} {L L':List It} (hs:St h0 h L) (ks:List Nat) (nd:ks.Nodup) (hL:L'.map some=ks.map fun k=>L[k]?):St h0 h L':=by
 have hlen:L'.length=ks.length:=by have:=congrArg List.length hL;rwa [Yc,Yc] at this
 have hget:∀(j:Nat) (hj:j<L'.length) (hk:j<ks.length),L[ks[j]]?=some L'[j]:=fun j hj hk=>by
  have h1:(L'.map some)[j]?=some (some L'[j]):=by rw[Yd,Yi hj];rfl
  rw[hL,Yd,Yi hk] at h1;exact Yyp h1
 refine⟨hs.ext,fun i hi=>?_,?_⟩
 .obtain⟨j,hj,rfl⟩:=List.mem_iff_getElem.1 hi;exact hs.ok _ (Yb (hget j hj (by omega)))
 .rw[List.pairwise_iff_getElem];intro a b ha hb hab;have h1:=hget a ha (by omega);have h2:=hget b hb (by omega);have hne:ks[a]'(by omega)≠ks[b]'(by omega):=List.pairwise_iff_getElem.1 nd a b (by omega) (by omega) hab;obtain⟨l1,e1⟩:=Ya.1 h1;obtain⟨l2,e2⟩:=Ya.1 h2;have hp:=List.pairwise_iff_getElem.1 hs.ap;rcases Nat.lt_or_gt_of_ne hne with h | h
  .have:=hp _ _ l1 l2 h
   rwa [e1,e2] at this
  .have:=hp _ _ l2 l1 h;rw[e1,e2] at this;exact this.symm
theorem St.rlm {h0 h:Heap} {L:List It} (hs:St h0 h L) {s:Sl} {e n:Nat} {α:Type} {cs:α->List Value} {X:List α} (hk:It.sl s e n (X.map cs)∈L) (hn:0<n) (hX:X.length<=1048576):RL h n s cs X:=by
 obtain⟨k,hk⟩:=Yf.1 hk;obtain⟨h1,h2,h3⟩:=hs.len k hk hn;exact⟨hs.rows k hk hn,h2,h3,hX⟩
theorem St.smbO {h0 h h1 h':Heap} {L L':List It} (hs:St h0 h L) (hs':St h1 h' L') (k k' o:Nat) {b:Nat} {xs:List Value} {e:TypeId} (hk:L[k]?=some (.blk b xs e)) (hk':L'[k']?=some (.blk b xs e)):Sm [⟨b,o,none⟩] h h':=by
 intro a ha i v hv;rw[Ye.1 ha] at hv ⊢;have e1:h[b]?=some (.cells ⟨xs⟩ e):=hs.get hk;have e2:h'[b]?=some (.cells ⟨xs⟩ e):=hs'.get hk';have e3:h'[b]?=h[b]?:=by rw[e1,e2]
 rw[hc_of_block (h:=h) (h':=h') (a:=addk ⟨b,o,none⟩ i) (by rw[addk_block'];exact e3)];exact hv
theorem wrapU (n:Nat):IntKind.wrap .u64 (n:Int)=((n%18446744073709551616:Nat):Int):=by
 simp[IntKind.wrap,IntKind.signed,IntKind.bits]
theorem wrap8 (n:Nat):IntKind.wrap .u8 (n:Int)=((n%256:Nat):Int):=by
 simp[IntKind.wrap,IntKind.signed,IntKind.bits]
theorem xorU {a b:Nat} (ha:a<2^64) (hb:b<2^64):xorI .u64 (a:Int) (b:Int)=((a ^^^ b:Nat):Int):=by
 unfold xorI;have e:(BitVec.ofInt (IntKind.bits .u64) (a:Int) ^^^ BitVec.ofInt (IntKind.bits .u64) (b:Int)).toNat=a ^^^ b:=by
  show (BitVec.ofInt 64 (a:Int) ^^^ BitVec.ofInt 64 (b:Int)).toNat=_;rw[BitVec.ofInt_natCast,BitVec.ofInt_natCast,BitVec.toNat_xor,BitVec.toNat_ofNat,BitVec.toNat_ofNat,Nat.mod_eq_of_lt ha,Nat.mod_eq_of_lt hb]
 rw[e];have:=Nat.xor_lt_two_pow ha hb;exact wu64 (by omega) (by omega)
theorem fnv_step {u m:Nat} (hu:u<18446744073709551616) (hm:m<256):IntKind.wrap .u64 ((xorI .u64 (u:Int) (IntKind.wrap .u64 (m:Int)))*1099511628211)=((fnvS u m:Nat):Int):=by
 rw[wu64 (n:=(m:Int)) (by omega) (by omega),xorU (by omega) (by omega)];unfold fnvS;rw[<-wrapU];congr 1;generalize u ^^^ m=x;omega
theorem from166 (u:Nat) (p1:Sl) (B:List Int) (h:Heap) (hB:RL h 1 p1 u8C B) (hb:Byt B) (hu:u<18446744073709551616) :
  Fn Pz 181 #[.int .u64 (u:Int),.slice p1.a p1.n p1.c] h fun v h'=>v=.int .u64 ((fnv u B:Nat):Int)/\h'=h:=by
 apply vc181 _ p1;unfold W181;have hn:=hB.ln;have hsm:=hB.sm;refine⟨fun s x h' μ=>∃i:Nat,x=(i:Int)/\μ=B.length-i/\i<=B.length/\s=((fnv u (B.take i):Nat):Int)/\h'=h,⟨_,0,rfl,rfl,Nat.zero_le _,rfl,rfl⟩,?_⟩;rintro-_ _ h6 μ ⟨i,rfl,rfl,hi,rfl,rfl⟩;refine sBi (fun c=>?_) (fun c=>?_)
 .refine hB.rw.nbI (by omega) (by omega) fun b7 o8 x gx t=>?_;replace gx:B[i]?=some x:=gx;obtain⟨m,rfl⟩:∃m:Nat,x=(m:Int):=⟨x.toNat,by have:=hb x (Yb gx);omega⟩;have hm:=hb _ (Yb gx);refine⟨_,t.hd,_,(show B.length-(i+1)<B.length-i by omega),i+1,by rw[w64 (by omega) (by omega)];omega,rfl,by omega,?_,rfl⟩;rw[take_snoc gx,fnv_snoc,fnv_step (fnv_lt _ _ hu) (by omega)]
 .have hie:i=B.length:=by omega
  subst hie;rw[Yye];exact⟨rfl,rfl⟩
theorem of129 (p1:Sl) (B:List Int) (h:Heap) (hB:RL h 1 p1 u8C B) (hb:Byt B):Fn Pz 140 #[.slice p1.a p1.n p1.c] h fun v h'=>v=.int .u64 ((hsh B:Nat):Int)/\h'=h:=by
 apply vc140 p1;unfold W140;refine (from166 14695981039346656037 p1 B h hB hb (by decide)).mono ?_;rintro _ _ ⟨rfl,rfl⟩;exact⟨_,rfl,rfl,rfl⟩
theorem from168 (u:Nat) (p1:Sl) (B:List Int) (h:Heap) (hB:RL h 1 p1 u8C B) (hb:Byt B) (hu:u<18446744073709551616) :
  Fn Pz 183 #[.int .u64 (u:Int),.slice p1.a p1.n p1.c] h fun v h'=>v=.int .u64 ((fnv u B:Nat):Int)/\h'=h:=by
 apply vc183 _ p1;unfold W183;have hn:=hB.ln;have hsm:=hB.sm;refine⟨fun s x h' μ=>∃i:Nat,x=(i:Int)/\μ=B.length-i/\i<=B.length/\s=((fnv u (B.take i):Nat):Int)/\h'=h,⟨_,0,rfl,rfl,Nat.zero_le _,rfl,rfl⟩,?_⟩;rintro-_ _ h6 μ ⟨i,rfl,rfl,hi,rfl,rfl⟩;refine sBi (fun c=>?_) (fun c=>?_)
 .refine hB.rw.nbI (by omega) (by omega) fun b7 o8 x gx t=>?_;replace gx:B[i]?=some x:=gx;obtain⟨m,rfl⟩:∃m:Nat,x=(m:Int):=⟨x.toNat,by have:=hb x (Yb gx);omega⟩;have hm:=hb _ (Yb gx);refine⟨_,t.hd,_,(show B.length-(i+1)<B.length-i by omega),i+1,by rw[w64 (by omega) (by omega)];omega,rfl,by omega,?_,rfl⟩;rw[take_snoc gx,fnv_snoc,fnv_step (fnv_lt _ _ hu) (by omega)]
 .have hie:i=B.length:=by omega
  subst hie;rw[Yye];exact⟨rfl,rfl⟩
theorem of138 (p1:Sl) (B:List Int) (h:Heap) (hB:RL h 1 p1 u8C B) (hb:Byt B):Fn Pz 149 #[.slice p1.a p1.n p1.c] h fun v h'=>v=.int .u64 ((hsh B:Nat):Int)/\h'=h:=by
 apply vc149 p1;unfold W149;refine (from168 14695981039346656037 p1 B h hB hb (by decide)).mono ?_;rintro _ _ ⟨rfl,rfl⟩;exact⟨_,rfl,rfl,rfl⟩
/-! ### the eight bytes -/
def u8V (b:Int):Value:=.int .u8 b
theorem eight_get {u i:Nat} (hi:i<8):(eight u)[i]?=some (((u/2^(8*(7-i))%256:Nat)):Int):=by
 rcases (show i=0\/i=1\/i=2\/i=3\/i=4\/i=5\/i=6\/i=7 by omega) with rfl | rfl | rfl | rfl | rfl | rfl | rfl | rfl<;>first | rfl | (simp[eight])
def part8 (u i:Nat):List Value:=((eight u).take i++List.replicate (8-i) 0).map u8V
theorem part8_step {u i:Nat} (hi:i<8):splice (part8 u i) i [.int .u8 ((u/2^(8*(7-i))%256:Nat):Int)]=part8 u (i+1):=by
 have h8:∀k,k<=8->((eight u).take k).length=k:=fun k hk=>by rw[Yu];exact Nat.min_eq_left hk
 unfold part8 splice;rw[take_snoc (eight_get hi),Ym,Ym,Ym];have e1:(List.map u8V ((eight u).take i)).length=i:=by rw[Yc,h8 i (by omega)]
 rw[List.take_left' e1,List.drop_append,e1,List.drop_eq_nil_of_le (by rw[e1];simp)];have e2:i+[Value.int .u8 ((u/2^(8*(7-i))%256:Nat):Int)].length-i=1:=by simp
 rw[e2,<-List.map_drop,List.drop_replicate,List.nil_append,show 8-i-1=8-(i+1) by omega];rfl
theorem shr8 {u i:Nat} (hi:i<8):IntKind.wrap .u8 (shrI .u64 (u:Int) (IntKind.wrap .i64 (8*(IntKind.wrap .i64 (7-(i:Int))))))=((u/2^(8*(7-i))%256:Nat):Int):=by
 rw[w64 (n:=7-(i:Int)) (by omega) (by omega),w64 (by omega) (by omega),show 8*(7-(i:Int))=((8*(7-i):Nat):Int) by omega,shr_nat (by omega),wrap8]
theorem eight128 (u:Nat) (h:Heap):Fn Pz 139 #[.int .u64 (u:Int)] h fun v h'=>v=.agg ⟨(eight u).map u8V⟩/\Ext h h':=by
 apply vc139 _;unfold W139;refine (St.refl h).newb fun h1 hs=>?_;refine hs.newb fun h2 hs=>?_;refine⟨fun x h' μ=>∃i:Nat,x=(i:Int)/\μ=8-i/\i<=8/\St h h' [.blk h1.size (part8 u i) 199,.blk h.size (part8 u 0) 199],⟨_,0,rfl,rfl,by omega,hs⟩,?_⟩;clear hs;rintro-_ h7 μ ⟨i,rfl,rfl,hi,hs⟩;refine sBi (fun c=>?_) (fun c=>?_)
 .refine⟨by rw[w64 (n:=7-(i:Int)) (by omega) (by omega),w64 (by omega) (by omega)];omega,⟨by omega,by omega⟩,?_⟩;rw[shr8 (by omega),show Int.toNat (i:Int)*1=i by omega,Nat.zero_add];refine hs.put 0 rfl (n:=1) (vs:=[_]) rfl (by unfold part8;simp[eight];omega) fun h8 hs=>?_;rw[part8_step (by omega)] at hs;exact⟨_,(show 8-(i+1)<8-i by omega),i+1,by rw[w64 (by omega) (by omega)];omega,rfl,by omega,hs⟩
 .have hie:i=8:=by omega
  subst hie;refine⟨_,_,_,_,_,_,_,_,hs.at 0 rfl (o:=0) (n:=8) rfl,?_⟩;refine hs.put 1 rfl (o:=0) (n:=8) (vs:=[_,_,_,_,_,_,_,_]) rfl (Yyt 8) fun h18 hs=>?_;exact⟨_,_,_,_,_,_,_,_,hs.at 1 rfl (o:=0) (n:=8) rfl,rfl,hs.ext⟩
theorem RL.from {α:Type} {h:Heap} {k:Nat} {s:Sl} {cs:α->List Value} {l:List α} (hr:RL h k s cs l) {i:Nat} (hi:i<=s.n):RL h k ⟨subA s.a i s.c k,s.n-i,s.c-i⟩ cs (l.drop i):=by
 have hn:=hr.ln;have hc:=hr.cap;refine⟨?_,by show s.n-i<=s.c-i;omega,fun ha=>?_,by have:=hr.sm;rw[List.length_drop];omega⟩
 .rw[List.map_drop];by_cases h1:i<s.n
  .exact hr.rw.from hc h1
  .rw[List.drop_eq_nil_of_le (by rw[Yc];omega)];exact Rw.empty (by show s.n-i=0;omega)
 .have h0:s.a=none:=by
   cases hsa:s.a with
   | none=>rfl
   | some x=>
    exfalso;have ha':subA s.a i s.c k=none:=ha;unfold subA at ha';split at ha'
    .rw[hsa] at ha';cases ha'
    .rw[hsa] at ha';cases ha'
  have:=hr.nil h0;exact⟨by show s.n-i=0;omega,by show s.c-i=0;omega⟩
theorem cv_rl {h:Heap} {s:Sl} {l:List Int} (hr:RL h 1 s u8C l) (hb:Byt l):RunW Pz (Go.convert 65 9 (.slice s.a s.n s.c)) h fun v h'=>v=.string (bs (toB l))/\h'=h:=by
 intro w hw;subst hw;have hn:=hr.ln;have hln:(toB l).length=s.n:=by rw[hn];exact Yc _
 have u1:Pz.underlying 65=some (.slice 5):=by kernel_rfl
 have u2:Pz.underlying 5=some (.int .u8):=by kernel_rfl
 have u3:Pz.underlying 9=some .string:=by kernel_rfl
 cases hsa:s.a with
 | none=>
  obtain⟨h0,hc⟩:=hr.nil hsa;have:l=[]:=List.length_eq_zero_iff.1 (by omega);subst this;rw[h0,hc];exact⟨_,w,Go.Lib.run_convert_nil_bytes w 65 9 5 0 u1 u2 u3,⟨rfl,rfl⟩,rfl,rfl,rfl⟩
 | some a=>
  refine⟨_,w,?_,⟨rfl,rfl⟩,rfl,rfl,rfl⟩;rw[<-hln];exact Go.run_convert_bytes_back w 65 9 5 a s.c (toB l) u1 u2 u3 fun j hj=>by
   have hjl:j<l.length:=by omega
   obtain⟨b,o,ha,hall⟩:=hr.rw.2 (by rw[Yc];omega);rw[hsa] at ha;cases ha;have h1:=(hall j (u8C l[j]) (by rw[Yd,Yi hjl];rfl)).hd;have hx:=hb l[j] (List.getElem_mem hjl);have e:(⟨b,o,none⟩:Addr).add j=⟨b,o+j*1,none⟩:=by rw[add_n,Nat.mul_one]
   rw[e];refine h1.trans ?_;have e2:(toB l)[j]=UInt8.ofNat (l[j]).toNat:=by simp[toB]
   rw[e2,UInt8.toNat_ofNat',Nat.mod_eq_of_lt (by omega),Int.toNat_of_nonneg hx.1]
theorem RL.flat8 {h:Heap} {s:Sl} {l:List Int} (hr:RL h 1 s u8C l) (hl:0<l.length):∃b o,s.a=some ⟨b,o,none⟩/\atC h ⟨b,o,none⟩ (l.map u8V):=by
 obtain⟨b,o,ha,hall⟩:=hr.rw.2 (by rw[Yc];exact hl);refine⟨b,o,ha,?_⟩;have h1:=atC_flat (k:=1) (l.map u8C) o (u8rows l) hall;have e:∀l:List Int,(l.map u8C).flatten=l.map u8V:=fun l=>by
  induction l with
  | nil=>rfl
  | cons a l ih=>rw[Yyl,Yyu,ih];rfl
 rwa [e] at h1
theorem oneU (l:List Int):(l.map u8C).flatten.all oneB=true:=by
 induction l with
 | nil=>rfl
 | cons a l ih=>rw[Yyl,Yyu,List.all_append,ih];rfl
def tail8 (u i:Nat):List Value:=(List.replicate i 0++(eight u).drop i).map u8V
theorem tail8_step {u i:Nat} (hi:i<8):splice (tail8 u (i+1)) i [.int .u8 ((u/2^(8*(7-i))%256:Nat):Int)]=tail8 u i:=by
 unfold tail8 splice;have hd:(eight u).drop i=((u/2^(8*(7-i))%256:Nat):Int)::(eight u).drop (i+1):=by
  obtain⟨h1,h2⟩:=Ya.1 (eight_get (u:=u) hi);rw[List.drop_eq_getElem_cons h1,h2]
 rw[hd,Ym,Yyq (by simp),List.drop_left' (by simp),<-List.map_take,List.take_replicate,Nat.min_eq_left (by omega),Ym,Yyl,Yz];rfl
theorem div8 {u i:Nat} (hi:i<8):u/2^(8*(7-i))/256=u/2^(8*(8-i)):=by
 rw[Nat.div_div_eq_div_mul];rcases (show i=0\/i=1\/i=2\/i=3\/i=4\/i=5\/i=6\/i=7 by omega) with rfl | rfl | rfl | rfl | rfl | rfl | rfl | rfl<;>rfl
theorem made5 (n:Nat):madeL Pz 5 n=List.replicate n (.int .u8 0):=by
 have hz:zeroC Pz 5=[.int .u8 0]:=by kernel_rfl
 unfold madeL;rw[hz]
 induction n with
 | zero=>rfl
 | succ n ih=>rw[List.replicate_succ,Yyu,ih];rfl
theorem eight137 (u:Nat) (h:Heap) (hu:u<18446744073709551616):Fn Pz 148 #[.int .u64 (u:Int)] h fun v h'=>∃s:Sl,v=.slice s.a s.n s.c/\St h h' [.sl s 5 1 ((eight u).map u8C)]:=by
 apply vc148 _;unfold W148;refine⟨⟨by decide,by decide,by decide⟩,?_⟩;rw[made5];refine (St.refl h).newb fun h1 hs=>?_;refine⟨fun q x h' μ=>∃i:Nat,x=(i:Int)-1/\μ=i/\i<=8/\q=((u/2^(8*(8-i)):Nat):Int)/\St h h' [.blk h.size (tail8 u i) 5],⟨_,8,rfl,rfl,by omega,by simp,hs⟩,?_⟩;clear hs;rintro-_ _ h7 i ⟨_,rfl,rfl,hi,rfl,hs⟩;refine sBi (fun c=>?_) (fun c=>?_)
 .obtain⟨j,rfl⟩:∃j,i=j+1:=⟨i-1,by omega⟩;have hq:u/2^(8*(8-(j+1)))<18446744073709551616:=Nat.lt_of_le_of_lt (Nat.div_le_self _ _) hu;have e1:((j+1:Nat):Int)-1=(j:Int):=by omega
  rw[e1,show 8-(j+1)=7-j by omega] at *;refine⟨by decide,⟨by omega,by show (j:Int)<((8:Nat):Int);omega⟩,?_⟩;have e2:Int.tmod ((u/2^(8*(7-j)):Nat):Int) 256=((u/2^(8*(7-j))%256:Nat):Int):=rfl;rw[e2,wrap8,Nat.mod_mod,show 0+Int.toNat (j:Int)*1=j by omega];refine hs.put 0 rfl (n:=1) (vs:=[_]) rfl (by unfold tail8;simp[eight]) fun h8 hs=>?_;rw[tail8_step (by omega)] at hs;refine⟨by decide,_,(show j<j+1 by omega),j,by rw[w64 (by omega) (by omega)],rfl,by omega,?_,hs⟩;have e3:Int.tdiv ((u/2^(8*(7-j)):Nat):Int) 256=((u/2^(8*(7-j))/256:Nat):Int):=rfl;have hz:u/2^(8*(8-j))<=18446744073709551615:=Yys (Nat.div_le_self _ _) (by omega);rw[e3,div8 (by omega),wu64 (Int.natCast_nonneg _) (Int.ofNat_le.2 hz)]
 .have hi0:i=0:=by omega
  subst hi0;exact⟨⟨some ⟨h.size,0,none⟩,8,8⟩,rfl,hs.blkS 8 1 ((eight u).map u8C) rfl (u8rows _) rfl (by decide)⟩
end Go.VC
end

section
namespace Go.VC
open Go.Proofs Go.LexS
theorem and127 {x:Nat} (hx:x<256):andI .u8 (x:Int) 127=((x%128:Nat):Int):=by
 unfold andI;have e:(BitVec.ofInt (IntKind.bits .u8) (x:Int)&&&BitVec.ofInt (IntKind.bits .u8) 127).toNat=x%128:=by
  show (BitVec.ofInt 8 (x:Int)&&&BitVec.ofInt 8 ((127:Nat):Int)).toNat=_;rw[BitVec.ofInt_natCast,BitVec.ofInt_natCast,BitVec.toNat_and,BitVec.toNat_ofNat,BitVec.toNat_ofNat,Nat.mod_eq_of_lt hx];exact Nat.and_two_pow_sub_one_eq_mod x 7
 rw[e,wu8 (by omega) (by omega)]
theorem orU {a b:Nat} (ha:a<2^64) (hb:b<2^64):orI .u64 (a:Int) (b:Int)=((a|||b:Nat):Int):=by
 unfold orI;have e:(BitVec.ofInt (IntKind.bits .u64) (a:Int)|||BitVec.ofInt (IntKind.bits .u64) (b:Int)).toNat=a|||b:=by
  show (BitVec.ofInt 64 (a:Int)|||BitVec.ofInt 64 (b:Int)).toNat=_;rw[BitVec.ofInt_natCast,BitVec.ofInt_natCast,BitVec.toNat_or,BitVec.toNat_ofNat,BitVec.toNat_ofNat,Nat.mod_eq_of_lt ha,Nat.mod_eq_of_lt hb]
 rw[e];have:=Nat.or_lt_two_pow ha hb;exact wu64 (by omega) (by omega)
theorem shlU {a k:Nat} (hk:k<64) (ha:a*2^k<18446744073709551616):shlI .u64 (a:Int) (k:Int)=((a*2^k:Nat):Int):=by
 unfold shlI;have e:min (Int.toNat (k:Int)) (IntKind.bits .u64)=k:=by simp[IntKind.bits];omega
 rw[e];have e2:(a:Int)*2^k=((a*2^k:Nat):Int):=by simp
 rw[e2];exact wu64 (Int.natCast_nonneg _) (by omega)
theorem acc_bits {a i c:Nat} (hi:i<=9) (hc:c<256) (ha:a<128^i) (h9:i=9->c%128<=1) :
  orI .u64 (a:Int) (shlI .u64 (IntKind.wrap .u64 (andI .u8 (c:Int) 127)) (IntKind.wrap .i64 (7*(i:Int))))=((a+128^i*(c%128):Nat):Int)/\a+128^i*(c%128)<(if i=9 then 18446744073709551616 else 128^(i+1)):=by
 have e128:128^i=2^(7*i):=by rw[Nat.pow_mul]
 have hb:a+128^i*(c%128)<(if i=9 then 18446744073709551616 else 128^(i+1)):=by
  split
  .rename_i h;subst h;have:=h9 rfl;have e:128^9=9223372036854775808:=by decide
   rw[e] at ha ⊢;omega
  .rw[Nat.pow_succ];have h1:c%128<=127:=by omega
   have h2:=Nat.mul_le_mul_left (128^i) h1;omega
 have hlt:a+128^i*(c%128)<18446744073709551616:=by
  refine Nat.lt_of_lt_of_le hb ?_;split
  .exact Yyt _
  .have:128^(i+1)<=128^9:=Nat.pow_le_pow_right (by decide) (by omega);have e:128^9=9223372036854775808:=by decide
   omega
 refine⟨?_,hb⟩;rw[and127 hc,wu64 (n:=((c%128:Nat):Int)) (by omega) (by omega),w64 (by omega) (by omega),show 7*(i:Int)=((7*i:Nat):Int) by omega,shlU (by omega) (by rw[<-e128,Nat.mul_comm];omega),orU (by omega) (by rw[<-e128,Nat.mul_comm];omega)];congr 1;rw[Nat.or_comm,Nat.mul_comm (c%128),<-Nat.two_pow_add_eq_or_of_lt (by rw[<-e128];exact ha),<-e128,Nat.add_comm]
theorem zag_bits {u:Nat} (hu:u<18446744073709551616):xorI .i64 (IntKind.wrap .i64 (shrI .u64 (u:Int) 1)) (IntKind.wrap .i64 (0-(IntKind.wrap .i64 (andI .u64 (u:Int) 1))))=zag u:=by
 have e1:shrI .u64 (u:Int) 1=((u/2:Nat):Int):=shr_nat (w:=u) (k:=1) (by decide);rw[e1,and_one (by omega),w64 (n:=((u/2:Nat):Int)) (by omega) (by omega),w64 (n:=((u%2:Nat):Int)) (by omega) (by omega),w64 (by omega) (by omega)];unfold zag xorI;generalize hm:u/2=m;have hmlt:m<9223372036854775808:=by omega
 by_cases h:u%2=0
 .rw[h,if_pos rfl];have e:(BitVec.ofInt (IntKind.bits .i64) (m:Int) ^^^ BitVec.ofInt (IntKind.bits .i64) (0-((0:Nat):Int))).toNat=m:=by
   show (BitVec.ofInt 64 (m:Int) ^^^ BitVec.ofInt 64 ((0:Nat):Int)).toNat=_;rw[BitVec.ofInt_natCast,BitVec.ofInt_natCast,BitVec.toNat_xor,BitVec.toNat_ofNat,BitVec.toNat_ofNat,Nat.mod_eq_of_lt (by omega),Nat.zero_mod,Nat.xor_zero]
  rw[e,w64 (by omega) (by omega)]
 .rw[show u%2=1 by omega,if_neg (by decide)];have e:(BitVec.ofInt (IntKind.bits .i64) (m:Int) ^^^ BitVec.ofInt (IntKind.bits .i64) (0-((1:Nat):Int))).toNat=18446744073709551615-m:=by
   show (BitVec.ofInt 64 (m:Int) ^^^ BitVec.ofInt 64 (-1)).toNat=_;have h2:(BitVec.ofNat 64 m ^^^ BitVec.allOnes 64).toNat=(~~~ (BitVec.ofNat 64 m)).toNat:=by rw[BitVec.xor_allOnes]
   rw[BitVec.toNat_not,BitVec.toNat_ofNat,Nat.mod_eq_of_lt (show m<2^64 by omega)] at h2;rw[BitVec.ofInt_natCast];exact h2
  rw[e];have e2:((18446744073709551615-m:Nat):Int)=18446744073709551615-(m:Int):=by omega
  rw[e2];simp[IntKind.wrap,IntKind.signed,IntKind.bits];omega
end Go.VC
end

section
namespace Go.VC
open Go.Proofs Go.LexS Go.RowKit
theorem made5u (n:Nat):madeL Pz 5 n=((List.replicate n 0).map u8C).flatten:=by
 rw[made5]
 induction n with
 | zero=>rfl
 | succ n ih=>rw[List.replicate_succ,List.replicate_succ,Yyl,Yyu,ih];rfl
theorem seal70 (p:Sl) (B:List Int) (h:Heap) (hB:RL h 1 p u8C B) (hb:Byt B):Fn Pz 80 #[.slice p.a p.n p.c] h fun v h'=>∃s:Sl,v=.slice s.a s.n s.c/\St h h' [.sl s 5 1 ((sealB B).map u8C)]:=by
 apply vc80 p;unfold W80;have hn:=hB.ln;have hsm:=hB.sm;refine (of129 p B h hB hb).mono ?_;rintro _ _ ⟨rfl,rfl⟩;refine⟨_,rfl,(eight128 (hsh B) _).mono ?_⟩;rintro _ h13 ⟨rfl,hE⟩;refine⟨_,_,_,_,_,_,_,_,rfl,?_⟩;have hs:=(St.refl _).step hE;refine hs.newput (vs:=[_,_,_,_,_,_,_,_]) rfl rfl fun h15 hs=>?_;refine⟨⟨by decide,by decide,by decide⟩,?_⟩;rw[w64 (n:=(p.n:Int)+8) (by omega) (by omega)];refine⟨⟨by decide,by omega,by omega⟩,?_⟩;rw[show Int.toNat ((p.n:Int)+8)=p.n+8 by omega,made5u];refine hs.newb fun h16 hs=>?_;have hs:=hs.blkS (p.n+8) 1 ((List.replicate (p.n+8) 0).map u8C) rfl (u8rows _) (by simp) (by simp only[maxLen];omega);have hs:=hs.cut 0 rfl (by decide) 0 (Nat.zero_le _);refine hs.appRw 0 rfl app48 (hB.rw.ext hs.ext) (u8rows _) hB.nil (oneU _) (by show (0+p.n)*1<=_;omega) (by show 0+p.n<=_;simp only[maxLen];omega) fun s17 h18 ns hs=>?_;have ns1:s17.n=p.n:=by rw[ns];exact Nat.zero_add _
 refine hs.appended 0 rfl app48 (x:=⟨h13.size,0,none⟩) (m:=8) (c:=8) (news:=(eight (hsh B)).map u8C) (hs.at 1 rfl (o:=0) (n:=8) rfl) rfl (u8rows _) (oneU _) (by omega) (by simp only[maxLen];omega) fun s19 h20 _ hs=>?_;refine⟨s19,rfl,?_⟩;unfold sealB;rw[Ym];exact hs.sub (.cons_cons _ (List.nil_sublist _))
theorem seal85 (p:Sl) (B:List Int) (h:Heap) (hB:RL h 1 p u8C B) (hb:Byt B):Fn Pz 94 #[.slice p.a p.n p.c] h fun v h'=>∃s:Sl,v=.slice s.a s.n s.c/\St h h' [.sl s 5 1 ((sealB B).map u8C)]:=by
 apply vc94 p;unfold W94;have hn:=hB.ln;have hsm:=hB.sm;refine (St.refl h).newb fun h1 hs=>?_;have hs:=hs.blkS 0 1 (([]:List Int).map u8C) rfl (u8rows _) rfl (Nat.zero_le _);refine hs.appRw 0 rfl app48 (hB.rw.ext hs.ext) (u8rows _) hB.nil (oneU _) (by show (0+p.n)*1<=_;omega) (by show 0+p.n<=_;simp only[maxLen];omega) fun s2 h3 ns hs=>?_;have ns1:s2.n=p.n:=by rw[ns];exact Nat.zero_add _
 refine (of138 p B h3 (hB.ext hs.ext) hb).mono ?_;rintro _ _ ⟨rfl,rfl⟩;refine⟨_,rfl,(eight137 (hsh B) _ (hsh_lt B)).mono ?_⟩;rintro _ h9 ⟨s8,rfl,hs8⟩;refine⟨s8,rfl,?_⟩;have hs:=hs.join hs8;have h8:=(hs.rows 1 (s:=s8) (cs:=u8C) rfl (by decide));have hl8:=hs.len 1 (s:=s8) rfl (by decide);have hn8:s8.n=8:=by rw[hl8.1];rfl
 refine hs.appRw 0 (s:=s2) rfl app48 h8 (u8rows _) hl8.2.2 (oneU _) (by omega) (by simp only[maxLen];omega) fun s10 h11 _ hs=>?_;refine⟨s10,rfl,?_⟩;unfold sealB;rw[Ym];exact hs.sub (.cons_cons _ (List.nil_sublist _))
def openS (b:List Int):Int × List Int:=if b.length<8 then (4,[]) else if eight (hsh (b.take (b.length-8)))≠b.drop (b.length-8) then (5,[]) else (0,b.take (b.length-8))
def OpnV (b:List Int) (h:Heap) (v:Value) (h':Heap):Prop:=∃s:Sl,v=.tuple ⟨[.slice s.a s.n s.c,.int .i64 (openS b).1]⟩/\St h h' [.sl s 5 1 ((openS b).2.map u8C)]
theorem list8 {l:List Int} (h:l.length=8):∃a b c d e f g i,l=[a,b,c,d,e,f,g,i]:=by
 match l,h with
 | [a,b,c,d,e,f,g,i],_=>exact⟨a,b,c,d,e,f,g,i,rfl⟩
theorem open71 (p:Sl) (B:List Int) (h:Heap) (hB:RL h 1 p u8C B) (hb:Byt B):Fn Pz 81 #[.slice p.a p.n p.c] h (OpnV B h):=by
 apply vc81 p;unfold W81;have hn:=hB.ln;have hsm:=hB.sm;have hcap:=hB.cap;rw[w64 (n:=(p.n:Int)-8) (by omega) (by omega)];refine sBi (fun c=>?_) (fun c=>?_)
 .have e:openS B=(4,[]):=if_pos (by omega);exact⟨⟨none,0,0⟩,by rw[e],by rw[e];exact (St.refl h).nil_ 5 1⟩
 .obtain⟨k,hk⟩:∃k:Nat,p.n=k+8:=⟨p.n-8,by omega⟩;have ek:(p.n:Int)-8=(k:Int):=by omega
  rw[ek];refine⟨⟨by decide,by omega,by omega⟩,⟨by omega,by omega,by omega⟩,by omega,?_⟩;have hT:=hB.take (i:=k) (by omega);have hD:=hB.from (i:=k) (by omega)
  have hlD:(B.drop k).length=8:=by rw[List.length_drop];omega
  obtain⟨b,o,ha,hat⟩:=hD.flat8 (by omega);obtain⟨d0,d1,d2,d3,d4,d5,d6,d7,hd⟩:=list8 hlD;rw[hd] at hat;have hbT:Byt (B.take k):=fun x hx=>hb x (List.mem_of_mem_take hx);rw[show Int.toNat (k:Int)=k from rfl,show subA p.a k p.c 1=some ⟨b,o,none⟩ from ha];refine⟨d0,d1,d2,d3,d4,d5,d6,d7,hat,(of129 _ (B.take k) h hT hbT).mono ?_⟩;rintro _ _ ⟨rfl,rfl⟩;refine⟨_,rfl,fun a _ j v hv=>hv,(eight128 (hsh (B.take k)) _).mono ?_⟩;rintro _ h22 ⟨rfl,hE⟩;refine⟨_,_,_,_,_,_,_,_,rfl,fun a _ j v hv=>hc_ext hE hv,?_⟩;have hs:=(St.refl _).step hE;refine sB_intro (fun c=>?_) (fun c=>?_)
  .have hne:eight (hsh (B.take k))≠B.drop k:=fun e=>by
    rw[hd] at e;unfold eight at e;injection e with e0 e;injection e with e1 e;injection e with e2 e;injection e with e3 e;injection e with e4 e;injection e with e5 e;injection e with e6 e;injection e with e7 e;rw[e0,e1,e2,e3,e4,e5,e6,e7] at c;simp at c
   have e:openS B=(5,[]):=by
    unfold openS;rw[if_neg (by omega),show B.length-8=k by omega,if_pos hne]
   exact⟨⟨none,0,0⟩,by rw[e],by rw[e];exact hs.nil_ 5 1⟩
  .have heq:eight (hsh (B.take k))=B.drop k:=by
    rw[hd];simp only[Bool.not_eq_false',Yt,beq_iff_eq,and_true] at c;unfold eight;obtain⟨c0,c1,c2,c3,c4,c5,c6,c7⟩:=c;rw[c0,c1,c2,c3,c4,c5,c6,c7]
   have e:openS B=(0,B.take k):=by
    unfold openS;rw[if_neg (by omega),show B.length-8=k by omega,if_neg (fun h=>h heq)]
   refine⟨⟨by decide,by omega,by omega⟩,?_⟩;have hs:=hs.nil_ 5 1;refine hs.appRw 0 rfl app48 (hT.rw.ext hs.ext) (u8rows _) hT.nil (oneU _) (by show (0+k)*1<=_;omega) (by show 0+k<=_;simp only[maxLen];omega) fun s23 h24 _ hs=>?_;exact⟨s23,by rw[e],by rw[e];exact hs⟩
theorem sB_not {b:Bool} {p q:Prop} (h:sB b q p):sB (!b) p q:=by cases b<;>exact h
theorem open78 (p:Sl) (B:List Int) (h:Heap) (hB:RL h 1 p u8C B) (hb:Byt B):Fn Pz 87 #[.slice p.a p.n p.c] h (OpnV B h):=by
 apply vc87 p;unfold W87 V87a;have hn:=hB.ln;have hsm:=hB.sm;have hcap:=hB.cap;refine sBi (fun c=>?_) (fun c=>?_)
 .have e:openS B=(4,[]):=if_pos (by omega);exact⟨⟨none,0,0⟩,by rw[e],by rw[e];exact (St.refl h).nil_ 5 1⟩
 .rw[w64 (n:=(p.n:Int)-8) (by omega) (by omega)];obtain⟨k,hk⟩:∃k:Nat,p.n=k+8:=⟨p.n-8,by omega⟩;have ek:(p.n:Int)-8=(k:Int):=by omega
  rw[ek];have hT:=hB.take (i:=k) (by omega);have hD:=hB.from (i:=k) (by omega)
  have hbT:Byt (B.take k):=fun x hx=>hb x (List.mem_of_mem_take hx);have hbD:Byt (B.drop k):=fun x hx=>hb x (List.mem_of_mem_drop hx);refine (St.refl h).newb fun h1 hs=>?_;have hs:=hs.blkS 0 1 (([]:List Int).map u8C) rfl (u8rows _) rfl (Nat.zero_le _);refine⟨⟨by decide,by omega,by omega⟩,?_⟩;refine hs.appRw 0 rfl app48 (hT.rw.ext hs.ext) (u8rows _) hT.nil (oneU _) (by show (0+k)*1<=_;omega) (by show 0+k<=_;simp only[maxLen];omega) fun s2 h3 _ hs=>?_;replace hs:St h h3 [.sl s2 5 1 ((B.take k).map u8C)]:=hs;have h2:∀ {hX:Heap} {L:List It},St h hX (.sl s2 5 1 ((B.take k).map u8C)::L)->RL hX 1 s2 u8C (B.take k):=fun hs=>hs.rl 0 rfl (by decide) (by rw[Yu];omega);refine⟨⟨by omega,by omega,by omega⟩,?_⟩;have fin:∀ {hX:Heap} {L:List It},St h hX (.sl s2 5 1 ((B.take k).map u8C)::L)->sB (!(ByteArray.toList (bs (toB (eight (hsh (B.take k)))))==ByteArray.toList (bs (toB (B.drop k))))) (OpnV B h (.tuple ⟨[.slice none 0 0,.int .i64 5]⟩) hX) (OpnV B h (.tuple ⟨[.slice s2.a s2.n s2.c,.int .i64 0]⟩) hX):=fun {hX L} hs=>by
   refine sB_not (sBs (fun c=>?_) (fun c=>?_))
   .have e:openS B=(0,B.take k):=by
     unfold openS;rw[if_neg (by omega),show B.length-8=k by omega,if_neg (fun h=>h (toB_inj (eight_byt _) hbD c))]
    exact⟨s2,by rw[e],by rw[e];exact hs.sub (.cons_cons _ (List.nil_sublist _))⟩
   .have e:openS B=(5,[]):=by
     unfold openS;rw[if_neg (by omega),show B.length-8=k by omega,if_pos (fun h=>c (by rw[h]))]
    exact⟨⟨none,0,0⟩,by rw[e],by rw[e];exact (hs.sub (List.nil_sublist _)).nil_ 5 1⟩
  have cvD:∀ {hX:Heap} {L:List It},St h hX L->RunW Pz (Go.convert 65 9 (.slice (subA p.a (Int.toNat (k:Int)) p.c 1) (Int.toNat (p.n:Nat)-Int.toNat (k:Int)) (p.c-Int.toNat (k:Int)))) hX fun v h'=>v=.string (bs (toB (B.drop k)))/\h'=hX:=fun hs=>cv_rl (hD.ext hs.ext) hbD;have cv8:∀ {hX:Heap} {s8:Sl} {L:List It},St h hX L->It.sl s8 5 1 ((eight (hsh (B.take k))).map u8C)∈L->RunW Pz (Go.convert 65 9 (.slice s8.a s8.n s8.c)) hX fun v h'=>v=.string (bs (toB (eight (hsh (B.take k)))))/\h'=hX:=fun hs hm=>cv_rl (hs.rlm hm (by decide) (by show 8<=_;decide)) (eight_byt _);have m8:∀(s8:Sl),It.sl s8 5 1 ((eight (hsh (B.take k))).map u8C)∈[It.sl s2 5 1 ((B.take k).map u8C)]++[.sl s8 5 1 ((eight (hsh (B.take k))).map u8C)]:=fun s8=>by simp
  have hl:=hsh_lt (B.take k);refine⟨?_,?_⟩
  .refine (of138 s2 (B.take k) _ (h2 hs) hbT).mono ?_;rintro _ _ ⟨rfl,rfl⟩;refine⟨_,rfl,?_,?_⟩
   .refine (eight137 _ _ hl).mono ?_;rintro _ h9 ⟨s8,rfl,hs8⟩;have hs:=hs.join hs8;refine⟨s8,rfl,?_,?_⟩
    .refine (cv8 hs (m8 s8)).mono ?_;rintro _ _ ⟨rfl,rfl⟩;refine⟨_,rfl,(cvD hs).mono ?_⟩;rintro _ _ ⟨rfl,rfl⟩;exact⟨_,rfl,fin hs⟩
    .refine (cvD hs).mono ?_;rintro _ _ ⟨rfl,rfl⟩;refine⟨_,rfl,(cv8 hs (m8 s8)).mono ?_⟩;rintro _ _ ⟨rfl,rfl⟩;exact⟨_,rfl,fin hs⟩
   .refine (cvD hs).mono ?_;rintro _ _ ⟨rfl,rfl⟩;refine⟨_,rfl,(eight137 _ _ hl).mono ?_⟩;rintro _ h9 ⟨s8,rfl,hs8⟩;have hs:=hs.join hs8;refine⟨s8,rfl,(cv8 hs (m8 s8)).mono ?_⟩;rintro _ _ ⟨rfl,rfl⟩;exact⟨_,rfl,fin hs⟩
  .refine (cvD hs).mono ?_;rintro _ _ ⟨rfl,rfl⟩;refine⟨_,rfl,(of138 s2 (B.take k) _ (h2 hs) hbT).mono ?_⟩;rintro _ _ ⟨rfl,rfl⟩;refine⟨_,rfl,(eight137 _ _ hl).mono ?_⟩;rintro _ h9 ⟨s8,rfl,hs8⟩;have hs:=hs.join hs8;refine⟨s8,rfl,(cv8 hs (m8 s8)).mono ?_⟩;rintro _ _ ⟨rfl,rfl⟩;exact⟨_,rfl,fin hs⟩
abbrev rdC (s:Sl) (k:Nat) (f:Bool):List Value:=[.slice s.a s.n s.c,.int .i64 (k:Int),.bool f]
def Rds (h0 h:Heap) (ty r:Nat) (s:Sl) (B:List Int) (o:Option (List Int)) (L:List It):Prop:=∃k:Nat,k<=B.length/\St h0 h (.blk r (rdC s k o.isNone) ty::L)/\∀l,o=some l->B.drop k=l
def RdV (h0:Heap) (ty r:Nat) (s:Sl) (B:List Int) (L:List It) (x:Option (Int × List Int)) (v:Value) (h':Heap):Prop:=∃n:Int,v=.int .i64 n/\Rds h0 h' ty r s B (x.map Prod.snd) L/\∀q,x=some q->n=q.1
theorem Rds.bad {h0 h:Heap} {ty r:Nat} {s:Sl} {B:List Int} {o:Option (List Int)} {L:List It} {k:Nat} (hk:k<=B.length) (hs:St h0 h (.blk r (rdC s k true) ty::L)) (ho:o=none):Rds h0 h ty r s B o L:=⟨k,hk,by rw[ho];exact hs,fun l hl=>by rw[ho] at hl;cases hl⟩
theorem Rds.ok {h0 h:Heap} {ty r:Nat} {s:Sl} {B:List Int} {o:Option (List Int)} {L:List It} {k:Nat} (hk:k<=B.length) (hs:St h0 h (.blk r (rdC s k false) ty::L)) (ho:o=some (B.drop k)):Rds h0 h ty r s B o L:=⟨k,hk,by rw[ho];exact hs,fun l hl=>by rw[ho] at hl;injection hl⟩
theorem dropG {B:List Int} {k:Nat} {x:Int} (h:B[k]?=some x):B.drop k=x::B.drop (k+1):=by
 obtain⟨h1,h2⟩:=Ya.1 h;rw[List.drop_eq_getElem_cons h1,h2]
theorem new72 (p:Sl) (B:List Int) (h:Heap) (hB:RL h 1 p u8C B):Fn Pz 82 #[.slice p.a p.n p.c] h fun v h'=>∃(s:Sl) (h1:Heap),v=.pointer (some ⟨h1.size,0,none⟩)/\Ext h h1/\RL h1 1 s u8C B/\St h1 h' [.blk h1.size (rdC s 0 false) 203]:=by
 apply vc82 p;unfold W82;have hn:=hB.ln;have hsm:=hB.sm;refine ((St.refl h).nil_ 5 1).appRw 0 rfl app48 hB.rw (u8rows _) hB.nil (oneU _) (by show (0+p.n)*1<=_;omega) (by show 0+p.n<=_;simp only[maxLen];omega) fun s1 h2 _ hs=>?_;have hR:RL h2 1 s1 u8C B:=hs.rl 0 rfl (by decide) hsm;have hE:=hs.ext;refine (St.refl h2).newb fun h3 hs=>?_;exact⟨s1,h2,rfl,hE,hR,hs⟩
theorem next167 (r:Nat) (s:Sl) (B:List Int) (k:Nat) (h0 h:Heap) (L:List It) (hB:RL h0 1 s u8C B) (hk:k<=B.length) (hs:St h0 h (.blk r (rdC s k false) 203::L)) :
  Fn Pz 182 #[.pointer (some ⟨r,0,none⟩),.int .i64 1] h fun v h'=>(∃x,B[k]?=some x/\∃s':Sl,v=.slice s'.a s'.n s'.c/\RL h0 1 s' u8C [x]/\St h0 h' (.blk r (rdC s (k+1) false) 203::L))\/(k=B.length/\∃s':Sl,v=.slice s'.a s'.n s'.c/\St h0 h' (.blk r (rdC s k true) 203::L)):=by
 apply vc182 ⟨r,0,none⟩ 1;unfold W182;have hn:=hB.ln;have hsm:=hB.sm;have hcap:=hB.cap;refine⟨false,hs.rd 0 rfl (i:=2) rfl,?_⟩;refine⟨s,hs.rd 0 rfl (i:=0) rfl,(k:Int),hs.rd 0 rfl (i:=1) rfl,?_⟩;rw[w64 (n:=(s.n:Int)-(k:Int)) (by omega) (by omega)];refine sBi (fun c=>?_) (fun c=>?_)
 .refine hs.put 0 rfl (o:=2) (vs:=[.bool true]) rfl (Yyt 3) fun h5 hs=>?_;exact .inr ⟨by omega,⟨none,0,0⟩,rfl,hs⟩
 .refine⟨(k:Int),hs.rd 0 rfl (i:=1) rfl,?_⟩;rw[w64 (n:=(k:Int)+1) (by omega) (by omega)];refine hs.put 0 rfl (o:=1) (vs:=[.int .i64 ((k:Int)+1)]) rfl (by show 2<=3;decide) fun h7 hs=>?_;replace hs:St h0 h7 (.blk r (rdC s (k+1) false) 203::L):=hs;refine⟨s,hs.rd 0 rfl (i:=0) rfl,((k+1:Nat):Int),hs.rd 0 rfl (i:=1) rfl,((k+1:Nat):Int),hs.rd 0 rfl (i:=1) rfl,?_⟩;rw[show ((k+1:Nat):Int)-1=(k:Int) by omega,w64 (n:=(k:Int)) (by omega) (by omega)];refine⟨⟨by omega,by omega,by omega⟩,?_⟩;obtain⟨x,gx⟩:∃x,B[k]?=some x:=⟨B[k],Yi (by omega)⟩;have hF:=(hB.from (i:=k) (by omega)).take (i:=1) (by show 1<=s.n-k;omega);rw[dropG gx] at hF;change RL h0 1 ⟨subA (subA s.a k s.c 1) 0 (s.c-k) 1,1,s.c-k⟩ u8C [x] at hF;rw[subA_zero] at hF;refine .inl ⟨x,gx,⟨subA s.a k s.c 1,1,s.c-k⟩,?_,hF,hs⟩;rw[show Int.toNat ((k+1:Nat):Int)-Int.toNat (k:Int)=1 by omega];rfl
theorem rdU_cons (j:Nat) (f:Bool) (c:Int) (l:List Int):rdU (j+1) f (c::l)=if c<128 then (if (c=0/\f=false)\/(j=0/\1<c) then none else some (c.toNat,l)) else (rdU j false l).map fun q=>(c.toNat-128+128*q.1,q.2):=rfl
theorem rdU_nil (j:Nat) (f:Bool):rdU j f []=none:=by cases j<;>rfl
theorem integer131 (r:Nat) (s:Sl) (B:List Int) (k:Nat) (h0 h:Heap) (L:List It) (hB:RL h0 1 s u8C B) (hb:Byt B) (hk0:k<=B.length) (hs:St h0 h (.blk r (rdC s k false) 203::L)) :
  Fn Pz 142 #[.pointer (some ⟨r,0,none⟩)] h (RdV h0 203 r s B L (rIq (B.drop k))):=by
 apply vc142 _;unfold W142 V142b V142a;have hn:=hB.ln;have hsm:=hB.sm;have fail:∀ {h':Heap} {m:Nat} (n:Int),m<=B.length->rdU 10 true (B.drop k)=none->St h0 h' (.blk r (rdC s m true) 203::L)->RdV h0 203 r s B L (rIq (B.drop k)) (.int .i64 n) h':=fun {h' m} n hm hr hs=>by
  have e:rIq (B.drop k)=none:=by unfold rIq;rw[hr];rfl
  exact⟨n,rfl,Rds.bad hm hs (by rw[e];rfl),fun q hq=>by rw[e] at hq;cases hq⟩
 have suc:∀ {h':Heap} {m:Nat} {n:Int} (u:Nat),n=zag u->m<=B.length->rdU 10 true (B.drop k)=some (u,B.drop m)->St h0 h' (.blk r (rdC s m false) 203::L)->RdV h0 203 r s B L (rIq (B.drop k)) (.int .i64 n) h':=fun {h' m n} u hz hm hr hs=>by
  have e:rIq (B.drop k)=some (zag u,B.drop m):=by unfold rIq;rw[hr];rfl
  exact⟨n,rfl,Rds.ok hm hs (by rw[e];rfl),fun q hq=>by rw[e] at hq;injection hq with hq;rw[<-hq];exact hz⟩
 refine⟨fun u x h' μ=>∃i:Nat,x=(i:Int)/\μ=10-i/\i<=10/\k+i<=B.length/\St h0 h' (.blk r (rdC s (k+i) false) 203::L) /\
  ((i<=9/\∃a:Nat,u=(a:Int)/\a<128^i/\rdU 10 true (B.drop k)=(rdU (10-i) (decide (i=0)) (B.drop (k+i))).map fun q=>(a+128^i*q.1,q.2))\/(i=10/\rdU 10 true (B.drop k)=none)),
  ⟨_,0,rfl,rfl,by omega,by omega,hs,.inl ⟨by omega,0,rfl,by decide,?_⟩⟩,?_⟩
 .show rdU 10 true (B.drop k)=Option.map _ (rdU 10 true (B.drop k));cases rdU 10 true (B.drop k) with
  | none=>rfl
  | some q=>simp
 clear hs;rintro-u _ h6 μ ⟨i,rfl,rfl,hi,hk,hs,hI⟩;refine sBi (fun c=>?_) (fun c=>?_);rotate_left
 .rcases hI with ⟨h9,_⟩ | ⟨_,hr⟩
  .omega
  .refine hs.put 0 rfl (o:=2) (vs:=[.bool true]) rfl (Yyt 3) fun h32 hs=>?_;exact fail 0 hk hr hs
 rcases hI with ⟨h9,a,rfl,ha,hr⟩ | ⟨h10,_⟩;rotate_left
 .omega
 obtain⟨j,hj⟩:∃j,10-i=j+1:=⟨9-i,by omega⟩;rw[hj] at hr;refine (next167 r s B (k+i) h0 h6 L hB hk hs).mono ?_;rintro _ h9' (⟨x,gx,s8,rfl,hR,hs⟩ | ⟨he,s8,rfl,hs⟩);rotate_left
 .refine⟨s8,rfl,true,hs.rd 0 rfl (i:=2) rfl,?_⟩;rw[he,List.drop_length,rdU_nil] at hr;exact fail 0 hk hr hs
 refine⟨s8,rfl,false,hs.rd 0 rfl (i:=2) rfl,?_⟩;have hR:=hR.rw.ext hs.ext;have hx:=hb x (Yb gx);have hkl:k+i+1<=B.length:=(Ya.1 gx).1;rw[dropG gx,rdU_cons] at hr;obtain⟨m,rfl⟩:∃m:Nat,x=(m:Int):=⟨x.toNat,by omega⟩;have get:∀ {F:Nat->Nat->Prop},(∀b o,(∃y:Int,hc h9' ⟨b,o+Int.toNat 0*1,none⟩=some (.int .u8 y)/\y=(m:Int))->F b o)->NB s8.a fun b o=>(0<=(0:Int)/\(0:Int)<(s8.n:Nat))/\F b o:=fun {F} hF=>by
  refine hR.nbI (x:=0) (by decide) (by rw[hR.ln];show (0:Int)<1;decide) fun b o d gd t=>hF b o ⟨d,t.hd,?_⟩;injection gd with gd;exact gd.symm
 refine get fun b11 o12 ⟨y,t,ey⟩=>⟨y,t,?_⟩;subst ey;refine⟨by rw[w64 (by omega) (by omega)];omega,?_⟩;refine get fun b14 o15 ⟨y,t2,ey⟩=>⟨y,t2,?_⟩;subst ey;have bits:=fun h=>acc_bits (a:=a) (i:=i) (c:=m) h9 (by omega) ha h;refine sBi (fun c1=>?_) (fun c1=>?_)
 .rw[if_pos c1] at hr;have hmm:m%128=m:=Nat.mod_eq_of_lt (by omega);have good:¬(((m:Int)=0/\decide (i=0)=false)\/(j=0/\1<(m:Int)))->∀ {h':Heap},St h0 h' (.blk r (rdC s (k+i+1) false) 203::L) ->
    RdV h0 203 r s B L (rIq (B.drop k)) (.int .i64 (xorI .i64 (IntKind.wrap .i64 (shrI .u64 (orI .u64 (a:Int) (shlI .u64 (IntKind.wrap .u64 (andI .u8 (m:Int) 127)) (IntKind.wrap .i64 (7*(i:Int))))) 1)) (IntKind.wrap .i64 (0-(IntKind.wrap .i64 (andI .u64 (orI .u64 (a:Int) (shlI .u64 (IntKind.wrap .u64 (andI .u8 (m:Int) 127)) (IntKind.wrap .i64 (7*(i:Int))))) 1)))))) h':=fun hg {h'} hs=>by
   obtain⟨b1,b2⟩:=bits (fun e=>by
    by_cases h:1<m
    .exact absurd (Or.inr ⟨by omega,by omega⟩) hg
    .omega)
   rw[hmm] at b1 b2;rw[b1];rw[if_neg hg] at hr;refine suc (a+128^i*m) (zag_bits ?_) hkl hr hs;refine Nat.lt_of_lt_of_le b2 ?_;split
   .exact Yyt _
   .have:128^(i+1)<=128^9:=Nat.pow_le_pow_right (by decide) (by omega);have e:128^9=9223372036854775808:=by decide
    omega
  refine get fun b17 o18 ⟨y,t3,ey⟩=>⟨y,t3,?_⟩;subst ey;have nine:∀ {K:Heap->Prop},(∀h',St h0 h' (.blk r (rdC s (k+i+1) (decide ((m:Int)>1))) 203::L)->K h')->NB s8.a fun b o=>(0<=(0:Int)/\(0:Int)<(s8.n:Nat))/\∃y:Int,hc h9' ⟨b,o+Int.toNat 0*1,none⟩=some (.int .u8 y)/\(okAt h9' ⟨r,0+2,none⟩ 1/\∀h24:Heap,h24=hputs h9' ⟨r,0+2,none⟩ 0 [.bool (decide (y>1))]->K h24):=fun {K} hK=>by
   refine get fun b21 o22 ⟨y,t4,ey⟩=>⟨y,t4,?_⟩;subst ey;exact hs.put 0 rfl (o:=2) (vs:=[.bool (decide ((m:Int)>1))]) rfl (Yyt 3) fun h24 hs=>hK h24 hs
  have mid:¬((m:Int)=0/\decide (i=0)=false)->sB ((i:Int)==9) (NB s8.a fun b o=>(0<=(0:Int)/\(0:Int)<(s8.n:Nat))/\∃y:Int,hc h9' ⟨b,o+Int.toNat 0*1,none⟩=some (.int .u8 y)/\(okAt h9' ⟨r,0+2,none⟩ 1/\∀h24:Heap,h24=hputs h9' ⟨r,0+2,none⟩ 0 [.bool (decide (y>1))]->0<=(1:Int)/\RdV h0 203 r s B L (rIq (B.drop k)) (.int .i64 (xorI .i64 (IntKind.wrap .i64 (shrI .u64 (orI .u64 (a:Int) (shlI .u64 (IntKind.wrap .u64 (andI .u8 (m:Int) 127)) (IntKind.wrap .i64 (7*(i:Int))))) 1)) (IntKind.wrap .i64 (0-(IntKind.wrap .i64 (andI .u64 (orI .u64 (a:Int) (shlI .u64 (IntKind.wrap .u64 (andI .u8 (m:Int) 127)) (IntKind.wrap .i64 (7*(i:Int))))) 1)))))) h24))
    (okAt h9' ⟨r,0+2,none⟩ 1/\∀h25:Heap,h25=hputs h9' ⟨r,0+2,none⟩ 0 [.bool false]->0<=(1:Int)/\RdV h0 203 r s B L (rIq (B.drop k)) (.int .i64 (xorI .i64 (IntKind.wrap .i64 (shrI .u64 (orI .u64 (a:Int) (shlI .u64 (IntKind.wrap .u64 (andI .u8 (m:Int) 127)) (IntKind.wrap .i64 (7*(i:Int))))) 1)) (IntKind.wrap .i64 (0-(IntKind.wrap .i64 (andI .u64 (orI .u64 (a:Int) (shlI .u64 (IntKind.wrap .u64 (andI .u8 (m:Int) 127)) (IntKind.wrap .i64 (7*(i:Int))))) 1)))))) h25):=fun hz=>by
   refine sBe (fun c3=>?_) (fun c3=>?_)
   .refine nine fun h24 hs=>⟨by decide,?_⟩;by_cases h1:(m:Int)>1
    .rw[decide_eq_true h1] at hs;exact fail _ hkl (by rw[hr,if_pos (Or.inr ⟨by omega,h1⟩)];rfl) hs
    .rw[decide_eq_false h1] at hs;exact good (by rintro (h | h);exact hz h;exact h1 h.2) hs
   .refine hs.put 0 rfl (o:=2) (vs:=[.bool false]) rfl (Yyt 3) fun h25 hs=>⟨by decide,?_⟩;exact good (by rintro (h | h);exact hz h;omega) hs
  refine sBe (fun c2=>?_) (fun c2=>?_)
  .refine sBi (fun c3=>?_) (fun c3=>?_)
   .refine hs.put 0 rfl (o:=2) (vs:=[.bool true]) rfl (Yyt 3) fun h20 hs=>⟨by decide,?_⟩;exact fail _ hkl (by rw[hr,if_pos (Or.inl ⟨c2,decide_eq_false (by omega)⟩)];rfl) hs
   .exact mid (by rintro⟨_,h⟩;have:=Yyo h;omega)
  .exact mid (fun h=>c2 h.1)
 .rw[if_neg c1] at hr;refine⟨_,(show 10-(i+1)<10-i by omega),i+1,by rw[w64 (by omega) (by omega)];omega,rfl,by omega,by omega,hs,?_⟩;have hmm:m%128=m-128:=by omega
  by_cases h9i:i=9
  .refine .inr ⟨by omega,?_⟩;rw[hr,show j=0 by omega];rfl
  .obtain⟨b1,b2⟩:=bits (fun e=>absurd e h9i);rw[if_neg h9i] at b2;refine .inl ⟨by omega,_,b1,b2,?_⟩;rw[hr,show 10-(i+1)=j by omega,show decide (i+1=0)=false from rfl,Option.map_map,<-Nat.add_assoc,hmm];congr 1
   funext q
   simp only[Function.comp,Prod.mk.injEq,and_true,Ys];rw[Nat.mul_add,Nat.pow_succ,<-Nat.mul_assoc,Nat.add_assoc]
theorem Rds.sub {h0 h:Heap} {ty r:Nat} {s:Sl} {B:List Int} {o:Option (List Int)} {L L':List It} (hr:Rds h0 h ty r s B o L) (hl:L'.Sublist L):Rds h0 h ty r s B o L':=by
 obtain⟨k,hk,hs,ho⟩:=hr;exact⟨k,hk,hs.sub (.cons_cons _ hl),ho⟩
def RdZ (h0:Heap) (ty r:Nat) (s:Sl) (B:List Int) (L:List It) (x:Option (Int × List Int)) (v:Value) (h':Heap):Prop:=v=.int .i64 ((x.map Prod.fst).getD 0)/\Rds h0 h' ty r s B (x.map Prod.snd) L
theorem part130 {g:FuncId} {fa fc:Array Value} (hg:callable Pz g=true) (x:List Int->Option (Int × List Int)) (r:Nat) (s:Sl) (B:List Int) (h0 h:Heap) (o:Option (List Int)) (L:List It) (hr:Rds h0 h 203 r s B o L)
  (hread:∀k,k<=B.length->St h0 h (.blk r (rdC s k false) 203::L)->Fn Pz g (fa ++ #[]++fc) h (RdV h0 203 r s B L (x (B.drop k)))) :
  Fn Pz 141 #[.pointer (some ⟨r,0,none⟩),.func (.func g) fa fc] h (RdZ h0 203 r s B L (o.bind x)):=by
 apply vc141 _ _;unfold W141 V141a;obtain⟨k,hk,hs,ho⟩:=hr;refine⟨o.isNone,hs.rd 0 rfl (i:=2) rfl,?_⟩;cases o with
 | none=>exact⟨rfl,k,hk,hs,fun l hl=>by cases hl⟩
 | some l=>
  refine⟨(k:Int),hs.rd 0 rfl (i:=1) rfl,?_⟩;have el:=ho l rfl;subst el;simp only[hg,cond];refine (hread k hk hs).mono ?_;rintro _ h8 ⟨n,rfl,⟨k',hk',hs,ho'⟩,hv⟩;refine⟨n,rfl,_,hs.rd 0 rfl (i:=2) rfl,?_⟩;show sB (Option.map Prod.snd (x (B.drop k))).isNone _ _;show sB _ (okAt h8 ⟨r,0+1,none⟩ 1/\∀h10:Heap,h10=hputs h8 ⟨r,0+1,none⟩ 0 [.int .i64 (k:Int)]->RdZ h0 203 r s B L (x (B.drop k)) (.int .i64 0) h10) (RdZ h0 203 r s B L (x (B.drop k)) (.int .i64 n) h8);cases hx:x (B.drop k) with
  | none=>
   rw[hx] at hs;refine hs.put 0 rfl (o:=1) (vs:=[.int .i64 (k:Int)]) rfl (show 2<=3 by decide) fun h10 hs=>?_;exact⟨rfl,Rds.bad hk hs rfl⟩
  | some q=>
   rw[hx] at hs ho';exact⟨by rw[hv q hx];rfl,k',hk',hs,ho'⟩
theorem call131:callable Pz 142=true:=by kernel_rfl
theorem call132:callable Pz 143=true:=by kernel_rfl
theorem int73 (r:Nat) (s:Sl) (B:List Int) (h0 h:Heap) (o:Option (List Int)) (L:List It) (hB:RL h0 1 s u8C B) (hb:Byt B) (hr:Rds h0 h 203 r s B o L) :
  Fn Pz 83 #[.pointer (some ⟨r,0,none⟩)] h (RdZ h0 203 r s B L (o.bind rIq)):=by
 apply vc83 _;unfold W83;refine (part130 (fa:=#[.pointer (some ⟨r,0,none⟩)]) (fc:=#[]) call131 rIq r s B h0 h o L hr fun k hk hs=>integer131 r s B k h0 h L hB hb hk hs).mono ?_;rintro _ h' ⟨rfl,hz⟩;exact⟨_,rfl,rfl,hz⟩
theorem bounded133 (lo hi:Int) (r:Nat) (s:Sl) (B:List Int) (k:Nat) (h0 h:Heap) (L:List It) (hB:RL h0 1 s u8C B) (hb:Byt B) (hk:k<=B.length) (hs:St h0 h (.blk r (rdC s k false) 203::L)) :
  Fn Pz 144 #[.pointer (some ⟨r,0,none⟩),.int .i64 lo,.int .i64 hi] h (RdV h0 203 r s B L (rBd lo hi (B.drop k))):=by
 apply vc144 _ lo hi;unfold W144;refine (integer131 r s B k h0 h L hB hb hk hs).mono ?_;rintro _ h3 ⟨n,rfl,⟨k',hk',hs,ho⟩,hv⟩;refine⟨n,rfl,_,hs.rd 0 rfl (i:=2) rfl,?_⟩;have bad:∀ {h5:Heap},rBd lo hi (B.drop k)=none->St h0 h5 (.blk r (rdC s k' true) 203::L)->RdV h0 203 r s B L (rBd lo hi (B.drop k)) (.int .i64 n) h5:=fun {h5} e hs=>⟨n,rfl,Rds.bad hk' hs (by rw[e];rfl),fun q hq=>by rw[e] at hq;cases hq⟩;cases hx:rIq (B.drop k) with
 | none=>
  refine hs.put 0 rfl (o:=2) (vs:=[.bool true]) rfl (Yyt 3) fun h5 hs=>?_;exact bad (by unfold rBd;rw[hx];rfl) hs
 | some q=>
  have en:=hv q hx;rw[hx] at ho;have e:rBd lo hi (B.drop k)=if lo<=q.1/\q.1<=hi then some q else none:=by unfold rBd;rw[hx];rfl
  refine sBi (fun c=>?_) (fun c=>?_)
  .refine hs.put 0 rfl (o:=2) (vs:=[.bool true]) rfl (Yyt 3) fun h6 hs=>?_;exact bad (by rw[e,if_neg (by omega)]) hs
  .refine hs.put 0 rfl (o:=2) (vs:=[.bool (decide (n>hi))]) rfl (Yyt 3) fun h7 hs=>?_;by_cases c2:n>hi
   .refine bad (by rw[e,if_neg (by omega)]) ?_;rw[decide_eq_true c2] at hs;exact hs
   .rw[decide_eq_false c2] at hs;rw[if_pos (by omega)] at e;exact⟨n,rfl,Rds.ok hk' hs (by rw[e];exact congrArg some (ho _ rfl).symm),fun q' hq=>by rw[e] at hq;injection hq with hq;rw[<-hq];exact en⟩
theorem bounded74 (lo hi:Int) (r:Nat) (s:Sl) (B:List Int) (h0 h:Heap) (o:Option (List Int)) (L:List It) (hB:RL h0 1 s u8C B) (hb:Byt B) (hr:Rds h0 h 203 r s B o L) :
  Fn Pz 84 #[.pointer (some ⟨r,0,none⟩),.int .i64 lo,.int .i64 hi] h (RdZ h0 203 r s B L (o.bind (rBd lo hi))):=by
 apply vc84 _ lo hi;unfold W84;obtain⟨k,hk,hs,ho⟩:=hr;refine hs.newb fun h1 hs=>?_;refine hs.newb fun h2 hs=>?_;refine hs.newb fun h3 hs=>?_;refine⟨_,hs.rd 2 rfl (i:=0) rfl,?_⟩;have hs:=hs.pick 3 rfl;refine (part130 (fa:=#[]) (fc:=#[.pointer (some ⟨h.size,0,none⟩),.pointer (some ⟨h1.size,0,none⟩),.pointer (some ⟨h2.size,0,none⟩)]) call132 (rBd lo hi) r s B h0 h3 o _ ⟨k,hk,hs,ho⟩ fun k hk hs=>?_).mono ?_
 .show Fn Pz 143 #[.pointer (some ⟨h.size,0,none⟩),.pointer (some ⟨h1.size,0,none⟩),.pointer (some ⟨h2.size,0,none⟩)] h3 _;apply vc143;unfold W143;refine⟨_,hs.rd 3 rfl (i:=0) rfl,_,hs.rd 2 rfl (i:=0) rfl,_,hs.rd 1 rfl (i:=0) rfl,?_⟩;refine (bounded133 lo hi r s B k h0 h3 _ hB hb hk hs).mono ?_;rintro _ h6 ⟨n,rfl,hz⟩;exact⟨n,rfl,n,rfl,hz⟩
 .rintro _ h7 ⟨rfl,hz⟩;exact⟨_,rfl,rfl,hz.sub (.cons _ (.cons _ (.cons _ (List.Sublist.refl _))))⟩
theorem left75 (ty r:Nat) (s:Sl) (B:List Int) (h0 h:Heap) (o:Option (List Int)) (L:List It) (hB:RL h0 1 s u8C B) (hr:Rds h0 h ty r s B o L) :
  Fn Pz 147 #[.pointer (some ⟨r,0,none⟩)] h fun v h'=>∃n:Nat,v=.int .i64 (n:Int)/\h'=h/\∀l,o=some l->n=l.length:=by
 apply vc147 _;unfold W147;obtain⟨k,hk,hs,ho⟩:=hr;have hn:=hB.ln;have hsm:=hB.sm;refine⟨s,hs.rd 0 rfl (i:=0) rfl,_,hs.rd 0 rfl (i:=1) rfl,B.length-k,?_,rfl,fun l hl=>?_⟩
 .rw[w64 (by omega) (by omega)];congr 1;omega
 .rw[<-ho l hl,List.length_drop]
def endE (o:Option (List Int)):Int:=if o=some [] then 0 else 4
theorem end77 (r:Nat) (s:Sl) (B:List Int) (h0 h:Heap) (o:Option (List Int)) (L:List It) (hB:RL h0 1 s u8C B) (hr:Rds h0 h 203 r s B o L) :
  Fn Pz 86 #[.pointer (some ⟨r,0,none⟩)] h fun v h'=>v=.int .i64 (endE o)/\h'=h:=by
 apply vc86 _;unfold W86;have hl:=left75 203 r s B h0 h o L hB hr;obtain⟨k,hk,hs,ho⟩:=hr;refine⟨_,hs.rd 0 rfl (i:=2) rfl,?_⟩;cases o with
 | none=>exact⟨rfl,rfl⟩
 | some l=>
  refine sB_f rfl (hl.mono ?_);rintro _ _ ⟨n,rfl,rfl,hn⟩;have hn:=hn l rfl;refine⟨n,rfl,sBi (fun c=>?_) (fun c=>?_)⟩
  .refine⟨?_,rfl⟩;unfold endE;rw[if_neg (fun e=>by injection e with e;rw[e] at hn;simp at hn;omega)]
  .refine⟨?_,rfl⟩;unfold endE;rw[if_pos (by rw[List.length_eq_zero_iff.1 (show l.length=0 by omega)])]
theorem St.swap {h0 h:Heap} {a b:It} {L:List It} (hs:St h0 h (a::b::L)):St h0 h (b::a::L):=hs.perm (List.Perm.swap b a L)
theorem fail139 (r:Nat) (s:Sl) (k k':Nat) (f:Bool) (h0 h:Heap) (L:List It) (hs:St h0 h (.blk r (rdC s k' f) 139::L)) :
  Fn Pz 150 #[.pointer (some ⟨r,0,none⟩),.int .i64 (k:Int)] h fun v h'=>v=.tuple ⟨[]⟩/\St h0 h' (.blk r (rdC s k true) 139::L):=by
 apply vc150 _ _;unfold W150;refine hs.put 0 rfl (o:=1) (vs:=[.int .i64 (k:Int)]) rfl (show 2<=3 by decide) fun h1 hs=>?_;refine hs.put 0 rfl (o:=2) (vs:=[.bool true]) rfl (Yyt 3) fun h2 hs=>?_;exact⟨rfl,hs⟩
theorem zag_ref {u:Nat} (hu:u<18446744073709551616) {F:Value->Prop} (hF:F (.int .i64 (zag u))) :
  (2:Int)≠0/\sB ((Int.tmod (u:Int) 2)==1) ((2:Int)≠0/\F (.int .i64 (IntKind.wrap .i64 ((IntKind.wrap .i64 (0-(IntKind.wrap .i64 (IntKind.wrap .u64 (Int.tdiv (u:Int) 2)))))-1)))) ((2:Int)≠0/\F (.int .i64 (IntKind.wrap .i64 (IntKind.wrap .u64 (Int.tdiv (u:Int) 2))))):=by
 have e1:Int.tdiv (u:Int) 2=((u/2:Nat):Int):=rfl;have e2:Int.tmod (u:Int) 2=((u%2:Nat):Int):=rfl;refine⟨by decide,?_⟩;rw[e1,e2,wu64 (n:=((u/2:Nat):Int)) (by omega) (by omega),w64 (n:=((u/2:Nat):Int)) (by omega) (by omega),w64 (n:=0-((u/2:Nat):Int)) (by omega) (by omega),w64 (n:=0-((u/2:Nat):Int)-1) (by omega) (by omega)];unfold zag at hF;refine sBe (fun c=>?_) (fun c=>?_)
 .rw[if_neg (by omega)] at hF;refine⟨by decide,?_⟩;rw[show 0-((u/2:Nat):Int)-1=-((u/2:Nat):Int)-1 by omega];exact hF
 .rw[if_pos (by omega)] at hF;exact⟨by decide,hF⟩
theorem acc_ref {a i c:Nat} (hi:i<=9) (ha:a<128^i) (h9:i=9->c%128<=1) :
  IntKind.wrap .u64 ((a:Int)+(IntKind.wrap .u64 (((c%128:Nat):Int)*((128^i:Nat):Int))))=((a+128^i*(c%128):Nat):Int)/\a+128^i*(c%128)<(if i=9 then 18446744073709551616 else 128^(i+1)):=by
 have hb:a+128^i*(c%128)<(if i=9 then 18446744073709551616 else 128^(i+1)):=by
  split
  .rename_i h;subst h;have:=h9 rfl;have e:128^9=9223372036854775808:=by decide
   rw[e] at ha ⊢;omega
  .rw[Nat.pow_succ];have h1:c%128<=127:=by omega
   have h2:=Nat.mul_le_mul_left (128^i) h1;omega
 have hlt:a+128^i*(c%128)<18446744073709551616:=by
  refine Nat.lt_of_lt_of_le hb ?_;split
  .exact Yyt _
  .have:128^(i+1)<=128^9:=Nat.pow_le_pow_right (by decide) (by omega);have e:128^9=9223372036854775808:=by decide
   omega
 refine⟨?_,hb⟩;have e:((c%128:Nat):Int)*((128^i:Nat):Int)=((128^i*(c%128):Nat):Int):=by rw[<-Int.natCast_mul,Nat.mul_comm]
 rw[e];generalize 128^i*(c%128)=z at *;rw[wu64 (n:=(z:Int)) (by omega) (by omega),wu64 (by omega) (by omega)];omega
theorem integer79 (r:Nat) (s:Sl) (B:List Int) (h0 h:Heap) (o:Option (List Int)) (L:List It) (hB:RL h0 1 s u8C B) (hb:Byt B) (hr:Rds h0 h 139 r s B o L) :
  Fn Pz 88 #[.pointer (some ⟨r,0,none⟩)] h (RdZ h0 139 r s B L (o.bind rIq)):=by
 apply vc88 _;unfold W88 V88a V88b;have hn:=hB.ln;have hsm:=hB.sm;obtain⟨k,hk0,hs,ho⟩:=hr;have fail:∀ {h':Heap} {f:Bool},o.bind rIq=none->St h0 h' (.blk r (rdC s k f) 139::L)->okAt h' ⟨r,0+2,none⟩ 1/\∀h36:Heap,h36=hputs h' ⟨r,0+2,none⟩ 0 [.bool true]->RdZ h0 139 r s B L (o.bind rIq) (.int .i64 0) h36:=fun {h' f} e hs=>by
  refine hs.put 0 rfl (o:=2) (vs:=[.bool true]) rfl (Yyt 3) fun h36 hs=>?_;exact⟨by rw[e];rfl,Rds.bad hk0 hs (by rw[e];rfl)⟩
 have no:o=none->o.bind rIq=none:=fun e=>by rw[e];rfl
 have nr:rdU 10 true (B.drop k)=none->o.bind rIq=none:=fun e=>by
  cases ho':o with
  | none=>rfl
  | some l=>rw[<-ho l ho'];show rIq (B.drop k)=none;unfold rIq;rw[e];rfl
 refine⟨(k:Int),hs.rd 0 rfl (i:=1) rfl,?_⟩;refine⟨fun u w x h' μ=>∃i:Nat,x=((k+i:Nat):Int)/\μ=10-i/\i<=10/\k+i<=B.length/\St h0 h' (.blk r (rdC s k o.isNone) 139::L) /\
  ((i<=9/\∃a:Nat,u=(a:Int)/\w=((128^i:Nat):Int)/\a<128^i/\rdU 10 true (B.drop k)=(rdU (10-i) (decide (i=0)) (B.drop (k+i))).map fun q=>(a+128^i*q.1,q.2))\/(i=10/\rdU 10 true (B.drop k)=none)),
  ⟨_,0,rfl,rfl,by omega,by omega,hs,.inl ⟨by omega,0,rfl,rfl,by decide,?_⟩⟩,?_⟩
 .show rdU 10 true (B.drop k)=Option.map _ (rdU 10 true (B.drop k));cases rdU 10 true (B.drop k) with
  | none=>rfl
  | some q=>simp
 clear hs;rintro-u w _ h8 μ ⟨i,rfl,rfl,hi,hk,hs,hI⟩;refine⟨s,hs.rd 0 rfl (i:=0) rfl,?_⟩;refine sBi (fun c=>?_) (fun c=>?_);rotate_left
 .refine fail ?_ hs;rcases hI with ⟨_,a,_,_,_,hr⟩ | ⟨_,hr⟩
  .refine nr ?_;rw[hr,List.drop_eq_nil_of_le (by omega),rdU_nil];rfl
  .exact nr hr
 refine⟨(k:Int),hs.rd 0 rfl (i:=1) rfl,?_⟩;rw[w64 (n:=(k:Int)+10) (by omega) (by omega)];refine sBi (fun c2=>?_) (fun c2=>?_);rotate_left
 .refine fail ?_ hs;rcases hI with ⟨_,_⟩ | ⟨_,hr⟩
  .omega
  .exact nr hr
 rcases hI with ⟨h9,a,rfl,rfl,ha,hr⟩ | ⟨h10,_⟩;rotate_left
 .omega
 refine⟨_,hs.rd 0 rfl (i:=2) rfl,?_⟩;cases ho1:o with
 | none=>
  rw[ho1] at fail no hs;exact fail rfl hs
 | some l=>
 rw[ho1] at fail hs no nr;have el:=ho l ho1;subst el;refine sB_t rfl ?_;obtain⟨j,hj⟩:∃j,10-i=j+1:=⟨9-i,by omega⟩;rw[hj] at hr;obtain⟨x,gx⟩:∃x,B[k+i]?=some x:=⟨B[k+i],Yi (by omega)⟩;have hx:=hb x (Yb gx);have hkl:k+i+1<=B.length:=(Ya.1 gx).1;rw[dropG gx,rdU_cons] at hr;obtain⟨m,rfl⟩:∃m:Nat,x=(m:Int):=⟨x.toNat,by omega⟩;have hR:=hB.rw.ext hs.ext;have get:∀ {F:Nat->Nat->Prop},(∀b o,(∃y:Int,hc h8 ⟨b,o+Int.toNat ((k+i:Nat):Int)*1,none⟩=some (.int .u8 y)/\y=(m:Int))->F b o)->NB s.a fun b o=>(0<=((k+i:Nat):Int)/\((k+i:Nat):Int)<(s.n:Nat))/\F b o:=fun {F} hF=>by
  refine hR.nbI (x:=((k+i:Nat):Int)) (by omega) (by omega) fun b o d gd t=>hF b o ⟨d,t.hd,?_⟩;replace gd:B[k+i]?=some d:=gd;rw[gx] at gd;injection gd with gd;exact gd.symm
 refine⟨s,hs.rd 0 rfl (i:=0) rfl,get fun b13 o14 hy=>?_⟩;obtain⟨y,t,ey⟩:=hy;refine⟨y,t,by decide,(k:Int),hs.rd 0 rfl (i:=1) rfl,?_⟩;subst ey;have e2:Int.tmod (m:Int) 128=((m%128:Nat):Int):=rfl;rw[w64 (n:=(k:Int)+9) (by omega) (by omega),e2,wu64 (n:=((m%128:Nat):Int)) (by omega) (by omega),w64 (n:=((k+i:Nat):Int)+1) (by omega) (by omega)];have bits:=fun h=>acc_ref (a:=a) (i:=i) (c:=m) h9 ha h;have u64:∀ {z:Nat},z<(if i=9 then 18446744073709551616 else 128^(i+1))->z<18446744073709551616:=fun {z} hz=>by
  refine Nat.lt_of_lt_of_le hz ?_;split
  .exact Yyt _
  .have:128^(i+1)<=128^9:=Nat.pow_le_pow_right (by decide) (by omega);have e:128^9=9223372036854775808:=by decide
   omega
 have good:(i=9->m%128<=1)->(m:Int)<128->¬((m:Int)=0/\decide (i=0)=false)->okAt h8 ⟨r,0+1,none⟩ 1/\∀h25:Heap,h25=hputs h8 ⟨r,0+1,none⟩ 0 [.int .i64 (((k+i:Nat):Int)+1)] ->
   ((2:Int)≠0/\sB ((Int.tmod (IntKind.wrap .u64 ((a:Int)+(IntKind.wrap .u64 (((m%128:Nat):Int)*((128^i:Nat):Int))))) 2)==1)
    ((2:Int)≠0/\RdZ h0 139 r s B L (Option.bind (some (B.drop k)) rIq) (.int .i64 (IntKind.wrap .i64 ((IntKind.wrap .i64 (0-(IntKind.wrap .i64 (IntKind.wrap .u64 (Int.tdiv (IntKind.wrap .u64 ((a:Int)+(IntKind.wrap .u64 (((m%128:Nat):Int)*((128^i:Nat):Int))))) 2)))))-1))) h25)
    ((2:Int)≠0/\RdZ h0 139 r s B L (Option.bind (some (B.drop k)) rIq) (.int .i64 (IntKind.wrap .i64 (IntKind.wrap .u64 (Int.tdiv (IntKind.wrap .u64 ((a:Int)+(IntKind.wrap .u64 (((m%128:Nat):Int)*((128^i:Nat):Int))))) 2)))) h25)):=fun hd hm hz=>by
  obtain⟨b1,b2⟩:=bits hd;have hmm:m%128=m:=Nat.mod_eq_of_lt (by omega);rw[b1];refine hs.put 0 rfl (o:=1) (vs:=[.int .i64 (((k+i:Nat):Int)+1)]) rfl (show 2<=3 by decide) fun h25 hs=>?_;replace hs:St h0 h25 (.blk r (rdC s (k+i+1) false) 139::L):=hs;refine zag_ref (F:=fun v=>RdZ h0 139 r s B L (Option.bind (some (B.drop k)) rIq) v h25) (u64 b2) ?_;rw[if_pos hm,if_neg (by rintro (h | h);exact hz h;exact absurd h.2 (by have:=hd (by omega);omega))] at hr;have er:rIq (B.drop k)=some (zag (a+128^i*(m%128)),B.drop (k+i+1)):=by unfold rIq;rw[hr,hmm];rfl
  exact⟨by show _=Value.int .i64 (Option.getD (Option.map Prod.fst (rIq (B.drop k))) 0);rw[er];rfl,Rds.ok hkl hs (by show Option.map Prod.snd (rIq (B.drop k))=_;rw[er];rfl)⟩
 have next:(i=9->m%128<=1)->¬(m:Int)<128->∃m22,m22<10-i/\∃i':Nat,((k+i:Nat):Int)+1=((k+i':Nat):Int)/\m22=10-i'/\i'<=10/\k+i'<=B.length/\St h0 h8 (.blk r (rdC s k false) 139::L) /\
   ((i'<=9/\∃a':Nat,IntKind.wrap .u64 ((a:Int)+(IntKind.wrap .u64 (((m%128:Nat):Int)*((128^i:Nat):Int))))=(a':Int)/\IntKind.wrap .u64 (((128^i:Nat):Int)*128)=((128^i':Nat):Int)/\a'<128^i'/\rdU 10 true (B.drop k)=(rdU (10-i') (decide (i'=0)) (B.drop (k+i'))).map fun q=>(a'+128^i'*q.1,q.2))\/(i'=10/\rdU 10 true (B.drop k)=none)):=fun hd c1=>by
  rw[if_neg c1] at hr;refine⟨_,(show 10-(i+1)<10-i by omega),i+1,by omega,rfl,by omega,by omega,hs,?_⟩;by_cases h9i:i=9
  .refine .inr ⟨by omega,?_⟩;rw[hr,show j=0 by omega];rfl
  .obtain⟨b1,b2⟩:=bits hd;rw[if_neg h9i] at b2;have hp:128^(i+1)<=128^9:=Nat.pow_le_pow_right (by decide) (by omega);have ep:128^9=9223372036854775808:=by decide
   refine .inl ⟨by omega,_,b1,?_,b2,?_⟩
   .have e:((128^i:Nat):Int)*128=((128^(i+1):Nat):Int):=by rw[Nat.pow_succ,Int.natCast_mul];rfl
    rw[e];generalize 128^(i+1)=z at *;exact wu64 (by omega) (by omega)
   .have hmm:m%128=m-128:=by omega
    rw[hr,show 10-(i+1)=j by omega,show decide (i+1=0)=false from rfl,Option.map_map,<-Nat.add_assoc,hmm];congr 1
    funext q
    simp only[Function.comp,Prod.mk.injEq,and_true,Ys];rw[Nat.mul_add,Nat.pow_succ,<-Nat.mul_assoc,Nat.add_assoc]
 have bad:(m:Int)<128->((m:Int)=0/\decide (i=0)=false)\/(j=0/\1<(m:Int))->Option.bind (some (B.drop k)) rIq=none:=fun h1 h2=>nr (by rw[hr,if_pos h1,if_pos h2];rfl);refine sBe (fun c3=>?_) (fun c3=>?_)
 .refine sBi (fun c4=>?_) (fun c4=>?_)
  .refine fail ?_ hs;by_cases h1:(m:Int)<128
   .exact bad h1 (.inr ⟨by clear next good;omega,by clear next good;omega⟩)
   .exact nr (by rw[hr,if_neg h1,show j=0 by clear next good;omega];rfl)
  .refine⟨s,hs.rd 0 rfl (i:=0) rfl,get fun b19 o20 hy=>?_⟩;obtain⟨y,t2,ey⟩:=hy;refine⟨y,t2,?_⟩;subst ey;refine sBi (fun c5=>next (fun _=>by omega) (by omega)) (fun c5=>?_);refine sBe (fun c6=>?_) (fun c6=>good (fun _=>by omega) (by omega) (by omega));refine⟨(k:Int),hs.rd 0 rfl (i:=1) rfl,sBi (fun c7=>?_) (fun c7=>absurd c7 (by omega))⟩;exact fail (bad (by omega) (.inl ⟨by omega,decide_eq_false (by omega)⟩)) hs
 .refine⟨s,hs.rd 0 rfl (i:=0) rfl,get fun b19 o20 hy=>?_⟩;obtain⟨y,t2,ey⟩:=hy;refine⟨y,t2,?_⟩;subst ey;refine sBi (fun c5=>next (fun _=>by omega) (by omega)) (fun c5=>?_);refine sBe (fun c6=>?_) (fun c6=>good (fun _=>by omega) (by omega) (by omega));refine⟨(k:Int),hs.rd 0 rfl (i:=1) rfl,sBi (fun c7=>?_) (fun c7=>good (fun _=>by omega) (by omega) (by rintro⟨_,h⟩;have:=Yyo h;omega))⟩;exact fail (bad (by omega) (.inl ⟨by omega,decide_eq_false (by omega)⟩)) hs
theorem bounded80 (lo hi:Int) (r:Nat) (s:Sl) (B:List Int) (h0 h:Heap) (o:Option (List Int)) (L:List It) (hB:RL h0 1 s u8C B) (hb:Byt B) (hr:Rds h0 h 139 r s B o L) :
  Fn Pz 89 #[.pointer (some ⟨r,0,none⟩),.int .i64 lo,.int .i64 hi] h (RdZ h0 139 r s B L (o.bind (rBd lo hi))):=by
 apply vc89 _ lo hi;unfold W89;have hi79:=integer79 r s B h0 h o L hB hb hr;obtain⟨k,hk,hs,ho⟩:=hr;refine⟨(k:Int),hs.rd 0 rfl (i:=1) rfl,?_⟩;refine hi79.mono ?_;rintro _ h4 ⟨rfl,⟨k',hk',hs,ho'⟩⟩;have bd:∀q,o.bind rIq=some q->o.bind (rBd lo hi)=if lo<=q.1/\q.1<=hi then some q else none:=fun q hq=>by
  cases o with
  | none=>cases hq
  | some l=>show rBd lo hi l=_;unfold rBd;rw[show rIq l=some q from hq];rfl
 have bad:o.bind (rBd lo hi)=none->∀ {f:Bool},St h0 h4 (.blk r (rdC s k' f) 139::L)->Fn Pz 150 #[.pointer (some ⟨r,0,none⟩),.int .i64 (k:Int)] h4 fun v h'=>v=.tuple ⟨[]⟩/\RdZ h0 139 r s B L (o.bind (rBd lo hi)) (.int .i64 0) h':=fun e {f} hs=>by
  refine (fail139 r s k k' f h0 h4 L hs).mono ?_;rintro _ h' ⟨rfl,hs⟩;exact⟨rfl,by rw[e];rfl,Rds.bad hk hs (by rw[e];rfl)⟩
 refine⟨_,rfl,_,hs.rd 0 rfl (i:=2) rfl,?_⟩;cases hx:o.bind rIq with
 | none=>
  rw[hx] at hs;have e:o.bind (rBd lo hi)=none:=by
   cases o with
   | none=>rfl
   | some l=>show rBd lo hi l=none;unfold rBd;rw[show rIq l=none from hx];rfl
  exact⟨by rw[e];rfl,Rds.bad hk' hs (by rw[e];rfl)⟩
 | some q=>
  rw[hx] at hs ho';have e:=bd q hx;refine sB_f rfl (sBi (fun c=>?_) (fun c=>?_))
  .exact bad (by rw[e,if_neg (by have:q.1<lo:=c;omega)]) hs
  .refine sBi (fun c2=>?_) (fun c2=>?_)
   .exact bad (by rw[e,if_neg (by have:q.1>hi:=c2;omega)]) hs
   .rw[if_pos (by have h1:¬q.1<lo:=c;have h2:¬q.1>hi:=c2;omega)] at e;rw[e];exact⟨rfl,k',hk',hs,ho'⟩
theorem end82 (r:Nat) (s:Sl) (B:List Int) (h0 h:Heap) (o:Option (List Int)) (L:List It) (hB:RL h0 1 s u8C B) (hr:Rds h0 h 139 r s B o L) :
  Fn Pz 91 #[.pointer (some ⟨r,0,none⟩)] h fun v h'=>v=.int .i64 (endE o)/\h'=h:=by
 apply vc91 _;unfold W91;have hn:=hB.ln;obtain⟨k,hk,hs,ho⟩:=hr;refine⟨_,hs.rd 0 rfl (i:=2) rfl,?_⟩;cases o with
 | none=>exact⟨rfl,rfl⟩
 | some l=>
  have el:=ho l rfl;have hl:l.length=B.length-k:=by rw[<-el,List.length_drop]
  refine sB_f rfl ⟨_,hs.rd 0 rfl (i:=1) rfl,s,hs.rd 0 rfl (i:=0) rfl,sBn (fun c=>?_) (fun c=>?_)⟩
  .refine⟨?_,rfl⟩;unfold endE;rw[if_neg (fun e=>by injection e with e;rw[e] at hl;simp at hl;omega)]
  .refine⟨?_,rfl⟩;unfold endE;rw[if_pos (by rw[List.length_eq_zero_iff.1 (show l.length=0 by omega)])]
end Go.VC
end
