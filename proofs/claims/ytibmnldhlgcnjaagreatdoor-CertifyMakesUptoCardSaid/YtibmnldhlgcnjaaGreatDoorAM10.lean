/- FkA FkB FkC FkD FkE FkF FkG FkH FkArgs. -/
import Derived.Test.YtibmnldhlgcnjaaGreatDoorAM09
import Derived.Test.YtibmnldhlgcnjaaGreatDoorRows
set_option linter.all false
set_option maxRecDepth 100000
set_option maxHeartbeats 8000000

section
namespace Go.VC
open Go.Proofs Go.LexS Go.Maps
abbrev Flt:=Int × Int × Int × Int
def fltC (f:Flt):List Value:=[.int .i64 f.1,.int .i64 f.2.1,.int .i64 f.2.2.1,.int .i64 f.2.2.2]
def flt0:Flt:=(0,0,0,0)
open Classical in
noncomputable def fstI (p:Cf->Prop) (Q:List Cf):Option Nat:=(List.range Q.length).find? fun i=>decide (∃c,Q[i]?=some c/\p c)
open Classical in
theorem fstI_some {p:Cf->Prop} {Q:List Cf} {i:Nat} {c:Cf} (hb:∀(j:Nat) d,j<i->Q[j]?=some d->¬p d) (hc:Q[i]?=some c) (hp:p c):fstI p Q=some i:=by
 unfold fstI;rw[List.find?_range_eq_some];refine⟨by rw[decide_eq_true_eq];exact⟨c,hc,hp⟩,List.mem_range.2 (Ya.1 hc).1,fun j hj=>?_⟩;rw[Bool.not_eq_true',decide_eq_false_iff_not];rintro⟨d,h1,h2⟩;exact hb j d hj h1 h2
theorem fstI_none {p:Cf->Prop} {Q:List Cf} (hb:∀(j:Nat) d,Q[j]?=some d->¬p d):fstI p Q=none:=by
 unfold fstI;rw[List.find?_range_eq_none];intro j hj;rw[Bool.not_eq_true',decide_eq_false_iff_not];rintro⟨d,h1,h2⟩;exact hb j d h1 h2
theorem fstI_no {p:Cf->Prop} {Q:List Cf} (h:fstI p Q=none) {c:Cf} (hc:c∈Q):¬p c:=fun hp=>by
 unfold fstI at h;rw[List.find?_range_eq_none] at h;obtain⟨j,gj⟩:=Yf.1 hc;have:=h j (Ya.1 gj).1;rw[Bool.not_eq_true',decide_eq_false_iff_not] at this;exact this ⟨c,gj,hp⟩
open Classical in
theorem fstI_ex {p:Cf->Prop} {Q:List Cf} {i:Nat} (h:fstI p Q=some i):∃c,Q[i]?=some c/\p c:=by
 unfold fstI at h;rw[List.find?_range_eq_some] at h;have h1:=h.1;rw[decide_eq_true_eq] at h1;exact h1
open Classical in
noncomputable def levS (L:List Mch) (k:Int) (Q:List Cf) (c:Cf):Option (Nat × Nat):=(stepsS L k c.1 c.2).find? fun q=>decide (nxS L c q∉Q)
noncomputable def clsS (L:List Mch) (k:Int) (Q:List Cf):Flt:=match fstI (fun c=>(levS L k Q c).isSome=true) Q with
 | none=>flt0
 | some i=>match (Q[i]?).bind (levS L k Q) with
  | none=>flt0
  | some q=>(5,(i:Int),(q.1:Int),(q.2:Int))
def fltO (r:Int) (o:Option Nat):Flt:=match o with
 | some i=>(r,(i:Int),0,0)
 | none=>flt0
open Classical in
noncomputable def chkV (L:List Mch) (k:Int) (Q:List Cf):Flt × Int:=
 if ¬SysV L then (flt0,1) else if k<1\/4<k\/20000<Q.length then ((1,0,0,0),23) else
 match fstI (fun c=>¬ProS L k c.1 c.2) Q with
 | some i=>((2,(i:Int),0,0),23)
 | none=>match fstI (fun c=>badS L k c.1 c.2≠0) Q with
  | some i=>((3,(i:Int),0,0),23)
  | none=>if (startS L,startB L)∉Q then ((4,0,0,0),23) else if (clsS L k Q).1≠0 then (clsS L k Q,23) else (flt0,0)
structure CtI (h:Heap) (cs:Sl) (C:List Cr):Prop where
 r:RL h 2 cs Cr.cs C
 i:∀c∈C,CfI h c.c1 c.c2 c.S c.B
theorem CtI.ext {h h':Heap} {cs:Sl} {C:List Cr} (hC:CtI h cs C) (E:Ext h h'):CtI h' cs C:=⟨hC.r.ext E,fun c hc=>(hC.i c hc).ext E⟩
def CkI (h:Heap) (xb:Nat) (s:Sl) (k:Int) (cs:Sl) (nb:Nat):Prop:=atC h ⟨xb,0,none⟩ [.slice s.a s.n s.c,.int .i64 k,.slice cs.a cs.n cs.c,.map (some nb)]
theorem CkI.ext {h h':Heap} {xb:Nat} {s:Sl} {k:Int} {cs:Sl} {nb:Nat} (hX:CkI h xb s k cs nb) (E:Ext h h'):CkI h' xb s k cs nb:=atC_ext E hX
theorem cal95:callable Pz 95=true:=by kernel_rfl
theorem cal96:callable Pz 96=true:=by kernel_rfl
theorem limits38 (xb:Nat) (s cs:Sl) (k:Int) (nb:Nat) (h:Heap) (hX:CkI h xb s k cs nb) :
  Fn Pz 38 #[.pointer (some ⟨xb,0,none⟩)] h fun v h'=>(∃f:Flt,v=.agg ⟨fltC f⟩/\f=if k<1\/4<k\/20000<cs.n then (1,0,0,0) else flt0)/\Ext h h':=by
 apply vc38 ⟨xb,0,none⟩;unfold W38 V38a V38b;refine (St.refl h).newb fun h1 hs=>?_;have hX:=hX.ext hs.ext;have fin:∀f:Flt,okAt h1 ⟨h.size,0,none⟩ 4/\∀h3:Heap,h3=hputs h1 ⟨h.size,0,none⟩ 0 (fltC f)->(∃x4:Int,∃x5:Int,∃x6:Int,∃x7:Int,atC h3 ⟨h.size,0,none⟩ [.int .i64 x4,.int .i64 x5,.int .i64 x6,.int .i64 x7]/\((Value.agg ⟨[.int .i64 x4,.int .i64 x5,.int .i64 x6,.int .i64 x7]⟩=.agg ⟨fltC f⟩)/\Ext h h3)):=fun f=>by
  refine hs.put 0 rfl (o:=0) (vs:=fltC f) rfl (show 4<=4 by decide) fun h3 hs=>?_;exact⟨f.1,f.2.1,f.2.2.1,f.2.2.2,hs.at 0 rfl (o:=0) (n:=4) rfl,rfl,hs.ext⟩
 have fin2:∀f:Flt,f=(if k<1\/4<k\/20000<cs.n then (1,0,0,0) else flt0)->okAt h1 ⟨h.size,0,none⟩ 4/\∀h3:Heap,h3=hputs h1 ⟨h.size,0,none⟩ 0 (fltC f)->(∃x4:Int,∃x5:Int,∃x6:Int,∃x7:Int,atC h3 ⟨h.size,0,none⟩ [.int .i64 x4,.int .i64 x5,.int .i64 x6,.int .i64 x7]/\((∃f:Flt,Value.agg ⟨[.int .i64 x4,.int .i64 x5,.int .i64 x6,.int .i64 x7]⟩=.agg ⟨fltC f⟩/\f=if k<1\/4<k\/20000<cs.n then (1,0,0,0) else flt0)/\Ext h h3)):=fun f hf=>by
  refine⟨(fin f).1,fun h3 h=>?_⟩;obtain⟨a,b,c,d,h1,h2,h3⟩:=(fin f).2 h3 h;exact⟨a,b,c,d,h1,⟨f,h2,hf⟩,h3⟩
 refine⟨k,hX.nth 1 rfl,sBi (fun c1=>fin2 (1,0,0,0) (by rw[if_pos (.inl c1)])) (fun c1=>?_)⟩;refine⟨k,hX.nth 1 rfl,sBi (fun c2=>fin2 (1,0,0,0) (by rw[if_pos (.inr (.inl c2))])) (fun c2=>?_)⟩;refine⟨cs,hX.nth 2 rfl,sBi (fun c3=>fin2 (1,0,0,0) (by rw[if_pos (.inr (.inr (by omega)))])) (fun c3=>fin2 flt0 (by rw[if_neg (by omega)]))⟩
theorem index152 (C:List Cr) (cs:Sl) (g:FuncId) (a:Addr) (p:Cf->Prop) (h:Heap) (hC:CtI h cs C) (hg:callable Pz g=true) (hf:∀c∈C,∀h',Ext h h'->Fn Pz g #[.agg ⟨c.cs⟩,.pointer (some a)] h' (RP (p c.cf) h')) :
  Fn Pz 152 #[.slice cs.a cs.n cs.c,.func (.func g) #[] #[.pointer (some a)]] h fun v h'=>(∃k:Int,v=.int .i64 k/\((k=-1/\fstI p (C.map Cr.cf)=none)\/∃i:Nat,k=(i:Int)/\fstI p (C.map Cr.cf)=some i))/\Ext h h':=by
 apply vc152 cs g (some a);unfold W152;have hn:=hC.r.ln;have hm:=hC.r.sm;refine up_loop (n:=cs.n) (fun i h'=>Ext h h'/\∀(j:Nat) d,j<i->(C.map Cr.cf)[j]?=some d->¬p d) ⟨.rfl',fun j d hj=>by omega⟩ ?_;rintro-i h5 hi ⟨E,hq⟩;refine sB_intro (fun c=>?_) (fun c=>?_)
 .replace c:=lt_t c;refine (hC.r.rw.ext E).nbI (by omega) (by omega) fun b6 o7 d gd t=>?_;replace gd:C[i]?=some d:=gd;have gq:(C.map Cr.cf)[i]?=some d.cf:=by rw[Yd,gd];rfl
  refine⟨d.c1,d.c2,t,?_⟩;rw[hg,cond_true];refine (hf d (Yb gd) h5 E).mono ?_;rintro _ h12 ⟨⟨b,rfl,hb⟩,E12⟩;refine⟨b,rfl,sB_intro (fun c2=>?_) (fun c2=>?_)⟩
  .exact⟨⟨_,rfl,.inr ⟨i,rfl,fstI_some hq gq (hb.1 c2)⟩⟩,E.trans E12⟩
  .refine Up.next c (by omega) ⟨E.trans E12,fun j y hj hy=>?_⟩;by_cases e:j=i
   .subst e;rw[gq] at hy;cases hy;exact iff_f hb c2
   .exact hq j y (by omega) hy
 .replace c:=lt_f c;refine⟨⟨_,rfl,.inl ⟨rfl,fstI_none fun j d hj=>hq j d ?_ hj⟩⟩,E⟩;have:=(Ya.1 hj).1;rw[Yc] at this;omega
theorem each94 (C:List Cr) (s cs:Sl) (k r:Int) (xb nb:Nat) (g:FuncId) (a:Addr) (p:Cf->Prop) (h:Heap) (hX:CkI h xb s k cs nb) (hC:CtI h cs C) (hg:callable Pz g=true) (hf:∀c∈C,∀h',Ext h h'->Fn Pz g #[.agg ⟨c.cs⟩,.pointer (some a)] h' (RP (p c.cf) h')) :
  Fn Pz 94 #[.pointer (some ⟨xb,0,none⟩),.int .i64 r,.func (.func g) #[] #[.pointer (some a)]] h fun v h'=>v=.agg ⟨fltC (fltO r (fstI p (C.map Cr.cf)))⟩/\Ext h h':=by
 apply vc94 ⟨xb,0,none⟩ r g (some a);unfold W94 V94a;refine (St.refl h).newb fun h1 hs=>?_;refine⟨cs,(hX.ext hs.ext).nth 2 rfl,?_⟩;refine (index152 C cs g a p h1 (hC.ext hs.ext) hg fun c hc h' E=>hf c hc h' (hs.ext.trans E)).mono ?_;rintro _ h5 ⟨⟨x,rfl,hx⟩,E⟩;have hs:=hs.step E;refine⟨x,rfl,?_⟩;rcases hx with ⟨rfl,e⟩ | ⟨i,rfl,e⟩
 .refine sB_f rfl ?_;refine hs.put 0 rfl (o:=0) (vs:=fltC flt0) rfl (show 4<=4 by decide) fun h6 hs=>?_;exact⟨0,0,0,0,hs.at 0 rfl (o:=0) (n:=4) rfl,by rw[e];rfl,hs.ext⟩
 .refine sB_t (decide_eq_true (by omega)) ?_;refine hs.put 0 rfl (o:=0) (vs:=fltC (r,(i:Int),0,0)) rfl (show 4<=4 by decide) fun h6 hs=>?_;exact⟨r,i,0,0,hs.at 0 rfl (o:=0) (n:=4) rfl,by rw[e];rfl,hs.ext⟩
theorem proper39 (L:List MR) (C:List Cr) (s cs:Sl) (k:Int) (xb nb:Nat) (h:Heap) (hS:SyI h s L) (hX:CkI h xb s k cs nb) (hC:CtI h cs C) :
  Fn Pz 39 #[.pointer (some ⟨xb,0,none⟩)] h fun v h'=>v=.agg ⟨fltC (fltO 2 (fstI (fun c=>¬ProS (L.map MR.m) k c.1 c.2) (C.map Cr.cf)))⟩/\Ext h h':=by
 apply vc39 ⟨xb,0,none⟩;unfold W39;refine (St.refl h).newb fun h1 hs=>?_;refine hs.newb fun h2 hs=>?_;refine⟨some ⟨xb,0,none⟩,hs.rd 1 rfl (i:=0) rfl,?_⟩;refine (each94 C s cs k 2 xb nb 95 ⟨h.size,0,none⟩ (fun c=>¬ProS (L.map MR.m) k c.1 c.2) h2 (hX.ext hs.ext) (hC.ext hs.ext) cal95 fun c hc h' E=>?_).mono ?_
 .have hs:=hs.step E;apply vc95 c.c1 c.c2 ⟨h.size,0,none⟩;unfold W95;refine (St.refl h').newb fun h3 hs3=>?_;have hs:=hs.step hs3.ext;have hX:=hX.ext hs.ext;refine⟨some ⟨xb,0,none⟩,hs.rd 1 rfl (i:=0) rfl,s,hX.hd,some ⟨xb,0,none⟩,hs.rd 1 rfl (i:=0) rfl,k,hX.nth 1 rfl,c.c1,c.c2,hs3.at 0 rfl (o:=0) (n:=2) rfl,?_⟩;refine (proper24 L s k c.c1 c.c2 c.S c.B h3 (hS.ext hs.ext) ((hC.ext hs.ext).i c hc)).mono ?_;rintro _ h14 ⟨⟨b,rfl,hb⟩,E14⟩;refine⟨b,rfl,RP.e ?_ (hs3.ext.trans E14)⟩;cases b with
  | true=>exact iff_of_false (by decide) fun hn=>hn (hb.1 rfl)
  | false=>exact iff_of_true rfl fun hp=>by have:=hb.2 hp;cases this
 .rintro _ h9 ⟨rfl,E⟩;have hs:=hs.step E;refine⟨_,_,_,_,rfl,?_⟩;refine hs.put 0 rfl (o:=0) (vs:=fltC _) rfl (show 4<=4 by decide) fun h10 hs=>?_;exact⟨_,_,_,_,hs.at 0 rfl (o:=0) (n:=4) rfl,rfl,hs.ext⟩
theorem good40 (L:List MR) (C:List Cr) (s cs:Sl) (k:Int) (xb nb:Nat) (h:Heap) (hS:SyI h s L) (hX:CkI h xb s k cs nb) (hC:CtI h cs C) (hP:∀c∈C,ProS (L.map MR.m) k c.S (c.B.map Bx.l)) :
  Fn Pz 40 #[.pointer (some ⟨xb,0,none⟩)] h fun v h'=>v=.agg ⟨fltC (fltO 3 (fstI (fun c=>badS (L.map MR.m) k c.1 c.2≠0) (C.map Cr.cf)))⟩/\Ext h h':=by
 apply vc40 ⟨xb,0,none⟩;unfold W40;refine (St.refl h).newb fun h1 hs=>?_;refine hs.newb fun h2 hs=>?_;refine⟨some ⟨xb,0,none⟩,hs.rd 1 rfl (i:=0) rfl,?_⟩;refine (each94 C s cs k 3 xb nb 96 ⟨h.size,0,none⟩ (fun c=>badS (L.map MR.m) k c.1 c.2≠0) h2 (hX.ext hs.ext) (hC.ext hs.ext) cal96 fun c hc h' E=>?_).mono ?_
 .have hs:=hs.step E;apply vc96 c.c1 c.c2 ⟨h.size,0,none⟩;unfold W96;refine (St.refl h').newb fun h3 hs3=>?_;have hs:=hs.step hs3.ext;have hX:=hX.ext hs.ext;refine⟨some ⟨xb,0,none⟩,hs.rd 1 rfl (i:=0) rfl,s,hX.hd,some ⟨xb,0,none⟩,hs.rd 1 rfl (i:=0) rfl,k,hX.nth 1 rfl,c.c1,c.c2,hs3.at 0 rfl (o:=0) (n:=2) rfl,?_⟩;refine (bad38 L s k c.c1 c.c2 c.S c.B h3 (hS.ext hs.ext) ((hC.ext hs.ext).i c hc)).mono ?_;rintro _ h14 ⟨E14,b,e,rfl,hb,-⟩;obtain⟨rfl,rfl⟩:=hb (hP c hc);exact⟨_,_,rfl,RP.e bne_iff_ne (hs3.ext.trans E14)⟩
 .rintro _ h9 ⟨rfl,E⟩;have hs:=hs.step E;refine⟨_,_,_,_,rfl,?_⟩;refine hs.put 0 rfl (o:=0) (vs:=fltC _) rfl (show 4<=4 by decide) fun h10 hs=>?_;exact⟨_,_,_,_,hs.at 0 rfl (o:=0) (n:=4) rfl,rfl,hs.ext⟩
end Go.VC
end

section
namespace Go.VC
open Go.Proofs Go.LexS Go.Maps
theorem mget_mset {α β:Type} [DecidableEq α] (a x:α) (b:β):∀(l:List (α × β)),mget (mset l a b) x=if x=a then some b else mget l x
 | []=>by
  unfold mset mget;by_cases h:x=a
  .rw[if_pos h];first
    | rw[if_pos h.symm]
    | rw[if_pos h]
  .rw[if_neg h];first
    | rw[if_neg fun e=>h e.symm];rfl
    | rw[if_neg h];rfl
 | (c,y)::r=>by
  have ih:=mget_mset a x b r;rw[mset];split
  .rename_i hc;subst hc;unfold mget;by_cases h:x=c
   .subst h;rw[if_pos rfl,if_pos rfl]
   .rw[if_neg h];first
     | rw[if_neg fun e=>h e.symm,if_neg fun e=>h e.symm]
     | rw[if_neg h,if_neg h]
  .rename_i hc;rw[show mget ((c,y)::mset r a b) x=(if c=x then some y else mget (mset r a b) x) by first | rfl | (unfold mget;by_cases e:x=c;(· rw[if_pos e,if_pos e.symm]);(· rw[if_neg e,if_neg fun q=>e q.symm])),ih];rw[show mget ((c,y)::r) x=(if c=x then some y else mget r x) by first | rfl | (unfold mget;by_cases e:x=c;(· rw[if_pos e,if_pos e.symm]);(· rw[if_neg e,if_neg fun q=>e q.symm]))];by_cases h:c=x
   .subst h;rw[if_pos rfl,if_neg (fun e=>hc (by first | exact e | exact e.symm)),if_pos rfl]
   .rw[if_neg h,if_neg h]
structure KyOk (N:List (ByteArray × Bool)) (Q:List Cf):Prop where
 nd:(N.map Prod.fst).Nodup
 ok:∀q∈N,kokB q.1
 y:∀c∈Q,mget N (kyC c)=some true
 n:∀c,c∉Q->mget N (kyC c)=none
theorem KyOk.nil:KyOk [] []:=⟨.nil,fun q hq=>(by cases hq),fun c hc=>(by cases hc),fun c _=>rfl⟩
theorem KyOk.put {N:List (ByteArray × Bool)} {Q:List Cf} {c:Cf} (h:KyOk N Q) (hc:kokB (kyC c)):KyOk (mset N (kyC c) true) (Q++[c]):=by
 refine⟨mset_nodup _ _ _ h.nd,fun q hq=>?_,fun d hd=>?_,fun d hd=>?_⟩
 .have h1:=(mset_keys (kyC c) true N q.1).1 (List.mem_map_of_mem hq);rcases h1 with h1 | h1
  .obtain⟨q',hq',e⟩:=Yp.1 h1;rw[<-e];exact h.ok q' hq'
  .rw[h1];exact hc
 .rw[mget_mset];by_cases e:kyC d=kyC c
  .rw[if_pos e]
  .rw[if_neg e];rcases Yk.1 hd with hd | hd
   .exact h.y d hd
   .exact absurd (congrArg kyC (Ye.1 hd)) e
 .rw[mget_mset,if_neg (fun e=>hd (List.mem_append_right _ (Ye.2 (kyC_inj e))))];exact h.n d fun hm=>hd (List.mem_append_left _ hm)
theorem key54 (ss sb:Sl) (S:List Int) (B:List Bx) (h:Heap) (hC:CfI h ss sb S B) (hE:EncOk S (B.map Bx.l)) :
  Fn Pz 54 #[.agg ⟨[.slice ss.a ss.n ss.c,.slice sb.a sb.n sb.c]⟩] h fun v h'=>v=.string (kyC (S,B.map Bx.l))/\Ext h h':=by
 apply vc54 ss sb;unfold W54;refine (St.refl h).newb fun h3 hs=>?_;refine⟨ss,sb,hs.at 0 rfl (o:=0) (n:=2) rfl,?_⟩;refine (encode35 ss sb S B h3 (hC.ext hs.ext) hE).mono ?_;rintro _ h8 ⟨b,rfl,hse⟩;refine⟨b,rfl,(cv_str hse encC_byte).mono ?_⟩;rintro _ _ ⟨rfl,rfl⟩;exact⟨_,rfl,rfl,hs.ext.trans hse.ext⟩
theorem kys {N:List (ByteArray × Bool)} {Q:List Cf} (h:KyOk N Q) (c:Cf):∃b:Bool,(mget N (kyC c)=bif b then some true else none)/\(b=true ↔ c∈Q):=by
 by_cases hc:c∈Q
 .exact⟨true,h.y c hc,iff_of_true rfl hc⟩
 .exact⟨false,h.n c hc,iff_of_false (by decide) hc⟩
theorem starts41 (L:List MR) (C:List Cr) (s cs:Sl) (k:Int) (xb nb:Nat) {h0 h:Heap} {A:List It} (hs:St h0 h (.mp nb (([]:List (ByteArray × Bool)).map kyV)::A)) (hS:SyI h0 s L) (hV:SysV (L.map MR.m)) (hX:Sta A fun h=>CkI h xb s k cs nb) (hC:CtI h0 cs C) (hk:1<=k/\k<=4) (hP:∀c∈C,ProS (L.map MR.m) k c.S (c.B.map Bx.l)) :
  Fn Pz 41 #[.pointer (some ⟨xb,0,none⟩)] h fun v h'=>∃(f:Flt) (N:List (ByteArray × Bool)),v=.agg ⟨fltC f⟩/\((f=flt0/\(startS (L.map MR.m),startB (L.map MR.m))∈C.map Cr.cf)\/(f=(4,0,0,0)/\(startS (L.map MR.m),startB (L.map MR.m))∉C.map Cr.cf))/\KyOk N (C.map Cr.cf)/\St h0 h' (.mp nb (N.map kyV)::A):=by
 apply vc41 ⟨xb,0,none⟩;unfold W41 V41a;have hcn:=hC.r.ln;have hcm:=hC.r.sm;refine hs.newb fun h1 hs=>?_;refine⟨cs,(hX.at hs mem2).nth 2 rfl,?_⟩;refine⟨fun x h' μ=>∃(i:Nat) (N:List (ByteArray × Bool)),x=(i:Int)/\μ=C.length-i/\i<=C.length/\KyOk N ((C.take i).map Cr.cf)/\St h0 h' (.blk h.size [.int .i64 0,.int .i64 0,.int .i64 0,.int .i64 0] 45 :: .mp nb (N.map kyV)::A),⟨_,0,[],rfl,rfl,Nat.zero_le _,.nil,hs⟩,?_⟩;clear hs;rintro-_ h7 μ ⟨i,N,rfl,rfl,hi,hN,hs⟩;refine sBi (fun c1=>?_) (fun c1=>?_)
 .obtain⟨d,gd⟩:=get_some (l:=C) (i:=i) (by omega);have hdm:=Yb gd;refine (hC.r.rw.ext hs.ext).nbI (by omega) (by omega) fun b8 o9 d' gd' t=>?_;rw[Ys] at gd';replace gd':C[i]?=some d':=gd';rw[gd] at gd';cases gd';refine⟨d.c1,d.c2,t,?_⟩;refine hs.newput (vs:=[.slice d.c1.a d.c1.n d.c1.c,.slice d.c2.a d.c2.n d.c2.c]) rfl rfl fun h13 hs=>?_;refine⟨some nb,(hX.at hs (memP (P:=[_,_,_]))).nth 3 rfl,d.c1,d.c2,hs.at 0 rfl (o:=0) (n:=2) rfl,?_⟩;refine (key54 d.c1 d.c2 d.S d.B h13 ((hC.ext hs.ext).i d hdm) (enc_pro (hP d hdm))).mono ?_;rintro _ h19 ⟨rfl,E⟩;have hs:=hs.step E;refine⟨_,rfl,E.sm,?_⟩;have hkok:kokB (kyC d.cf):=ky_ok (c:=d.cf) (hP d hdm);refine hs.mput M92 (cv:=Value.bool) (l:=N) (a:=kyC d.cf) 2 rfl hN.ok hN.nd hkok true fun h20 hs=>?_;refine⟨_,(show C.length-(i+1)<C.length-i by omega),i+1,mset N (kyC d.cf) true,by rw[w64 (by omega) (by omega)];omega,rfl,by omega,?_,hs.drop 1⟩;rw[take_snoc gd,Ym];exact hN.put hkok
 .have hie:i=C.length:=by omega
  subst hie;rw[Yye] at hN;refine⟨s,(hX.at hs mem2).hd,?_⟩;refine (start14 L s h7 (hS.ext hs.ext)).mono ?_;rintro _ h27 ⟨ss,sb,S,B,e,A2,rfl,hs2,hM,hv1,-⟩;obtain⟨rfl,rfl,rfl⟩:=hv1 hV;have hs:=hs.join hs2;refine⟨ss,sb,0,rfl,?_⟩;refine hs.newput (vs:=[.slice ss.a ss.n ss.c,.slice sb.a sb.n sb.c]) rfl rfl fun h29 hs=>?_;have hmA:∀i∈A,i∈(.blk h27.size [.slice ss.a ss.n ss.c,.slice sb.a sb.n sb.c] 52::((.blk h.size [.int .i64 0,.int .i64 0,.int .i64 0,.int .i64 0] 45 :: .mp nb (N.map kyV)::A)++A2):List It):=fun i hi=>Yn _ (List.mem_append_left _ (Yn _ (Yn _ hi)));refine⟨some nb,(hX.at hs hmA).nth 3 rfl,ss,sb,hs.at 0 rfl (o:=0) (n:=2) rfl,?_⟩;refine (key54 ss sb _ _ h29 ((hM.mono fun i hi=>Yn _ (List.mem_append_right _ hi)).cfi hs) (enc_pro (xpro_start hV hk))).mono ?_;rintro _ h35 ⟨rfl,E⟩;have hs:=hs.step E;refine⟨_,rfl,E.sm,?_⟩;have hkok:kokB (kyC (startS (L.map MR.m),(List.replicate ((L.map MR.m).length*(L.map MR.m).length) bx0).map Bx.l)):=ky_ok (c:=(_,_)) (xpro_start hV hk);rw[bxs0] at hkok ⊢;obtain⟨b,hb,hbm⟩:=kys hN (startS (L.map MR.m),startB (L.map MR.m));refine hs.mlook M92 (cv:=Value.bool) (l:=N) (a:=kyC (startS (L.map MR.m),startB (L.map MR.m))) 2 rfl hN.ok hN.nd hkok false ?_;refine⟨b,by rw[hb];cases b<;>rfl,sB_intro (fun c2=>?_) (fun c2=>?_)⟩
  .refine hs.put 1 rfl (o:=0) (vs:=fltC (4,0,0,0)) rfl (show 4<=4 by decide) fun h39 hs=>?_;refine⟨4,0,0,0,hs.at 1 rfl (o:=0) (n:=4) rfl,(4,0,0,0),N,rfl,.inr ⟨rfl,fun hm=>?_⟩,hN,hs.sub (.cons _ (.cons _ (List.sublist_append_left _ _)))⟩;rw[hbm.2 hm] at c2;cases c2
  .refine hs.put 1 rfl (o:=0) (vs:=fltC flt0) rfl (show 4<=4 by decide) fun h44 hs=>?_;exact⟨0,0,0,0,hs.at 1 rfl (o:=0) (n:=4) rfl,flt0,N,rfl,.inl ⟨rfl,hbm.1 (by cases b with | true=>rfl | false=>cases c2)⟩,hN,hs.sub (.cons _ (.cons _ (List.sublist_append_left _ _)))⟩
theorem find_first {α:Type} {P:α->Bool}:∀ {l:List α} {j:Nat} {x:α},l[j]?=some x->P x=true->(∀(t:Nat) y,t<j->l[t]?=some y->P y=false)->l.find? P=some x
 | [],j,x,h,_,_=>by cases h
 | a::r,0,x,h,hp,_=>by cases h;rw[List.find?_cons_of_pos hp]
 | a::r,j+1,x,h,hp,hb=>by
  rw[List.find?_cons_of_neg (by rw[hb 0 a (by omega) rfl];decide)];exact find_first (l:=r) (j:=j) h hp fun t y ht hy=>hb (t+1) y (by omega) hy
theorem lev_none {L:List Mch} {k:Int} {Q:List Cf} {c:Cf} (h:∀q∈stepsS L k c.1 c.2,nxS L c q∈Q):levS L k Q c=none:=by
 unfold levS;rw[List.find?_eq_none];intro q hq;rw[decide_eq_true_eq];exact fun hn=>hn (h q hq)
theorem lev_some {L:List Mch} {k:Int} {Q:List Cf} {c:Cf} {j:Nat} {q:Nat × Nat} (hj:(stepsS L k c.1 c.2)[j]?=some q) (hq:nxS L c q∉Q) (hb:∀(t:Nat) y,t<j->(stepsS L k c.1 c.2)[t]?=some y->nxS L c y∈Q):levS L k Q c=some q:=by
 unfold levS;refine find_first hj (by rw[decide_eq_true_eq];exact hq) fun t y ht hy=>?_;rw[decide_eq_false_iff_not];exact fun hn=>hn (hb t y ht hy)
theorem cls_some {L:List Mch} {k:Int} {Q:List Cf} {i:Nat} {c:Cf} {q:Nat × Nat} (hb:∀(j:Nat) d,j<i->Q[j]?=some d->levS L k Q d=none) (hc:Q[i]?=some c) (hq:levS L k Q c=some q):clsS L k Q=(5,(i:Int),(q.1:Int),(q.2:Int)):=by
 unfold clsS;rw[fstI_some (fun j d hj hd=>by rw[hb j d hj hd];decide) hc (by rw[hq];rfl)];dsimp only;rw[hc];dsimp only[Option.bind];rw[hq]
theorem cls_none {L:List Mch} {k:Int} {Q:List Cf} (hb:∀(j:Nat) d,Q[j]?=some d->levS L k Q d=none):clsS L k Q=flt0:=by
 unfold clsS;rw[fstI_none fun j d hd=>by rw[hb j d hd];decide]
theorem closed42 (L:List MR) (C:List Cr) (s cs:Sl) (k:Int) (xb nb:Nat) (N:List (ByteArray × Bool)) {h0 h:Heap} {A:List It} (hs:St h0 h (.mp nb (N.map kyV)::A)) (hN:KyOk N (C.map Cr.cf)) (hS:SyI h0 s L) (hX:Sta A fun h=>CkI h xb s k cs nb) (hC:CtI h0 cs C) (hP:∀c∈C,ProS (L.map MR.m) k c.S (c.B.map Bx.l)) :
  Fn Pz 42 #[.pointer (some ⟨xb,0,none⟩)] h fun v h'=>v=.agg ⟨fltC (clsS (L.map MR.m) k (C.map Cr.cf))⟩/\St h0 h' (.mp nb (N.map kyV)::A):=by
 apply vc42 ⟨xb,0,none⟩;unfold W42 V42a V42b;have hcn:=hC.r.ln;have hcm:=hC.r.sm;refine hs.newb fun h1 hs=>?_;refine hs.mmake 104 fun h4 E4 hs=>⟨_,rfl,?_⟩;refine⟨cs,(hX.at hs (memP (P:=[_,_,_]))).nth 2 rfl,?_⟩;refine⟨fun x h' μ=>∃(i:Nat) (D:List (ByteArray × Bool)),x=(i:Int)/\μ=C.length-i/\i<=C.length/\KyOk D ((C.take i).map Cr.cf)/\(∀(j:Nat) d,j<i->(C.map Cr.cf)[j]?=some d->levS (L.map MR.m) k (C.map Cr.cf) d=none) /\
  St h0 h' (.mp h1.size (D.map kyV) :: .blk h.size [.int .i64 0,.int .i64 0,.int .i64 0,.int .i64 0] 45 :: .mp nb (N.map kyV)::A),⟨_,0,[],rfl,rfl,Nat.zero_le _,.nil,fun j d hj=>by omega,hs⟩,?_⟩
 clear hs;rintro-_ h10 μ ⟨i,D,rfl,rfl,hi,hD,hq,hs⟩;refine sBi (fun c1=>?_) (fun c1=>?_)
 .obtain⟨d,gd⟩:=get_some (l:=C) (i:=i) (by omega);have hdm:=Yb gd;have gq:(C.map Cr.cf)[i]?=some d.cf:=by rw[Yd,gd];rfl
  have hpd:=hP d hdm;refine (hC.r.rw.ext hs.ext).nbI (by omega) (by omega) fun b8 o9 d' gd' t=>?_;rw[Ys] at gd';replace gd':C[i]?=some d':=gd';rw[gd] at gd';cases gd';refine⟨d.c1,d.c2,t,?_⟩;refine hs.newput (vs:=[.slice d.c1.a d.c1.n d.c1.c,.slice d.c2.a d.c2.n d.c2.c]) rfl rfl fun h16 hs=>?_;refine⟨d.c1,d.c2,hs.at 0 rfl (o:=0) (n:=2) rfl,?_⟩;refine (key54 d.c1 d.c2 d.S d.B h16 ((hC.ext hs.ext).i d hdm) (enc_pro hpd)).mono ?_;rintro _ h21 ⟨rfl,E⟩;have hs:=hs.step E;refine⟨_,rfl,?_⟩;have hkok:kokB (kyC d.cf):=ky_ok (c:=d.cf) hpd;obtain⟨b,hb,hbm⟩:=kys hD d.cf;refine hs.mlook M92 (cv:=Value.bool) (l:=D) (a:=kyC d.cf) 1 rfl hD.ok hD.nd hkok false ?_;have hnext:∀ {D':List (ByteArray × Bool)},(i+1<=C.length)->True:=fun _=>trivial;refine⟨b,by rw[hb];cases b<;>rfl,sB_intro (fun c2=>?_) (fun c2=>?_)⟩
  .have hm:=hbm.1 c2;refine⟨_,(show C.length-(i+1)<C.length-i by omega),i+1,D,by rw[w64 (by omega) (by omega)];omega,rfl,by omega,?_,fun j e hj he=>?_,hs.drop 1⟩
   .rw[take_snoc gd,Ym];refine⟨hD.nd,hD.ok,fun c hc=>?_,fun c hc=>hD.n c fun h=>hc (List.mem_append_left _ h)⟩;rcases Yk.1 hc with hc | hc
    .exact hD.y c hc
    .rw[Ye.1 hc];exact hD.y _ hm
   .by_cases e2:j=i
    .subst e2;rw[gq] at he;cases he;obtain⟨c',hc',e3⟩:=Yp.1 hm;obtain⟨t,gt⟩:=Yf.1 hc';have htl:=(Ya.1 gt).1;rw[Yu] at htl;rw[List.getElem?_take_of_lt (by omega)] at gt;exact hq t d.cf (by omega) (by rw[Yd,gt];exact congrArg some e3)
    .exact hq j e (by omega) he
  .refine hs.mput M92 (cv:=Value.bool) (l:=D) (a:=kyC d.cf) 1 rfl hD.ok hD.nd hkok true fun h26 hs=>?_;have hD2:=hD.put (c:=d.cf) hkok;generalize mset D (kyC d.cf) true=D2 at *;have hX26:=hX.at hs (memP (P:=[_,_,_,_]));refine⟨s,hX26.hd,k,hX26.nth 1 rfl,d.c1,d.c2,hs.at 0 rfl (o:=0) (n:=2) rfl,?_⟩;refine (steps16 L s k d.c1 d.c2 d.S d.B h26 (hS.ext hs.ext) ((hC.ext hs.ext).i d hdm)).mono ?_;rintro _ h34 ⟨E34,r,e,X,rfl,hr,hpos,-⟩;obtain⟨rfl,hXe⟩:=hpos hpd;have hs:=hs.step E34;have hrn:=hr.ln;have hrm:=hr.sm;refine⟨r,0,rfl,?_⟩;have hs34:=hs;refine⟨fun x h' μ=>∃j:Nat,x=(j:Int)/\μ=X.length-j/\j<=X.length/\(∀(t:Nat) y,t<j->(stepsS (L.map MR.m) k d.cf.1 d.cf.2)[t]?=some y->nxS (L.map MR.m) d.cf y∈C.map Cr.cf) /\
    Ext h34 h'/\St h0 h' ([.blk h10.size [.slice d.c1.a d.c1.n d.c1.c,.slice d.c2.a d.c2.n d.c2.c] 52,.mp h1.size (D2.map kyV),.blk h.size [.int .i64 0,.int .i64 0,.int .i64 0,.int .i64 0] 45,.mp nb (N.map kyV)]++A),⟨_,0,rfl,rfl,Nat.zero_le _,fun t y ht=>by omega,.rfl',hs⟩,?_⟩
   clear hs hs34;rintro-_ h39 μ2 ⟨j,rfl,rfl,hj,hst,E39,hs⟩;refine sBi (fun c3=>?_) (fun c3=>?_)
   .obtain⟨⟨a,b0⟩,gz'⟩:=get_some (l:=X) (i:=j) (by omega);have gz:(stepsS (L.map MR.m) k d.cf.1 d.cf.2)[j]?=some (a,b0):=by rw[hXe] at gz';exact gz'
    have hzm:=Yb gz;obtain⟨-,hpn⟩:=stp_of (c:=d.cf) hpd hzm;refine (hr.rw.ext E39).nbI (by omega) (by omega) fun b83 o84 z gz2 t=>?_;rw[Ys,gz'] at gz2;cases gz2;refine⟨(a:Int),(b0:Int),t,?_⟩;refine (St.refl h39).newput (vs:=[.int .i64 (a:Int),.int .i64 (b0:Int)]) rfl rfl fun h45 hl=>?_;have hX45:=hX.at (hs.step hl.ext) (memP (P:=[_,_,_,_]));refine⟨s,hX45.hd,k,hX45.nth 1 rfl,d.c1,d.c2,(hs.step hl.ext).at 0 rfl (o:=0) (n:=2) rfl,(a:Int),(b0:Int),hl.at 0 rfl (o:=0) (n:=2) rfl,?_⟩;have hdo2:doS (L.map MR.m) k d.S (d.B.map Bx.l) (a:Int) (b0:Int)=(0,nxS (L.map MR.m) d.cf (a,b0)):=do_of (c:=d.cf) (q:=(a,b0)) hpd hzm;have e2:=fun h' (E:Ext h39 h')=>do27 L s k d.c1 d.c2 d.S d.B (a:Int) (b0:Int) h' (hS.ext (hs.step E).ext) ((hC.ext (hs.step E).ext).i d hdm);rw[hdo2] at e2;refine And.intro ?_ ?_;refine (e2 h45 hl.ext).mono ?_;rintro _ h56 ⟨ts,tb,T,A3,rfl,hT,hs7,hM3⟩;dsimp only at hT hM3;have hl:=hl.join hs7;refine⟨ts,tb,_,rfl,?_⟩;refine hl.newbE fun h57 E57 hl=>⟨E57.sm,?_⟩;rotate_left;refine hl.newbE fun h76 E76 hl=>⟨E76.sm,?_⟩;refine (e2 h76 hl.ext).mono ?_;rintro _ h81 ⟨ts,tb,T,A3,rfl,hT,hs7,hM3⟩;dsimp only at hT hM3;have hl:=hl.join hs7;refine⟨ts,tb,_,rfl,?_⟩;all_goals
     refine hl.put 0 rfl (o:=0) (vs:=[.slice ts.a ts.n ts.c,.slice tb.a tb.n tb.c]) rfl (show 2<=2 by decide) fun h58 hl=>?_;have hs:=hs.step hl.ext;refine⟨some nb,(hX.at hs (memP (P:=[_,_,_,_]))).nth 3 rfl,ts,tb,hl.at 0 rfl (o:=0) (n:=2) rfl,?_⟩;refine (key54 ts tb _ T h58 ((hM3.mono mem2).cfi hl) (by rw[hT];exact enc_pro hpn)).mono ?_;rintro _ h64 ⟨rfl,E64⟩;have hs:=hs.step E64;have hl:=hl.step E64;refine⟨_,rfl,E64.sm,?_⟩;obtain⟨b,hb,hbm⟩:=kys hN (nxS (L.map MR.m) d.cf (a,b0));rw[hT];refine hs.mlook M92 (cv:=Value.bool) (l:=N) (a:=kyC (nxS (L.map MR.m) d.cf (a,b0))) 3 rfl hN.ok hN.nd (ky_ok hpn) false ?_;refine⟨b,by rw[hb];cases b<;>rfl,sB_intro (fun c4=>?_) (fun c4=>?_)⟩
     .have hnm:nxS (L.map MR.m) d.cf (a,b0)∉C.map Cr.cf:=fun hm=>by rw[hbm.2 hm] at c4;cases c4
      have hlv:=lev_some (Q:=C.map Cr.cf) (c:=d.cf) gz hnm hst;refine⟨(a:Int),(b0:Int),hl.at 1 rfl (o:=0) (n:=2) rfl,?_⟩;refine hs.put 2 rfl (o:=0) (vs:=fltC (5,(i:Int),(a:Int),(b0:Int))) rfl (show 4<=4 by decide) fun h70 hs=>?_;refine⟨5,i,a,b0,hs.at 2 rfl (o:=0) (n:=4) rfl,by rw[cls_some hq gq hlv];rfl,hs.drop 3⟩
     .have hbt:b=true:=by cases b with | true=>rfl | false=>cases c4
      refine⟨_,(show X.length-(j+1)<X.length-j by omega),j+1,by rw[w64 (by omega) (by omega)];omega,rfl,by omega,?_,E39.trans hl.ext,hs⟩;intro t y ht hy;by_cases e:t=j
      .subst e;rw[gz] at hy;cases hy;exact hbm.1 hbt
      .exact hst t y (by omega) hy
   .have hlv:levS (L.map MR.m) k (C.map Cr.cf) d.cf=none:=lev_none fun q hqm=>by
     obtain⟨t,gt⟩:=Yf.1 hqm;refine hst t q ?_ gt;have h1:=(Ya.1 gt).1;rw[show stepsS (L.map MR.m) k d.cf.1 d.cf.2=X from hXe.symm] at h1;omega
    refine⟨_,(show C.length-(i+1)<C.length-i by omega),i+1,D2,by rw[w64 (by omega) (by omega)];omega,rfl,by omega,?_,fun t e ht he=>?_,hs.drop 1⟩
    .rw[take_snoc gd,Ym];exact hD2
    .by_cases e2:t=i
     .subst e2;rw[gq] at he;cases he;exact hlv
     .exact hq t e (by omega) he
 .have hie:i=C.length:=by omega
  subst hie;refine hs.put 1 rfl (o:=0) (vs:=fltC flt0) rfl (show 4<=4 by decide) fun h101 hs=>?_;refine⟨0,0,0,0,hs.at 1 rfl (o:=0) (n:=4) rfl,?_,hs.drop 2⟩;rw[cls_none fun j d hd=>hq j d (by have:=(Ya.1 hd).1;rw[Yc] at this;exact this) hd];rfl
theorem cal38:callable Pz 38=true:=by kernel_rfl
theorem cal39:callable Pz 39=true:=by kernel_rfl
theorem cal40:callable Pz 40=true:=by kernel_rfl
theorem cal41:callable Pz 41=true:=by kernel_rfl
theorem cal42:callable Pz 42=true:=by kernel_rfl
structure ChkP (L:List Mch) (k:Int) (Q:List Cf) (i:Nat):Prop where
 a:1<=i->¬(k<1\/4<k\/20000<Q.length)
 b:2<=i->fstI (fun c=>¬ProS L k c.1 c.2) Q=none
 c:3<=i->fstI (fun c=>badS L k c.1 c.2≠0) Q=none
 d:4<=i->(startS L,startB L)∈Q
 e:5<=i->(clsS L k Q).1=0
theorem chk_1 {L:List Mch} {k:Int} {Q:List Cf} (hV:SysV L) (h:k<1\/4<k\/20000<Q.length):chkV L k Q=((1,0,0,0),23):=by
 unfold chkV;rw[if_neg (fun h=>h hV),if_pos h]
theorem chk_2 {L:List Mch} {k:Int} {Q:List Cf} {i:Nat} (hV:SysV L) (hP:ChkP L k Q 1) (h:fstI (fun c=>¬ProS L k c.1 c.2) Q=some i):chkV L k Q=((2,(i:Int),0,0),23):=by
 unfold chkV;rw[if_neg (fun h=>h hV),if_neg (hP.a (by omega)),h]
theorem chk_3 {L:List Mch} {k:Int} {Q:List Cf} {i:Nat} (hV:SysV L) (hP:ChkP L k Q 2) (h:fstI (fun c=>badS L k c.1 c.2≠0) Q=some i):chkV L k Q=((3,(i:Int),0,0),23):=by
 unfold chkV;rw[if_neg (fun h=>h hV),if_neg (hP.a (by omega)),hP.b (by omega)];dsimp only;rw[h]
theorem chk_4 {L:List Mch} {k:Int} {Q:List Cf} (hV:SysV L) (hP:ChkP L k Q 3) (h:(startS L,startB L)∉Q):chkV L k Q=((4,0,0,0),23):=by
 unfold chkV;rw[if_neg (fun h=>h hV),if_neg (hP.a (by omega)),hP.b (by omega)];dsimp only;rw[hP.c (by omega)];dsimp only;rw[if_pos h]
theorem chk_5 {L:List Mch} {k:Int} {Q:List Cf} (hV:SysV L) (hP:ChkP L k Q 4) (h:(clsS L k Q).1≠0):chkV L k Q=(clsS L k Q,23):=by
 unfold chkV;rw[if_neg (fun h=>h hV),if_neg (hP.a (by omega)),hP.b (by omega)];dsimp only;rw[hP.c (by omega)];dsimp only;rw[if_neg (fun hn=>hn (hP.d (by omega))),if_pos h]
theorem chk_0 {L:List Mch} {k:Int} {Q:List Cf} (hV:SysV L) (hP:ChkP L k Q 5):chkV L k Q=(flt0,0):=by
 unfold chkV;rw[if_neg (fun h=>h hV),if_neg (hP.a (by omega)),hP.b (by omega)];dsimp only;rw[hP.c (by omega)];dsimp only;rw[if_neg (fun hn=>hn (hP.d (by omega))),if_neg (fun hn=>hn (hP.e (by omega)))]
def ChkR (o:Flt × Int) (h:Heap) (v:Value) (h':Heap):Prop:=v=.tuple ⟨[.agg ⟨fltC o.1⟩,.int .i64 o.2]⟩/\Ext h h'
theorem pro_all {L:List Mch} {k:Int} {C:List Cr} (h:fstI (fun c=>¬ProS L k c.1 c.2) (C.map Cr.cf)=none):∀c∈C,ProS L k c.S (c.B.map Bx.l):=fun c hc=>Classical.not_not.1 (fstI_no h (List.mem_map_of_mem (f:=Cr.cf) hc))
theorem check15 (L:List MR) (C:List Cr) (s cs:Sl) (k:Int) (h:Heap) (hS:SyI h s L) (hC:CtI h cs C) :
  Fn Pz 15 #[.slice s.a s.n s.c,.agg ⟨[.int .i64 k,.slice cs.a cs.n cs.c]⟩] h (ChkR (chkV (L.map MR.m) k (C.map Cr.cf)) h):=by
 apply vc15 s k cs;unfold W15 V15a;have hcn:=hC.r.ln;have hQl:(C.map Cr.cf).length=cs.n:=by rw[Yc];exact hcn.symm
 refine (St.refl h).newb fun h3 hs=>?_;refine hs.newb fun h4 hs=>?_;refine (valid22 L s h4 (hS.ext hs.ext)).mono ?_;rintro _ h7 ⟨⟨b,rfl,hb⟩,E7⟩;have hs:=hs.step E7;refine⟨b,rfl,sB_intro (fun c0=>?_) (fun c0=>?_)⟩
 .have hn:¬SysV (L.map MR.m):=fun hp=>by rw[hb.2 hp] at c0;cases c0
  refine hs.put 0 rfl (o:=0) (vs:=fltC flt0) rfl (show 4<=4 by decide) fun h8 hs=>?_;refine⟨0,0,0,0,hs.at 0 rfl (o:=0) (n:=4) rfl,?_,hs.ext⟩;have:chkV (L.map MR.m) k (C.map Cr.cf)=(flt0,1):=by unfold chkV;rw[if_pos hn]
  rw[this];rfl
 have hV:=hb.1 (by cases b with | true=>rfl | false=>cases c0);refine⟨k,cs,hs.at 1 rfl (o:=0) (n:=2) rfl,?_⟩;refine hs.mmake 104 fun h17 E17 hs=>⟨_,rfl,?_⟩;refine hs.newb fun h18 hs=>?_;obtain⟨xb,hxb⟩:∃xb,xb=h17.size:=⟨_,rfl⟩;rw[<-hxb] at hs ⊢;have hX:∀ {A:List It},Sta (.blk xb [.slice s.a s.n s.c,.int .i64 k,.slice cs.a cs.n cs.c,.map (some h7.size)] 106::A) fun h=>CkI h xb s k cs h7.size:=fun {A} h0 hh A' hA hs=>hs.atm (hA _ Yx);have hs:St h h18 (.mp h7.size (([]:List (ByteArray × Bool)).map kyV) :: .blk xb [.slice s.a s.n s.c,.int .i64 k,.slice cs.a cs.n cs.c,.map (some h7.size)] 106 :: .blk h3.size [.int .i64 0,.int .i64 0,.int .i64 0,.int .i64 0] 45 :: .blk h.size [.int .i64 k,.slice cs.a cs.n cs.c] 31::[]):=hs.perm (List.Perm.swap _ _ _);refine⟨fun x h' μ=>∃(i:Nat) (N:List (ByteArray × Bool)),x=(i:Int)/\μ=5-i/\i<=5/\ChkP (L.map MR.m) k (C.map Cr.cf) i/\(i<=3->N=[])/\(4<=i->KyOk N (C.map Cr.cf)) /\
  St h h' (.mp h7.size (N.map kyV) :: .blk xb [.slice s.a s.n s.c,.int .i64 k,.slice cs.a cs.n cs.c,.map (some h7.size)] 106 :: .blk h3.size [.int .i64 0,.int .i64 0,.int .i64 0,.int .i64 0] 45 :: .blk h.size [.int .i64 k,.slice cs.a cs.n cs.c] 31::[]),⟨_,0,[],rfl,rfl,Nat.zero_le _,⟨fun h=>by omega,fun h=>by omega,fun h=>by omega,fun h=>by omega,fun h=>by omega⟩,fun _=>rfl,fun h=>by omega,hs⟩,?_⟩
 clear hs;rintro-_ h23 μ ⟨i,N,rfl,rfl,hi,hP,hN0,hN4,hs⟩;refine sBi (fun c1=>⟨⟨by omega,by omega⟩,?_⟩) (fun c1=>?_);rotate_left
 .have hie:i=5:=by omega
  subst hie;refine hs.put 2 rfl (o:=0) (vs:=fltC flt0) rfl (show 4<=4 by decide) fun h47 hs=>?_;exact⟨0,0,0,0,hs.at 2 rfl (o:=0) (n:=4) rfl,by rw[chk_0 hV hP];rfl,hs.ext⟩
 have hXh:=(hX (A:=[])).at hs fun i hi=>Yn _ (by rw[Ye.1 hi];exact Yx);rcases (by omega:i=0\/i=1\/i=2\/i=3\/i=4) with rfl | rfl | rfl | rfl | rfl
 .refine⟨_,rfl,?_⟩;show bif callable Pz 38 then _ else _
  rw[cal38,cond_true];refine (limits38 xb s cs k h7.size h23 hXh).mono ?_;rintro _ h33 ⟨⟨f,rfl,hf⟩,E⟩;have hs:=hs.step E;rw[<-hQl] at hf;have hbad:f.1≠0->chkV (L.map MR.m) k (C.map Cr.cf)=(f,23):=fun hn=>by
   by_cases hl:k<1\/4<k\/20000<(C.map Cr.cf).length
   .rw[chk_1 hV hl,hf,if_pos hl]
   .rw[hf,if_neg hl] at hn;exact absurd rfl hn
  have hgood:f.1=0->ChkP (L.map MR.m) k (C.map Cr.cf) (0+1)/\((0+1<=3->N=[])/\(4<=0+1->KyOk N (C.map Cr.cf))):=fun hn=>by
   refine⟨⟨fun _ hl=>?_,fun h=>by omega,fun h=>by omega,fun h=>by omega,fun h=>by omega⟩,fun _=>hN0 (by omega),fun h=>by omega⟩;rw[hf,if_pos hl] at hn;exact absurd hn (by decide)
  refine⟨_,_,_,_,rfl,?_⟩;refine hs.newput (vs:=fltC f) rfl rfl fun h35 hs=>?_;refine⟨f.1,hs.rd 0 rfl (i:=0) rfl,sBn (fun c2=>?_) (fun c2=>?_)⟩
  .refine⟨f.1,f.2.1,f.2.2.1,f.2.2.2,hs.at 0 rfl (o:=0) (n:=4) rfl,?_⟩;refine hs.put 3 rfl (o:=0) (vs:=fltC f) rfl (show 4<=4 by decide) fun h41 hs=>?_;exact⟨f.1,f.2.1,f.2.2.1,f.2.2.2,hs.at 3 rfl (o:=0) (n:=4) rfl,by rw[hbad c2];rfl,hs.ext⟩
  .obtain⟨hP',hN'⟩:=hgood c2;exact⟨_,(show 5-(0+1)<5-0 by omega),0+1,_,by rw[w64 (by omega) (by omega)];omega,rfl,by omega,hP',hN'.1,hN'.2,hs.drop 1⟩
 .refine⟨_,rfl,?_⟩;show bif callable Pz 39 then _ else _
  rw[cal39,cond_true];refine (proper39 L C s cs k xb h7.size h23 (hS.ext hs.ext) hXh (hC.ext hs.ext)).mono ?_;rintro _ h33 ⟨rfl,E⟩;have hs:=hs.step E;obtain⟨f,hf⟩:∃f,f=fltO 2 (fstI (fun c=>¬ProS (L.map MR.m) k c.1 c.2) (C.map Cr.cf)):=⟨_,rfl⟩;rw[<-hf];have hbad:f.1≠0->chkV (L.map MR.m) k (C.map Cr.cf)=(f,23):=fun hn=>by
   cases ho:fstI (fun c=>¬ProS (L.map MR.m) k c.1 c.2) (C.map Cr.cf) with
   | none=>rw[hf,ho] at hn;exact absurd rfl hn
   | some i=>rw[chk_2 hV hP ho,hf,ho];rfl
  have hgood:f.1=0->ChkP (L.map MR.m) k (C.map Cr.cf) (1+1)/\((1+1<=3->N=[])/\(4<=1+1->KyOk N (C.map Cr.cf))):=fun hn=>by
   refine⟨⟨fun _=>hP.a (by omega),fun _=>?_,fun h=>by omega,fun h=>by omega,fun h=>by omega⟩,fun _=>hN0 (by omega),fun h=>by omega⟩;cases ho:fstI (fun c=>¬ProS (L.map MR.m) k c.1 c.2) (C.map Cr.cf) with
   | none=>rfl
   | some i=>rw[hf,ho] at hn;exact absurd hn (show ¬((2:Int)=0) by decide)
  refine⟨_,_,_,_,rfl,?_⟩;refine hs.newput (vs:=fltC f) rfl rfl fun h35 hs=>?_;refine⟨f.1,hs.rd 0 rfl (i:=0) rfl,sBn (fun c2=>?_) (fun c2=>?_)⟩
  .refine⟨f.1,f.2.1,f.2.2.1,f.2.2.2,hs.at 0 rfl (o:=0) (n:=4) rfl,?_⟩;refine hs.put 3 rfl (o:=0) (vs:=fltC f) rfl (show 4<=4 by decide) fun h41 hs=>?_;exact⟨f.1,f.2.1,f.2.2.1,f.2.2.2,hs.at 3 rfl (o:=0) (n:=4) rfl,by rw[hbad c2];rfl,hs.ext⟩
  .obtain⟨hP',hN'⟩:=hgood c2;exact⟨_,(show 5-(1+1)<5-1 by omega),1+1,_,by rw[w64 (by omega) (by omega)];omega,rfl,by omega,hP',hN'.1,hN'.2,hs.drop 1⟩
 .refine⟨_,rfl,?_⟩;show bif callable Pz 40 then _ else _
  rw[cal40,cond_true];have hpa:=pro_all (hP.b (by omega));refine (good40 L C s cs k xb h7.size h23 (hS.ext hs.ext) hXh (hC.ext hs.ext) hpa).mono ?_;rintro _ h33 ⟨rfl,E⟩;have hs:=hs.step E;obtain⟨f,hf⟩:∃f,f=fltO 3 (fstI (fun c=>badS (L.map MR.m) k c.1 c.2≠0) (C.map Cr.cf)):=⟨_,rfl⟩;rw[<-hf];have hbad:f.1≠0->chkV (L.map MR.m) k (C.map Cr.cf)=(f,23):=fun hn=>by
   cases ho:fstI (fun c=>badS (L.map MR.m) k c.1 c.2≠0) (C.map Cr.cf) with
   | none=>rw[hf,ho] at hn;exact absurd rfl hn
   | some i=>rw[chk_3 hV hP ho,hf,ho];rfl
  have hgood:f.1=0->ChkP (L.map MR.m) k (C.map Cr.cf) (2+1)/\((2+1<=3->N=[])/\(4<=2+1->KyOk N (C.map Cr.cf))):=fun hn=>by
   refine⟨⟨fun _=>hP.a (by omega),fun _=>hP.b (by omega),fun _=>?_,fun h=>by omega,fun h=>by omega⟩,fun _=>hN0 (by omega),fun h=>by omega⟩;cases ho:fstI (fun c=>badS (L.map MR.m) k c.1 c.2≠0) (C.map Cr.cf) with
   | none=>rfl
   | some i=>rw[hf,ho] at hn;exact absurd hn (show ¬((3:Int)=0) by decide)
  refine⟨_,_,_,_,rfl,?_⟩;refine hs.newput (vs:=fltC f) rfl rfl fun h35 hs=>?_;refine⟨f.1,hs.rd 0 rfl (i:=0) rfl,sBn (fun c2=>?_) (fun c2=>?_)⟩
  .refine⟨f.1,f.2.1,f.2.2.1,f.2.2.2,hs.at 0 rfl (o:=0) (n:=4) rfl,?_⟩;refine hs.put 3 rfl (o:=0) (vs:=fltC f) rfl (show 4<=4 by decide) fun h41 hs=>?_;exact⟨f.1,f.2.1,f.2.2.1,f.2.2.2,hs.at 3 rfl (o:=0) (n:=4) rfl,by rw[hbad c2];rfl,hs.ext⟩
  .obtain⟨hP',hN'⟩:=hgood c2;exact⟨_,(show 5-(2+1)<5-2 by omega),2+1,_,by rw[w64 (by omega) (by omega)];omega,rfl,by omega,hP',hN'.1,hN'.2,hs.drop 1⟩
 .refine⟨_,rfl,?_⟩;show bif callable Pz 41 then _ else _
  rw[cal41,cond_true];have hpa:=pro_all (hP.b (by omega));have hka:=hP.a (by omega);have hN:=hN0 (by omega);subst hN;refine (starts41 L C s cs k xb h7.size hs hS hV hX hC ⟨by omega,by omega⟩ hpa).mono ?_;rintro _ h33 ⟨f,N2,rfl,hf,hN2,hs⟩;have hbad:f.1≠0->chkV (L.map MR.m) k (C.map Cr.cf)=(f,23):=fun hn=>by
   rcases hf with ⟨rfl,hm⟩ | ⟨rfl,hm⟩
   .exact absurd rfl hn
   .exact chk_4 hV hP hm
  have hgood:f.1=0->ChkP (L.map MR.m) k (C.map Cr.cf) (3+1)/\((3+1<=3->N2=[])/\(4<=3+1->KyOk N2 (C.map Cr.cf))):=fun hn=>by
   refine⟨⟨fun _=>hP.a (by omega),fun _=>hP.b (by omega),fun _=>hP.c (by omega),fun _=>?_,fun h=>by omega⟩,fun h=>by omega,fun _=>hN2⟩;rcases hf with ⟨rfl,hm⟩ | ⟨rfl,hm⟩
   .exact hm
   .exact absurd hn (by decide)
  refine⟨_,_,_,_,rfl,?_⟩;refine hs.newput (vs:=fltC f) rfl rfl fun h35 hs=>?_;refine⟨f.1,hs.rd 0 rfl (i:=0) rfl,sBn (fun c2=>?_) (fun c2=>?_)⟩
  .refine⟨f.1,f.2.1,f.2.2.1,f.2.2.2,hs.at 0 rfl (o:=0) (n:=4) rfl,?_⟩;refine hs.put 3 rfl (o:=0) (vs:=fltC f) rfl (show 4<=4 by decide) fun h41 hs=>?_;exact⟨f.1,f.2.1,f.2.2.1,f.2.2.2,hs.at 3 rfl (o:=0) (n:=4) rfl,by rw[hbad c2];rfl,hs.ext⟩
  .obtain⟨hP',hN'⟩:=hgood c2;exact⟨_,(show 5-(3+1)<5-3 by omega),3+1,_,by rw[w64 (by omega) (by omega)];omega,rfl,by omega,hP',hN'.1,hN'.2,hs.drop 1⟩
 .refine⟨_,rfl,?_⟩;show bif callable Pz 42 then _ else _
  rw[cal42,cond_true];have hpa:=pro_all (hP.b (by omega));refine (closed42 L C s cs k xb h7.size N hs (hN4 (by omega)) hS hX hC hpa).mono ?_;rintro _ h33 ⟨rfl,hs⟩;obtain⟨f,hf⟩:∃f,f=clsS (L.map MR.m) k (C.map Cr.cf):=⟨_,rfl⟩;rw[<-hf];have hbad:f.1≠0->chkV (L.map MR.m) k (C.map Cr.cf)=(f,23):=fun hn=>by rw[hf] at hn ⊢;exact chk_5 hV hP hn
  have hgood:f.1=0->ChkP (L.map MR.m) k (C.map Cr.cf) (4+1)/\((4+1<=3->N=[])/\(4<=4+1->KyOk N (C.map Cr.cf))):=fun hn=>by
   rw[hf] at hn;exact⟨⟨fun _=>hP.a (by omega),fun _=>hP.b (by omega),fun _=>hP.c (by omega),fun _=>hP.d (by omega),fun _=>hn⟩,fun h=>by omega,fun _=>hN4 (by omega)⟩
  refine⟨_,_,_,_,rfl,?_⟩;refine hs.newput (vs:=fltC f) rfl rfl fun h35 hs=>?_;refine⟨f.1,hs.rd 0 rfl (i:=0) rfl,sBn (fun c2=>?_) (fun c2=>?_)⟩
  .refine⟨f.1,f.2.1,f.2.2.1,f.2.2.2,hs.at 0 rfl (o:=0) (n:=4) rfl,?_⟩;refine hs.put 3 rfl (o:=0) (vs:=fltC f) rfl (show 4<=4 by decide) fun h41 hs=>?_;exact⟨f.1,f.2.1,f.2.2.1,f.2.2.2,hs.at 3 rfl (o:=0) (n:=4) rfl,by rw[hbad c2];rfl,hs.ext⟩
  .obtain⟨hP',hN'⟩:=hgood c2;exact⟨_,(show 5-(4+1)<5-4 by omega),4+1,_,by rw[w64 (by omega) (by omega)];omega,rfl,by omega,hP',hN'.1,hN'.2,hs.drop 1⟩
end Go.VC
end

section
namespace Go.VC
open Go.Proofs Go.LexS

end Go.VC
end

section
namespace Go.VC
open Go.Proofs Go.LexS Go.Maps

theorem CtI.own {h h':Heap} {cs o:Sl} {e:TypeId} {C:List Cr} (hC:CtI h cs C) (hs:St h h' [.sl o e 2 (C.map Cr.cs)]):CtI h' o C:=⟨hs.rl 0 rfl (by omega) hC.r.sm,fun c hc=>(hC.ext hs.ext).i c hc⟩
theorem ownO17 (C:List Cr) (cs:Sl) (k:Int) (h:Heap) (hC:CtI h cs C) :
  Fn Pz 17 #[.agg ⟨[.int .i64 k,.slice cs.a cs.n cs.c]⟩] h fun v h'=>∃o:Sl,v=.agg ⟨[.int .i64 k,.slice o.a o.n o.c]⟩/\St h h' [.sl o 52 2 (C.map Cr.cs)]:=by
 apply vc17 k cs;unfold W17;have hcn:=hC.r.ln;have hcm:=hC.r.sm;refine (St.refl h).newb fun h3 hs=>?_;refine hs.newb fun h4 hs=>?_;refine⟨k,hs.rd 1 rfl (i:=0) rfl,?_⟩;refine hs.newput (vs:=[.int .i64 k,.slice none 0 0]) rfl rfl fun h7 hs=>?_;refine⟨cs,hs.rd 2 rfl (i:=1) rfl,?_⟩;have hs:=hs.nil_ 52 2;refine⟨fun x h' μ=>∃(i:Nat) (o:Sl),x=(i:Int)/\μ=C.length-i/\i<=C.length/\St h h' [.sl o 52 2 ((C.take i).map Cr.cs),.blk h4.size [.int .i64 k,.slice o.a o.n o.c] 31,.blk h3.size [.int .i64 0,.slice none 0 0] 31,.blk h.size [.int .i64 k,.slice cs.a cs.n cs.c] 37],⟨_,0,⟨none,0,0⟩,rfl,rfl,Nat.zero_le _,by rw[Yyk];exact hs⟩,?_⟩;clear hs;rintro-_ h13 μ ⟨i,o,rfl,rfl,hi,hs⟩;have hon:=(hs.rows 0 (s:=o) (cs:=Cr.cs) rfl (by omega)).ln;rw[Yu] at hon;refine sBi (fun c1=>?_) (fun c1=>?_)
 .obtain⟨d,gd⟩:=get_some (l:=C) (i:=i) (by omega);refine⟨o,hs.rd 1 rfl (i:=1) rfl,cs,hs.rd 3 rfl (i:=1) rfl,?_⟩;refine (hC.r.rw.ext hs.ext).nbI (by omega) (by omega) fun b8 o9 d' gd' t=>?_;rw[Ys] at gd';replace gd':C[i]?=some d':=gd';rw[gd] at gd';cases gd';refine⟨d.c1,d.c2,t,?_⟩;refine VC.newb fun h20 E20 o20=>?_;have hs:=hs.more E20 (i:=.blk h13.size (Cr.cs d) 52) o20 fun b hb=>by cases hb;exact Yyt _
  refine⟨E20.sm,?_⟩;refine hs.appended 1 (s:=o) (n:=2) (rows:=(C.take i).map Cr.cs) rfl app29 (m:=1) (news:=[Cr.cs d]) (hs.at 0 rfl (n:=2) rfl) rfl (fun r hr=>by rw[Ye] at hr;rw[hr];rfl) rfl (by omega) (by simp only[maxLen];omega) fun r2 h22 nr hs=>?_;refine hs.put 2 rfl (o:=1) (vs:=[.slice r2.a r2.n r2.c]) rfl (show 1+1<=2 by decide) fun h23 hs=>?_;refine⟨_,(show C.length-(i+1)<C.length-i by omega),i+1,r2,by rw[w64 (by omega) (by omega)];omega,rfl,by omega,?_⟩;rw[take_snoc gd,Ym];exact hs.drop 1
 .have hil:i=C.length:=by omega
  subst hil;rw[Yye] at hs;refine⟨k,o,hs.at 1 rfl (o:=0) (n:=2) rfl,?_⟩;refine hs.put 2 rfl (o:=0) (vs:=[.int .i64 k,.slice o.a o.n o.c]) rfl (show 2<=2 by decide) fun h27 hs=>?_;exact⟨k,o,hs.at 2 rfl (o:=0) (n:=2) rfl,o,rfl,hs.sub (.cons_cons _ (List.nil_sublist _))⟩
theorem theirsO14 (C:List Cr) (cs:Sl) (k:Int) (h:Heap) (hC:CtI h cs C) :
  Fn Pz 14 #[.agg ⟨[.int .i64 k,.slice cs.a cs.n cs.c]⟩] h fun v h'=>∃o:Sl,v=.agg ⟨[.int .i64 k,.slice o.a o.n o.c]⟩/\St h h' [.sl o 28 2 (C.map Cr.cs)]:=by
 apply vc14 k cs;unfold W14;have hcn:=hC.r.ln;have hcm:=hC.r.sm;refine (St.refl h).newb fun h3 hs=>?_;refine hs.newb fun h4 hs=>?_;refine⟨k,hs.rd 1 rfl (i:=0) rfl,?_⟩;refine hs.newput (vs:=[.int .i64 k,.slice none 0 0]) rfl rfl fun h7 hs=>?_;refine⟨cs,hs.rd 2 rfl (i:=1) rfl,?_⟩;have hs:=hs.nil_ 28 2;refine⟨fun x h' μ=>∃(i:Nat) (o:Sl),x=(i:Int)/\μ=C.length-i/\i<=C.length/\St h h' [.sl o 28 2 ((C.take i).map Cr.cs),.blk h4.size [.int .i64 k,.slice o.a o.n o.c] 37,.blk h3.size [.int .i64 0,.slice none 0 0] 37,.blk h.size [.int .i64 k,.slice cs.a cs.n cs.c] 31],⟨_,0,⟨none,0,0⟩,rfl,rfl,Nat.zero_le _,by rw[Yyk];exact hs⟩,?_⟩;clear hs;rintro-_ h13 μ ⟨i,o,rfl,rfl,hi,hs⟩;have hon:=(hs.rows 0 (s:=o) (cs:=Cr.cs) rfl (by omega)).ln;rw[Yu] at hon;refine sBi (fun c1=>?_) (fun c1=>?_)
 .obtain⟨d,gd⟩:=get_some (l:=C) (i:=i) (by omega);refine⟨o,hs.rd 1 rfl (i:=1) rfl,cs,hs.rd 3 rfl (i:=1) rfl,?_⟩;refine (hC.r.rw.ext hs.ext).nbI (by omega) (by omega) fun b8 o9 d' gd' t=>?_;rw[Ys] at gd';replace gd':C[i]?=some d':=gd';rw[gd] at gd';cases gd';refine⟨d.c1,d.c2,t,?_⟩;refine VC.newb fun h20 E20 o20=>?_;have hs:=hs.more E20 (i:=.blk h13.size (Cr.cs d) 28) o20 fun b hb=>by cases hb;exact Yyt _
  refine⟨E20.sm,?_⟩;refine hs.appended 1 (s:=o) (n:=2) (rows:=(C.take i).map Cr.cs) rfl app36r (m:=1) (news:=[Cr.cs d]) (hs.at 0 rfl (n:=2) rfl) rfl (fun r hr=>by rw[Ye] at hr;rw[hr];rfl) rfl (by omega) (by simp only[maxLen];omega) fun r2 h22 nr hs=>?_;refine hs.put 2 rfl (o:=1) (vs:=[.slice r2.a r2.n r2.c]) rfl (show 1+1<=2 by decide) fun h23 hs=>?_;refine⟨_,(show C.length-(i+1)<C.length-i by omega),i+1,r2,by rw[w64 (by omega) (by omega)];omega,rfl,by omega,?_⟩;rw[take_snoc gd,Ym];exact hs.drop 1
 .have hil:i=C.length:=by omega
  subst hil;rw[Yye] at hs;refine⟨k,o,hs.at 1 rfl (o:=0) (n:=2) rfl,?_⟩;refine hs.put 2 rfl (o:=0) (vs:=[.int .i64 k,.slice o.a o.n o.c]) rfl (show 2<=2 by decide) fun h27 hs=>?_;exact⟨k,o,hs.at 2 rfl (o:=0) (n:=2) rfl,o,rfl,hs.sub (.cons_cons _ (List.nil_sublist _))⟩
theorem theirs14 (C:List Cr) (cs:Sl) (k:Int) (h:Heap) (hC:CtI h cs C) :
  Fn Pz 14 #[.agg ⟨[.int .i64 k,.slice cs.a cs.n cs.c]⟩] h fun v h'=>∃o:Sl,v=.agg ⟨[.int .i64 k,.slice o.a o.n o.c]⟩/\Ext h h'/\CtI h' o C:=by
 refine (theirsO14 C cs k h hC).mono ?_;rintro v h' ⟨o,e,hs⟩;exact⟨o,e,hs.ext,hC.own hs⟩
theorem same13 (C D:List Cr) (k l:Int) (a b:Sl) (h:Heap) (hC:CtI h a C) (hD:CtI h b D) :
  Fn Pz 13 #[.agg ⟨[.int .i64 k,.slice a.a a.n a.c]⟩,.agg ⟨[.int .i64 l,.slice b.a b.n b.c]⟩] h (RP (k=l/\C.map Cr.cf=D.map Cr.cf) h):=by
 apply vc13 k a l b;unfold W13;have n1:=hC.r.ln;have n2:=hD.r.ln;have m1:=hC.r.sm;refine (St.refl h).newb fun h5 hs=>?_;refine hs.newb fun h6 hs=>?_;refine⟨k,hs.rd 1 rfl (i:=0) rfl,l,hs.rd 0 rfl (i:=0) rfl,sBn (fun c=>RP.f (fun hG=>c hG.1) hs.ext) (fun c0=>?_)⟩;refine⟨a,hs.rd 1 rfl (i:=1) rfl,b,hs.rd 0 rfl (i:=1) rfl,sBn (fun c=>RP.f (fun hG=>?_) hs.ext) (fun c1=>?_)⟩
 .have:=congrArg List.length hG.2;rw[Yc,Yc] at this;omega
 refine up_loopS (n:=a.n) hs (fun i=>∀(j:Nat),j<i->(C.map Cr.cf)[j]?=(D.map Cr.cf)[j]?) (fun j hj=>by omega) ?_;rintro-i h15 hi ⟨hs,hq⟩;refine⟨a,hs.rd 1 rfl (i:=1) rfl,sB_intro (fun c=>?_) (fun c=>?_)⟩
 .replace c:=lt_t c;refine⟨a,hs.rd 1 rfl (i:=1) rfl,?_⟩;refine (hC.r.rw.ext hs.ext).nbI (by omega) (by omega) fun b3 o3 x gx t3=>?_;replace gx:C[i]?=some x:=gx;refine⟨x.c1,x.c2,t3,b,hs.rd 0 rfl (i:=1) rfl,?_⟩;refine (hD.r.rw.ext hs.ext).nbI (by omega) (by omega) fun b4 o4 y gy t4=>?_;replace gy:D[i]?=some y:=gy;refine⟨y.c1,y.c2,t4,?_⟩;refine (sameC19 x.c1 x.c2 y.c1 y.c2 x.S y.S x.B y.B h15 ((hC.ext hs.ext).i x (Yb gx)) ((hD.ext hs.ext).i y (Yb gy))).mono ?_;rintro _ h29 ⟨⟨b',rfl,hb'⟩,E⟩;have hs:=hs.step E;have ex:(C.map Cr.cf)[i]?=some x.cf:=by rw[Yd,gx];rfl
  have ey:(D.map Cr.cf)[i]?=some y.cf:=by rw[Yd,gy];rfl
  refine⟨_,rfl,sB_intro (fun c2=>RP.f (fun hG=>?_) hs.ext) (fun c2=>?_)⟩
  .rw[hG.2,ey] at ex;have e:=(Yyp ex).symm;rw[hb'.2 ⟨congrArg Prod.fst e,congrArg Prod.snd e⟩] at c2;cases c2
  .refine Up.next c (by omega) ⟨hs,fun j hj=>?_⟩;by_cases e:j=i
   .subst e;rw[ex,ey];have hp:=hb'.1 (by cases b' with | true=>rfl | false=>cases c2);exact congrArg some (Prod.ext hp.1 hp.2)
   .exact hq j (by omega)
 .replace c:=lt_f c;refine RP.t ⟨c0,Yyr fun j=>?_⟩ hs.ext;by_cases hj:j<i
  .exact hq j hj
  .rw[Yl (by rw[Yc];omega),Yl (by rw[Yc];omega)]
end Go.VC
end

section
namespace Go.VC
open Go.Proofs Go.LexS Go.Maps
theorem cls_5 (L:List Mch) (k:Int) (Q:List Cf):(clsS L k Q).1=0\/(clsS L k Q).1=5:=by
 unfold clsS;cases fstI (fun c=>(levS L k Q c).isSome=true) Q with
 | none=>exact .inl rfl
 | some i=>
  dsimp only;cases (Q[i]?).bind (levS L k Q) with
  | none=>exact .inl rfl
  | some q=>exact .inr rfl
theorem cls_0 {L:List Mch} {k:Int} {Q:List Cf} (h:(clsS L k Q).1=0) {c:Cf} (hc:c∈Q):levS L k Q c=none:=by
 unfold clsS at h;cases hf:fstI (fun c=>(levS L k Q c).isSome=true) Q with
 | none=>
  have h1:=fstI_no hf hc;cases hl:levS L k Q c with
  | none=>rfl
  | some q=>exact absurd (by rw[hl];rfl) h1
 | some i=>
  rw[hf] at h;dsimp only at h;obtain⟨c,gc,hs⟩:=fstI_ex hf;obtain⟨q,hq⟩:=Option.isSome_iff_exists.1 hs;rw[gc,Option.bind_some,hq] at h;exact absurd h (show ¬((5:Int)=0) by decide)
open Classical in
theorem lev_inv {L:List Mch} {k:Int} {Q:List Cf} {c:Cf} (h:levS L k Q c=none) {q:Nat × Nat} (hq:q∈stepsS L k c.1 c.2):nxS L c q∈Q:=by
 unfold levS at h;have h2:=List.find?_eq_none.1 h q hq;rw[decide_eq_true_eq] at h2;exact Classical.not_not.1 h2
theorem right_mem {L:List Mch} {k:Int} {Q:List Cf} (hP:ChkP L k Q 5):∀ {n:Nat} {l:List (Nat × Nat)} {c:Cf},l.length=n->runS L k l=some c->c∈Q
 | 0,l,c,hn,hr=>by
  obtain rfl:=List.length_eq_zero_iff.1 hn;have h2:some ((startS L,(List.replicate (L.length*L.length) bx0).map Bx.l):Cf)=some c:=hr;rw[bxs0] at h2;rw[<-Yyp h2];exact hP.d (by omega)
 | n+1,l,c,hn,hr=>by
  obtain⟨l',q,rfl⟩:∃l' q,l=l'++[q]:=⟨l.dropLast,l.getLast (by intro e;rw[e] at hn;cases hn),(List.dropLast_concat_getLast _).symm⟩;rw[Yh,Yv] at hn;rw[runS_snoc] at hr;cases h0:runS L k l' with
  | none=>rw[h0] at hr;cases hr
  | some c0=>
   rw[h0] at hr;have hc0:=right_mem (n:=n) hP (by omega) h0;obtain⟨hq,rfl⟩:=stp_inv hr;exact lev_inv (cls_0 (hP.e (by omega)) hc0) hq
theorem fst_get {Q:List Qe} {j:Nat} {d:Cf} (h:(Q.map Prod.fst)[j]?=some d):∃e,Q[j]?=some e/\e.1=d:=by
 rw[Yd] at h;cases g:Q[j]? with
 | none=>rw[g] at h;cases h
 | some e=>rw[g] at h;cases h;exact⟨e,rfl,rfl⟩
theorem sea_p4 {L:List Mch} {k:Int} {lm:Nat} {Q:List Qe} (hs:Sea L k lm Q.length Q) (hk:1<=k/\k<=4) (hl2:lm<=20000) {n:Nat} (h1:1<=n):ChkP L k ((Q.map Prod.fst).take n) 4:=by
 have hg:∀ {j:Nat} {d:Cf},((Q.map Prod.fst).take n)[j]?=some d->∃e,Q[j]?=some e/\e.1=d:=fun {j d} h=>by
  by_cases hj:j<n
  .rw[List.getElem?_take_of_lt hj] at h;exact fst_get h
  .rw[List.getElem?_take_eq_none (by omega)] at h;cases h
 refine⟨fun _ hx=>?_,fun _=>fstI_none fun j d hd=>?_,fun _=>fstI_none fun j d hd=>?_,fun _=>?_,fun h=>by omega⟩
 .have:=hs.l;rw[Yu,Yc] at hx;omega
 .obtain⟨e,ge,rfl⟩:=hg hd;exact fun h=>h (hs.p e (Yb ge))
 .obtain⟨e,ge,rfl⟩:=hg hd;exact fun h=>h (hs.d j e (Ya.1 ge).1 ge).1
 .refine Yb (i:=0) ?_;rw[List.getElem?_take_of_lt (by omega),Yd,hs.s];rfl
theorem safe_chk {L:List Mch} {k:Int} {lm:Nat} {Q:List Cf} (hV:SysV L) (hk:1<=k/\k<=4) (hl:1<=lm) (hl2:lm<=20000) (h:exS L k lm=.safe Q):chkV L k Q=(flt0,0):=by
 have hok:=exS_ok (lim:=lm) hV hk hl;rw[h] at hok;obtain⟨Q',hs,rfl⟩:=hok;have h0:0<Q'.length:=(Ya.1 hs.s).1;have p4:=sea_p4 hs hk hl2 (n:=Q'.length) (by omega);rw[Yj (by rw[Yc];exact Yyt _)] at p4;refine chk_0 hV ⟨fun _=>p4.a (by omega),fun _=>p4.b (by omega),fun _=>p4.c (by omega),fun _=>p4.d (by omega),fun _=>?_⟩;rw[cls_none fun j d hd=>lev_none fun q hq=>?_]
 .rfl
 .obtain⟨e,ge,rfl⟩:=fst_get hd;obtain⟨m,e',gm,he,-⟩:=(hs.d j e (Ya.1 ge).1 ge).2 q hq;rw[<-he];exact List.mem_map_of_mem (Yb gm)
theorem cut_chk {L:List Mch} {k:Int} {lm:Nat} {Q:List Cf} (hV:SysV L) (hk:1<=k/\k<=4) (hl:1<=lm) (hl2:lm<=20000) (h:exS L k lm=.safe Q) {n:Nat} (h1:1<=n) (hn:n<Q.length):(chkV L k (Q.take n)).2=23/\(chkV L k (Q.take n)).1.1=5:=by
 have hok:=exS_ok (lim:=lm) hV hk hl;rw[h] at hok;obtain⟨Q',hs,rfl⟩:=hok;have p4:=sea_p4 hs hk hl2 h1;rcases cls_5 L k ((Q'.map Prod.fst).take n) with h5 | h5
 .exfalso;have p5:ChkP L k ((Q'.map Prod.fst).take n) 5:=⟨fun _=>p4.a (by omega),fun _=>p4.b (by omega),fun _=>p4.c (by omega),fun _=>p4.d (by omega),fun _=>h5⟩;rw[Yc] at hn;obtain⟨e,ge⟩:=get_some hn;have hm:=right_mem p5 rfl (hs.r e (Yb ge));obtain⟨j,gj⟩:=Yf.1 hm;have hj:j<n:=by
   have:=(Ya.1 gj).1;rw[Yu] at this;omega
  rw[List.getElem?_take_of_lt hj] at gj;have gn:(Q'.map Prod.fst)[n]?=some e.1:=by rw[Yd,ge];rfl
  have hjl:j<(Q'.map Prod.fst).length:=(Ya.1 gj).1;have:=(List.getElem?_inj hjl hs.n).1 (gj.trans gn.symm);omega
 .rw[chk_5 hV p4 (by rw[h5];decide)];exact⟨rfl,h5⟩
end Go.VC
end

section
namespace Go.VC
open Go.Proofs Go.LexS Go.Maps
def mkO (o:RV × Int) (k:Int):(Int × List Cf) × Int:=if o.2≠0 then ((0,[]),o.2) else if o.1.v=2 then ((0,[]),23) else if o.1.v=3 then ((0,[]),6) else ((k,o.1.Q),0)
def MkR (o:(Int × List Cf) × Int) (h:Heap) (v:Value) (h':Heap):Prop:=∃(cs:Sl) (C:List Cr),v=.tuple ⟨[.agg ⟨[.int .i64 o.1.1,.slice cs.a cs.n cs.c]⟩,.int .i64 o.2]⟩/\Ext h h'/\CtI h' cs C/\C.map Cr.cf=o.1.2
theorem CtI.nil {h:Heap}:CtI h ⟨none,0,0⟩ []:=⟨⟨Rw.nil,Yyt _,fun _=>⟨rfl,rfl⟩,Nat.zero_le _⟩,fun c hc=>by cases hc⟩
theorem make11 (L:List MR) (s:Sl) (k lim:Int) (h:Heap) (hS:SyI h s L) :
  Fn Pz 11 #[.slice s.a s.n s.c,.int .i64 k,.int .i64 lim] h (MkR (mkO (expV (L.map MR.m) k lim) k) h):=by
 apply vc11 s k lim;unfold W11;refine (St.refl h).newb fun h1 hs=>?_;have e1:=explore13 L s k lim h1 (hS.ext hs.ext);generalize expV (L.map MR.m) k lim=o at e1 ⊢;refine e1.mono ?_;rintro _ h9 ⟨cf,mo,tr,A,rfl,hs1,hR⟩;have hs:=hs.join hs1;refine⟨_,cf,mo,_,tr,_,rfl,?_⟩;refine hs.newput (vs:=resA o.1.v cf mo o.1.k tr) rfl rfl fun h11 hs=>?_;refine sBn (fun c=>?_) (fun c=>?_);have e:mkO o k=((0,[]),o.2):=if_pos c;rw[e];refine hs.put 1 rfl (o:=0) (vs:=[.int .i64 0,.slice none 0 0]) rfl (show 2<=2 by decide) fun h12 hs=>?_;rotate_left;refine⟨o.1.v,hs.rd 0 rfl (i:=0) rfl,sBe (fun c2=>?_) (fun c2=>?_)⟩;have e:mkO o k=((0,[]),23):=by unfold mkO;rw[if_neg (fun h=>h c),if_pos c2]
 rw[e];refine hs.put 1 rfl (o:=0) (vs:=[.int .i64 0,.slice none 0 0]) rfl (show 2<=2 by decide) fun h12 hs=>?_;rotate_left;refine⟨o.1.v,hs.rd 0 rfl (i:=0) rfl,sBe (fun c3=>?_) (fun c3=>?_)⟩;have e:mkO o k=((0,[]),6):=by unfold mkO;rw[if_neg (fun h=>h c),if_neg c2,if_pos c3]
 rw[e];refine hs.put 1 rfl (o:=0) (vs:=[.int .i64 0,.slice none 0 0]) rfl (show 2<=2 by decide) fun h12 hs=>?_;rotate_left;have e:mkO o k=((k,o.1.Q),0):=by unfold mkO;rw[if_neg (fun h=>h c),if_neg c2,if_neg c3]
 rw[e];refine⟨cf,hs.rd 0 rfl (i:=1) rfl,?_⟩;refine hs.put 1 rfl (o:=0) (vs:=[.int .i64 k,.slice cf.a cf.n cf.c]) rfl (show 2<=2 by decide) fun h24 hs=>?_;have hRI:=hR.at hs (memP (P:=[_,_]));obtain⟨C,q1,q2,q3⟩:=hRI.c;exact⟨k,cf,hs.at 1 rfl (o:=0) (n:=2) rfl,cf,C,rfl,hs.ext,⟨q1,q2⟩,q3⟩;all_goals first | exact⟨0,⟨none,0,0⟩,hs.at 1 rfl (o:=0) (n:=2) rfl,⟨none,0,0⟩,[],rfl,hs.ext,CtI.nil,rfl⟩
theorem make12 (L:List MR) (s:Sl) (k lim:Int) (h:Heap) (hS:SyI h s L) :
  Fn Pz 12 #[.slice s.a s.n s.c,.int .i64 k,.int .i64 lim] h (MkR (mkO (expV (L.map MR.m) k lim) k) h):=by
 apply vc12 s k lim;unfold W12;refine (St.refl h).newb fun h1 hs=>?_;have e1:=explore14 L s k lim h1 (hS.ext hs.ext);generalize expV (L.map MR.m) k lim=o at e1 ⊢;refine e1.mono ?_;rintro _ h9 ⟨cf,mo,tr,A,rfl,hs1,hR⟩;have hs:=hs.join hs1;refine⟨_,cf,mo,_,tr,_,rfl,?_⟩;refine hs.newput (vs:=resA o.1.v cf mo o.1.k tr) rfl rfl fun h11 hs=>?_;refine sBn (fun c=>?_) (fun c=>?_);have e:mkO o k=((0,[]),o.2):=if_pos c;rw[e];refine hs.put 1 rfl (o:=0) (vs:=[.int .i64 0,.slice none 0 0]) rfl (show 2<=2 by decide) fun h12 hs=>?_;rotate_left;refine⟨o.1.v,hs.rd 0 rfl (i:=0) rfl,sBe (fun c2=>?_) (fun c2=>?_)⟩;have e:mkO o k=((0,[]),23):=by unfold mkO;rw[if_neg (fun h=>h c),if_pos c2]
 rw[e];refine hs.put 1 rfl (o:=0) (vs:=[.int .i64 0,.slice none 0 0]) rfl (show 2<=2 by decide) fun h12 hs=>?_;rotate_left;refine sBe (fun c3=>?_) (fun c3=>?_);have e:mkO o k=((0,[]),6):=by unfold mkO;rw[if_neg (fun h=>h c),if_neg c2,if_pos c3]
 rw[e];refine hs.put 1 rfl (o:=0) (vs:=[.int .i64 0,.slice none 0 0]) rfl (show 2<=2 by decide) fun h12 hs=>?_;rotate_left;have e:mkO o k=((k,o.1.Q),0):=by unfold mkO;rw[if_neg (fun h=>h c),if_neg c2,if_neg c3]
 rw[e];refine⟨cf,hs.rd 0 rfl (i:=1) rfl,?_⟩;refine hs.put 1 rfl (o:=0) (vs:=[.int .i64 k,.slice cf.a cf.n cf.c]) rfl (show 2<=2 by decide) fun h24 hs=>?_;have hRI:=hR.at hs (memP (P:=[_,_]));obtain⟨C,q1,q2,q3⟩:=hRI.c;exact⟨k,cf,hs.at 1 rfl (o:=0) (n:=2) rfl,cf,C,rfl,hs.ext,⟨q1,q2⟩,q3⟩;all_goals first | exact⟨0,⟨none,0,0⟩,hs.at 1 rfl (o:=0) (n:=2) rfl,⟨none,0,0⟩,[],rfl,hs.ext,CtI.nil,rfl⟩
theorem mk_safe {n:Nat} {Q:List Cf} {k:Int}:mkO ((Res.safe Q).rv n,0) k=((k,Q),0):=by
 rfl
theorem mk_chk {L:List Mch} {k lim:Int} (h:(mkO (expV L k lim) k).2=0):chkV L (mkO (expV L k lim) k).1.1 (mkO (expV L k lim) k).1.2=(flt0,0):=by
 by_cases h1:¬SysV L\/k<1\/4<k
 .have e:expV L k lim=(rv0,1):=if_pos h1;have e2:mkO (rv0,1) k=((0,[]),1):=if_pos (by decide);rw[e,e2] at h;exact absurd h (show ¬((1:Int)=0) by decide)
 by_cases h2:lim<1\/20000<lim
 .have e:expV L k lim=(rv0,2):=by unfold expV;rw[if_neg h1,if_pos h2]
  have e2:mkO (rv0,2) k=((0,[]),2):=if_pos (by decide);rw[e,e2] at h;exact absurd h (show ¬((2:Int)=0) by decide)
 have e:expV L k lim=((exS L k lim.toNat).rv L.length,0):=by unfold expV;rw[if_neg h1,if_neg h2]
 have hV:SysV L:=Classical.not_not.1 fun h=>h1 (.inl h);cases hx:exS L k lim.toNat with
 | bad b t=>
  have e2:mkO ((Res.bad b t).rv L.length,0) k=((0,[]),23):=rfl;rw[e,hx,e2] at h;exact absurd h (show ¬((23:Int)=0) by decide)
 | unk=>
  have e2:mkO ((Res.unk).rv L.length,0) k=((0,[]),6):=rfl;rw[e,hx,e2] at h;exact absurd h (show ¬((6:Int)=0) by decide)
 | safe Q=>
  rw[e,hx,mk_safe];show chkV L k Q=(flt0,0);exact safe_chk hV (by omega) (by omega) (by omega) hx
theorem awakeC9 (h:Heap) (hx:Gx h):Fn Pz 9 #[] h fun v h'=>v=.bool true/\Ext h h':=by
 apply vc9;unfold W9;refine (example34 true h).mono ?_;rintro _ h10 ⟨E10,hr,hd,he,rfl,hg⟩;refine⟨_,hr,hd,_,_,_,he,⟨none,0,0⟩,rfl,?_⟩;refine (all43 (exGl true hr hd he ⟨none,0,0⟩) h10 hg (hx.ext E10) (ex_valid _ _ _ _ _) xL (hg.r.ln.symm) (by decide) (fun i m hi=>?_)).mono ?_
 .match i,hi with
  | 0,hi=>cases hi;exact⟨xproj _ _ _ _ _ _ _ (by decide) (by decide) (xr0_raw _ _ _ _) xm0_min,by decide,by decide,by decide⟩
  | 1,hi=>cases hi;exact⟨xproj _ _ _ _ _ _ _ (by decide) (by decide) (xm1_raw _ _ _ _) xm1_min,by decide,by decide,by decide⟩
  | 2,hi=>cases hi;exact⟨xproj _ _ _ _ _ _ _ (by decide) (by decide) (xm2_raw _ _ _ _) xm2_min,by decide,by decide,by decide⟩
  | n+3,hi=>exact absurd hi (by simp[xL])
 rintro _ h14 ⟨s,L,rfl,E14,hL,hS⟩;have E0:=E10.trans E14;refine⟨s,0,rfl,?_⟩;have e1:=make11 L s 1 1000 h14 hS;have hv:expV (L.map MR.m) 1 1000=(⟨1,xRes,mostS 3 xRes,0,[]⟩,0):=by
  rw[hL];unfold expV;rw[if_neg (fun h=>by rcases h with h | h | h;exact h xsys;all_goals omega),if_neg (by omega)];show ((exS xL 1 1000).rv 3,(0:Int))=_;rw[xsearch];rfl
 have hm:mkO (expV (L.map MR.m) 1 1000) 1=((1,xRes),0):=by
  rw[hv];exact mk_safe (n:=3)
 rw[hm] at e1;refine e1.mono ?_;rintro _ h19 ⟨cs,C,rfl,E19,hC,hQ⟩;have hQ:C.map Cr.cf=xRes:=hQ;have hCl:C.length=12:=by have:=congrArg List.length hQ;rw[Yc] at this;rw[this];exact xres_len
 have hcn:=hC.r.ln;have hS:=hS.ext E19;have E0:=E0.trans E19;refine⟨1,cs,0,rfl,?_⟩;refine (St.refl h19).newput (vs:=[.int .i64 1,.slice cs.a cs.n cs.c]) rfl rfl fun h21 hs=>?_;refine⟨1,cs,hs.at 0 rfl (o:=0) (n:=2) rfl,?_⟩;have e2:=check15 L C s cs 1 h21 (hS.ext hs.ext) (hC.ext hs.ext);rw[hQ,hL,safe_chk xsys (by decide) (by decide) (by decide) xsearch] at e2;refine e2.mono ?_;rintro _ h30 ⟨rfl,E30⟩;have hs:=hs.step E30;refine⟨0,0,0,0,0,rfl,?_⟩;refine hs.newput (vs:=fltC flt0) rfl rfl fun h32 hs=>?_;refine sB_f rfl (sB_f rfl (sB_f rfl ⟨0,hs.rd 0 rfl (i:=0) rfl,sB_f rfl ⟨cs,hs.rd 1 rfl (i:=1) rfl,sB_f (decide_eq_false (by omega)) ?_⟩⟩));refine⟨cs,hs.rd 1 rfl (i:=1) rfl,cs,hs.rd 1 rfl (i:=1) rfl,?_⟩;have hw:IntKind.wrap .i64 ((cs.n:Int)-1)=((11:Nat):Int):=by rw[w64 (by omega) (by omega)];omega
 have hcc:=hC.r.cap;rw[hw];refine⟨⟨by omega,by omega,by omega⟩,?_⟩;obtain⟨t,ht⟩:∃t:Sl,t=⟨subA cs.a (Int.toNat 0) cs.c 2,Int.toNat ((11:Nat):Int)-Int.toNat 0,cs.c-Int.toNat 0⟩:=⟨_,rfl⟩;have hT:∀ {h':Heap},Ext h19 h'->CtI h' t (C.take 11):=fun {h'} E=>⟨by rw[ht];exact (hC.ext E).r.cut0 11 (by omega),fun c hc=>(hC.ext E).i c (List.mem_of_mem_take hc)⟩;rw[show subA cs.a (Int.toNat 0) cs.c 2=t.a by rw[ht],show Int.toNat ((11:Nat):Int)-Int.toNat 0=t.n by rw[ht],show cs.c-Int.toNat 0=t.c by rw[ht]];refine hs.put 1 rfl (o:=1) (vs:=[.slice t.a t.n t.c]) rfl (show 1+1<=2 by decide) fun h37 hs=>?_;refine⟨1,t,hs.at 1 rfl (o:=0) (n:=2) rfl,?_⟩;have e3:=check15 L (C.take 11) s t 1 h37 (hS.ext hs.ext) (hT hs.ext);have hQ2:(C.take 11).map Cr.cf=xRes.take 11:=by rw[List.map_take,hQ]
 have hcut:=cut_chk xsys (by decide) (by decide) (by decide) xsearch (n:=11) (by decide) (by rw[xres_len];decide);rw[hQ2,hL] at e3;refine e3.mono ?_;rintro _ h46 ⟨rfl,E46⟩;have hs:=hs.step E46;generalize chkV xL 1 (xRes.take 11)=o at hcut ⊢;refine⟨_,_,_,_,_,rfl,?_⟩;refine hs.put 0 rfl (o:=0) (vs:=fltC o.1) rfl (show 4<=4 by decide) fun h47 hs=>?_;refine sBe (fun _=>⟨o.1.1,hs.rd 0 rfl (i:=0) rfl,by rw[hcut.2];rfl,E0.trans hs.ext⟩) (fun c=>absurd hcut.1 c)
theorem certifyMakes3 (L:List MR) (s:Sl) (k lim:Int) (h:Heap) (hx:Gx h) (hS:SyI h s L) :
  Fn Pz 3 #[.slice s.a s.n s.c,.int .i64 k,.int .i64 lim] h fun v h'=>v=.bool true/\Ext h h':=by
 apply vc3 s k lim;unfold W3;refine (awakeC9 h hx).mono ?_;rintro _ h3 ⟨rfl,E3⟩;have hs:=(St.refl h).step E3;refine⟨true,rfl,sB_f rfl ?_⟩;refine (fewC13 L s ⟨none,0,0⟩ ⟨none,0,0⟩ [] [] h3 (hS.ext hs.ext) CfI.none_).mono ?_;rintro _ h6 ⟨⟨b,rfl,-⟩,E⟩;have hs:=hs.step E;refine⟨b,rfl,sB_intro (fun c=>⟨rfl,hs.ext⟩) (fun c=>sB_intro (fun c=>⟨rfl,hs.ext⟩) (fun c=>?_))⟩;have e1:=make11 L s k lim h6 (hS.ext hs.ext);have e2:=fun h hS=>make12 L s k lim h hS;have hch:=mk_chk (L:=L.map MR.m) (k:=k) (lim:=lim);generalize mkO (expV (L.map MR.m) k lim) k=o at e1 e2 hch;refine e1.mono ?_;rintro _ h11 ⟨cs,C,rfl,E11,hC,hQ⟩;have hs:=hs.step E11;refine⟨_,cs,_,rfl,?_⟩;refine (St.refl h11).newput (vs:=[.int .i64 o.1.1,.slice cs.a cs.n cs.c]) rfl rfl fun h13 hl=>?_;have hC:=hC.ext hl.ext;have hs:=hs.join hl;refine (e2 h13 (hS.ext hs.ext)).mono ?_;rintro _ h18 ⟨cs2,D,rfl,E18,hD,hQ2⟩;have hC:=hC.ext E18;have hs:=hs.step E18;refine⟨_,cs2,_,rfl,?_⟩;refine (St.refl h18).newput (vs:=[.int .i64 o.1.1,.slice cs2.a cs2.n cs2.c]) rfl rfl fun h20 hl=>?_;have hC:=hC.ext hl.ext;have hD:=hD.ext hl.ext;have hs:=hs.join hl;refine sBn (fun c=>absurd rfl c) (fun _=>?_);refine⟨_,cs,hs.at 0 rfl (o:=0) (n:=2) rfl,_,cs2,hs.at 1 rfl (o:=0) (n:=2) rfl,?_⟩;refine (theirs14 C cs o.1.1 h20 hC).mono ?_;rintro _ h28 ⟨t,rfl,E28,hT⟩;have hC:=hC.ext E28;have hD:=hD.ext E28;have hs:=hs.step E28;refine⟨_,t,rfl,E28.sm,?_⟩;refine (same13 C D o.1.1 o.1.1 t cs2 h28 hT hD).mono ?_;rintro _ h31 ⟨⟨b2,rfl,hb2⟩,E31⟩;have hC:=hC.ext E31;have hs:=hs.step E31;have hb:=hb2.2 ⟨rfl,hQ.trans hQ2.symm⟩;subst hb;refine⟨true,rfl,sB_f rfl (sBn (fun _=>⟨rfl,hs.ext⟩) (fun c0=>?_))⟩;refine⟨_,cs,hs.at 0 rfl (o:=0) (n:=2) rfl,?_⟩;have e3:=check15 L C s cs o.1.1 h31 (hS.ext hs.ext) hC;rw[hQ,hch c0] at e3;refine e3.mono ?_;rintro _ h40 ⟨rfl,E40⟩;have hs:=hs.step E40;refine⟨0,0,0,0,0,rfl,?_⟩;refine hs.newput (vs:=fltC flt0) rfl rfl fun h42 hs=>?_;exact sB_t rfl ⟨0,hs.rd 0 rfl (i:=0) rfl,rfl,hs.ext⟩
end Go.VC
end

section
namespace Go.VC
open Go.Proofs Go.LexS Go.RowKit Go.ChangeShapes Go.WideShapes Go.Proofs.YtibmnldhlgcnjaaGreatDoor
theorem bulk_pos {H:Type} (d:DataW H):1<=Rows.uptoBulk d:=by
 cases d with
 | lit l=>cases l<;>simp[Rows.uptoBulk]
 | _=>simp[Rows.uptoBulk]
theorem bulk_part {H:Type}:∀ {l:List (DataW H)} {d:DataW H},d∈l->Rows.uptoBulk d<=Rows.uptoBulkAll l
 | [],_,h=>by cases h
 | x::r,d,h=>by
  rw[Rows.uptoBulkAll];rcases Yr.1 h with rfl | h
  .omega
  .have:=bulk_part h;omega
theorem bulk_len {H:Type}:∀l:List (DataW H),l.length<=Rows.uptoBulkAll l
 | []=>by simp
 | x::r=>by
  have h1:=bulk_pos x;have h2:=bulk_len r;rw[Rows.uptoBulkAll,Yyj];omega
def Rdb (P:Program) (W:World) (t:TypeId) (cs:List Value):Prop:=
 ∃(H:Type) (enc:TypeId × Value->H) (n:Nat) (x:DataW H × List MemPlace),DataW.trod enc P W 0 (fun _=>true) true n t cs=some x/\Rows.uptoBulk x.1<=1048576
theorem Rdb.rdt {P:Program} {W:World} {t:TypeId} {cs:List Value} (h:Rdb P W t cs):Rdt P W t cs:=by
 obtain⟨H,enc,n,x,h1,_⟩:=h;exact⟨H,enc,n,x,h1⟩
theorem rdb_of_trod {H:Type} {enc:TypeId × Value->H} {P:Program} {W:World} {t:TypeId} {v:Value} {d:DataW H} {p:List MemPlace} (h:DataW.Trod enc P W 0 (fun _=>true) true t v d p) (hw:Rows.uptoBulk d<=1048576):Rdb P W t v.cells.toList:=by
 obtain⟨n,h⟩:=h;exact⟨H,enc,n,_,h,hw⟩
theorem Rdb.field {P:Program} {W:World} {t ft:TypeId} {cs:List Value} {i off:Nat} (h:Rdb P W t cs) (hf:fieldAt P t i=some (ft,off)):Rdb P W ft ((cs.drop off).take (P.cellsOf ft)):=by
 unfold fieldAt at hf;split at hf
 .rename_i fs hu;obtain⟨f,h1,h2⟩:=Yya.1 hf;cases h2;obtain⟨H,enc,n,x,h,hw⟩:=h;obtain⟨xs,m,_,hx,hl,hxl,hfi⟩:=DataW.trod_struct hu h;have hlt:i<xs.length:=by rw[hxl];exact (Yyg.1 h1).1
  refine⟨H,enc,m,xs[i],by rw[hfi i f h1,Yi hlt],?_⟩;rw[hx,Rows.uptoBulk] at hw;have:=bulk_part (l:=xs.map (·.1)) (d:=xs[i].1) (Yp.2 ⟨xs[i],List.getElem_mem hlt,rfl⟩);omega
 .cases hf
theorem Rdb.rows {P:Program} {W:World} {t e:TypeId} {cs:List Value} (ht:P.underlying t=some (.slice e)) (h:Rdb P W t cs) (hpos:0<P.cellsOf e) :
  ∃(s:Sl) (rows:List (List Value)),cs=[.slice s.a s.n s.c]/\s.n<=s.c/\s.n<=1048576/\(s.a=none->s.n=0/\s.c=0)/\Rw W.heap (P.cellsOf e) s rows/\∀r∈rows,r.length=P.cellsOf e/\Rdb P W e r:=by
 obtain⟨H,enc,n,x,h,hw⟩:=h;rcases DataW.trod_slice ht h with ⟨rfl,_⟩ | ⟨a,len,cap,elems,rest,m,_,rfl,hx,_,hlc,hcm,hel,helem,_,_⟩
 .exact⟨⟨none,0,0⟩,[],rfl,Yyt _,Nat.zero_le _,fun _=>⟨rfl,rfl⟩,Rw.nil,fun r hr=>by cases hr⟩
 .rw[hx,Rows.uptoBulk] at hw;have hle:len<=1048576:=by
   have:=bulk_len (elems.map (·.1));rw[Yc] at this;omega
  have hwe:∀(i:Nat) (hi:i<elems.length),Rows.uptoBulk elems[i].1<=1048576:=fun i hi=>by
   have:=bulk_part (l:=elems.map (·.1)) (d:=elems[i].1) (Yp.2 ⟨elems[i],List.getElem_mem hi,rfl⟩);omega
  by_cases h0:len=0
  .subst h0;exact⟨⟨some a,0,cap⟩,[],rfl,hlc,hle,fun e=>(by cases e),Rw.empty rfl,fun r hr=>by cases hr⟩
  .have hrow:∀i,i<len->∃r,W.cells? 0 (a.add (i*P.cellsOf e)) (P.cellsOf e)=some r/\Rdb P W e r:=by
    intro i hi;have h1:=helem i hi;rw[Yi (by omega)] at h1;obtain⟨r,hr,hx2⟩:=Option.bind_eq_some_iff.1 h1;exact⟨r,hr,H,enc,m,_,hx2,hwe i (by omega)⟩
   let row:Nat->List Value:=fun i=>(W.cells? 0 (a.add (i*P.cellsOf e)) (P.cellsOf e)).getD []
   have hrow':∀i,i<len->W.cells? 0 (a.add (i*P.cellsOf e)) (P.cellsOf e)=some (row i)/\Rdb P W e (row i):=fun i hi=>by
    obtain⟨r,hr,hx⟩:=hrow i hi;have:row i=r:=by show (W.cells? 0 _ _).getD []=r;rw[hr];rfl
    rw[this];exact⟨hr,hx⟩
   have hget:∀i,i<len->((List.range len).map row)[i]?=some (row i):=fun i hi=>by
    rw[Yd,Yyb hi];rfl
   have hspot:a=⟨a.block,a.off,none⟩:=by
    have hc:=(cells_at (hrow' 0 (by omega)).1);have hl0:0<(row 0).length:=by rw[hc.1];exact hpos
    have:=hc.2 0 _ (Yi hl0);rw[Nat.zero_mul,show (a.add 0).add 0=a from rfl] at this;unfold World.cell? at this;split at this
    .split at this
     .cases this
     .rename_i hs;cases a with
      | mk b o s=>
       cases s with
       | none=>rfl
       | some s=>exact absurd rfl hs
    .cases this
   refine⟨⟨some a,len,cap⟩,(List.range len).map row,rfl,hlc,hle,fun e=>(by cases e),⟨by simp,fun _=>⟨a.block,a.off,by rw[<-hspot],fun i r hi j v hj=>?_⟩⟩,fun r hr=>?_⟩
   .have hil:i<len:=by have:=(Ya.1 hi).1;simpa using this
    rw[hget i hil] at hi;cases hi;have h4:=(cells_at (hrow' i hil).1).2 _ _ hj;rw[hspot] at h4;have e:((⟨a.block,a.off,none⟩:Addr).add (i*P.cellsOf e)).add j=addk ⟨a.block,a.off+i*P.cellsOf e,none⟩ j:=by
     rw[addk_at,add_n,add_n]
    rw[e] at h4;exact h4
   .obtain⟨i,hi,rfl⟩:=Yp.1 hr;have:=hrow' i (List.mem_range.1 hi);exact⟨(cells_at this.1).1,this.2⟩
theorem Rdb.list {α:Type} {P:Program} {W:World} {t e:TypeId} {k:Nat} {v:Value} {cs:α->List Value} {Q:α->Prop} (ht:P.underlying t=some (.slice e)) (hk:P.cellsOf e=k) (hpos:0<k)
  (ho:∀r,Rdb P W e r->∃x,r=cs x/\Q x) (h:Rdb P W t [v]):∃(s:Sl) (L:List α),v=.slice s.a s.n s.c/\RL W.heap k s cs L/\∀x∈L,Q x:=by
 subst hk;obtain⟨s,rows,e1,hc,hm,hna,hrw,hr⟩:=h.rows ht hpos;have key:∀rows:List (List Value),(∀r∈rows,r.length=P.cellsOf e/\Rdb P W e r)->∃L:List α,rows=L.map cs/\∀x∈L,Q x:=by
  intro rows
  induction rows with
  | nil=>intro _;exact⟨[],rfl,fun x hx=>by cases hx⟩
  | cons r rows ih=>
   intro h;obtain⟨x,hx,hq⟩:=ho r (h r (by simp)).2;obtain⟨L,hL,hQ⟩:=ih fun y hy=>h y (Yn _ hy);exact⟨x::L,by rw[hx,hL];rfl,fun y hy=>by rcases Yr.1 hy with rfl | hy;exact hq;exact hQ y hy⟩
 obtain⟨L,rfl,hQ⟩:=key rows hr;have hn:=hrw.ln;exact⟨s,L,by simpa using e1,⟨hrw,hc,hna,by omega⟩,hQ⟩
theorem v3:Pz.underlying 3=some (.int .i64):=by kernel_rfl
theorem v4b:Pz.underlying 4=some .bool:=by kernel_rfl
theorem cz3:Pz.cellsOf 3=1:=by kernel_rfl
theorem cz4:Pz.cellsOf 4=1:=by kernel_rfl
theorem cz95:Pz.cellsOf 95=1:=by kernel_rfl
theorem cz96:Pz.cellsOf 96=1:=by kernel_rfl
theorem cz90:Pz.cellsOf 90=1:=by kernel_rfl
theorem cz98:Pz.cellsOf 98=6:=by kernel_rfl
theorem cz230:Pz.cellsOf 230=3:=by kernel_rfl
theorem cz110:Pz.cellsOf 110=6:=by kernel_rfl
theorem vs95:Pz.underlying 95=some (.slice 4):=by kernel_rfl
theorem vs96:Pz.underlying 96=some (.slice 110):=by kernel_rfl
theorem vs90:Pz.underlying 90=some (.slice 230):=by kernel_rfl
theorem open_three {W:World} {t:TypeId} {r:List Value} (hc:Pz.cellsOf t=3) (h0:fieldAt Pz t 0=some (3,0)) (h1:fieldAt Pz t 1=some (3,1)) (h2:fieldAt Pz t 2=some (3,2)) (h:Rdt Pz W t r) :
  ∃a b c:Int,r=[.int .i64 a,.int .i64 b,.int .i64 c]:=by
 have hl:=h.flen h0;rw[hc] at hl
 match r,hl with
 | [x0,x1,x2],_=>
  have f0:=h.field h0;have f1:=h.field h1;have f2:=h.field h2;rw[cz3] at f0 f1 f2;obtain⟨k0,e0,_⟩:=f0.int v3;obtain⟨k1,e1,_⟩:=f1.int v3;obtain⟨k2,e2,_⟩:=f2.int v3;simp only[List.drop_zero,List.take_succ_cons,Yyk,List.drop_succ_cons,List.cons.injEq,and_true] at e0 e1 e2;subst e0 e1 e2;exact⟨k0,k1,k2,rfl⟩
theorem open_boolv {W:World} {r:List Value} (h:Rdb Pz W 4 r):∃x:Bool,r=bC x/\True:=by
 obtain⟨k,e⟩:=h.rdt.bool v4b;exact⟨k,e,trivial⟩
theorem open_limit {W:World} {r:List Value} (h:Rdb Pz W 230 r):∃x:To,r=x.cs/\True:=by
 obtain⟨a,b,c,e⟩:=open_three cz230 (by kernel_rfl) (by kernel_rfl) (by kernel_rfl) h.rdt;exact⟨⟨a,b,c⟩,e,trivial⟩
theorem open_move {W:World} {r:List Value} (h:Rdb Pz W 110 r):∃x:Mv,r=x.cs/\True:=by
 have hl:=h.rdt.flen (i:=0) (ft:=3) (off:=0) (by kernel_rfl);rw[cz110] at hl
 match r,hl with
 | [x0,x1,x2,x3,x4,x5],_=>
  have f0:=h.rdt.field (i:=0) (ft:=3) (off:=0) (by kernel_rfl);have f1:=h.rdt.field (i:=1) (ft:=4) (off:=1) (by kernel_rfl);have f2:=h.rdt.field (i:=2) (ft:=3) (off:=2) (by kernel_rfl);have f3:=h.rdt.field (i:=3) (ft:=3) (off:=3) (by kernel_rfl);have f4:=h.rdt.field (i:=4) (ft:=3) (off:=4) (by kernel_rfl);have f5:=h.rdt.field (i:=5) (ft:=4) (off:=5) (by kernel_rfl);rw[cz3] at f0 f2 f3 f4;rw[cz4] at f1 f5;obtain⟨k0,e0,_⟩:=f0.int v3;obtain⟨k1,e1⟩:=f1.bool v4b;obtain⟨k2,e2,_⟩:=f2.int v3;obtain⟨k3,e3,_⟩:=f3.int v3;obtain⟨k4,e4,_⟩:=f4.int v3;obtain⟨k5,e5⟩:=f5.bool v4b;simp only[List.drop_zero,List.take_succ_cons,Yyk,List.drop_succ_cons,List.cons.injEq,and_true] at e0 e1 e2 e3 e4 e5;subst e0 e1 e2 e3 e4 e5;exact⟨⟨k0,k1,k2,k3,k4,k5⟩,rfl,trivial⟩
theorem open_machine {W:World} {r:List Value} (h:Rdb Pz W 98 r):∃(m:Mch) (sf sm sl:Sl),r=mC m sf sm sl/\MI W.heap m sf sm sl:=by
 have hl:=h.rdt.flen (i:=0) (ft:=3) (off:=0) (by kernel_rfl);rw[cz98] at hl
 match r,hl with
 | [x0,x1,x2,x3,x4,x5],_=>
  have f0:=h.rdt.field (i:=0) (ft:=3) (off:=0) (by kernel_rfl);have f1:=h.rdt.field (i:=1) (ft:=3) (off:=1) (by kernel_rfl);have f2:=h.rdt.field (i:=2) (ft:=3) (off:=2) (by kernel_rfl);have f3:=h.field (i:=3) (ft:=95) (off:=3) (by kernel_rfl);have f4:=h.field (i:=4) (ft:=96) (off:=4) (by kernel_rfl);have f5:=h.field (i:=5) (ft:=90) (off:=5) (by kernel_rfl);rw[cz3] at f0 f1 f2;rw[cz95] at f3;rw[cz96] at f4;rw[cz90] at f5;obtain⟨k0,e0,_⟩:=f0.int v3;obtain⟨k1,e1,_⟩:=f1.int v3;obtain⟨k2,e2,_⟩:=f2.int v3;obtain⟨sf,lf,e3,hf,_⟩:=Rdb.list vs95 cz4 (by omega) (fun r hr=>open_boolv hr) (show Rdb Pz W 95 [x3] from f3);obtain⟨sm,lm,e4,hm,_⟩:=Rdb.list vs96 cz110 (by omega) (fun r hr=>open_move hr) (show Rdb Pz W 96 [x4] from f4);obtain⟨sl,ll,e5,hl,_⟩:=Rdb.list vs90 cz230 (by omega) (fun r hr=>open_limit hr) (show Rdb Pz W 90 [x5] from f5);simp only[List.drop_zero,List.take_succ_cons,Yyk,List.drop_succ_cons,List.cons.injEq,and_true] at e0 e1 e2;subst e0 e1 e2 e3 e4 e5;exact⟨⟨k0,k1,k2,lf,lm,ll⟩,sf,sm,sl,rfl,⟨hf,hm,hl⟩⟩
theorem vsS22:Pz.underlying 22=some (.slice 98):=by kernel_rfl
theorem v49:Pz.underlying 49=some (.array 2 5):=by kernel_rfl
theorem open_mr {W:World} {r:List Value} (h:Rdb Pz W 98 r):∃x:MR,r=x.cs/\MI W.heap x.m x.f x.g x.l:=by
 obtain⟨m,f,g,l,e,hm⟩:=open_machine h;exact⟨⟨m,f,g,l⟩,e,hm⟩
theorem open_sys {W:World} {v:Value} (h:Rdb Pz W 22 [v]):∃(s:Sl) (L:List MR),v=.slice s.a s.n s.c/\SyI W.heap s L:=by
 obtain⟨s,L,e,hr,hq⟩:=Rdb.list vsS22 cz98 (by omega) (fun r hr=>open_mr hr) h;exact⟨s,L,e,hr,hq⟩
/-! ### with their ranges -/
end Go.VC
end
