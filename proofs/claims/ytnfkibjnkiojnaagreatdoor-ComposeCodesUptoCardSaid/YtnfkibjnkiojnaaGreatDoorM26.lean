/- WkAg WkVcQ WkAh WkVcT WkAi WkVcV WkAj WkArgs. -/
import Derived.Test.YtnfkibjnkiojnaaGreatDoorM25
import Derived.Test.YtnfkibjnkiojnaaGreatDoorM01
import Derived.Test.YtnfkibjnkiojnaaGreatDoorM02
import Derived.Test.YtnfkibjnkiojnaaGreatDoorProg
import Derived.KernelRfl
import Derived.Test.YtnfkibjnkiojnaaGreatDoorM22
import Derived.Test.YtnfkibjnkiojnaaGreatDoorM19
import Derived.Test.YtnfkibjnkiojnaaGreatDoorRows
set_option linter.unusedVariables false
set_option linter.unusedSimpArgs false
set_option maxRecDepth 100000

section
/- Contracts: the encodings, on both sides. (Numbers of layer 27's development dump.) -/
namespace Go.VC
open Go.Proofs Go.LexS
theorem app48:appB Pz 48 5 1 1=true:=by kernel_rfl
set_option maxHeartbeats 800000 in
theorem int65 (b:Sl) (xs:List Int) (n:Int) (h0 h:Heap) (L:List It) (hs:St h0 h (.sl b 5 1 (xs.map u8C)::L)) (hn:I64 n) (hl:xs.length<=100000000) :
  Fn Pz 65 #[.slice b.a b.n b.c,.int .i64 n] h fun v h'=>∃ b':Sl,v=.slice b'.a b'.n b'.c/\St h0 h' (.sl b' 5 1 ((xs++encI n).map u8C)::L):=by
 apply vc65 b n; unfold W65
 rw [zig_bits hn]
 refine ⟨by decide,by decide,?_⟩
 have hz:=zig_lt hn.1 hn.2
 refine ⟨fun b u h' μ=>∃ (v:Nat) (pre:List Int),u=(v:Int)/\μ=v/\v<18446744073709551616/\pre++venc v=encI n/\St h0 h' (.sl b 5 1 ((xs++pre).map u8C)::L),⟨_,zigN n,[],rfl,rfl,hz,rfl,by rw [Yw]; exact hs⟩,?_⟩
 clear hs
 rintro - b2 _ h6 μ ⟨v,pre,rfl,hμ,hv,he,hs⟩
 have hlen:=(hs.rows 0 (s:=b2) (cs:=u8C) rfl (by omega)).ln
 have hpl:pre.length<=10:=by
  have h1:=congrArg List.length he
  rw [Yh] at h1
  have h2:=encI_len hn
  omega
 rw [Yh] at hlen
 refine sBi (fun c=>?_) (fun c=>?_)
 ·
  have hv1:¬ v<128:=by omega
  rw [venc_ge hv1] at he
  rw [or_bits]
  refine hs.app 0 (s:=b2) (rows:=(xs++pre).map u8C) rfl app48 (m:=1) [[.int .u8 ((v % 128+128:Nat):Int)]] rfl rfl (by simp) rfl (by omega) (by simp only [maxLen]; omega) fun s8 h9 ns hs=>?_
  refine ⟨by decide,v / 128,by omega,v / 128,pre++[((v % 128+128:Nat):Int)],shr7,rfl,by omega,by rw [Yz]; exact he,?_⟩
  rw [<- Yz,Ym]; exact hs
 ·
  have hv1:v<128:=by omega
  rw [venc_lt hv1] at he
  rw [wu8 (n:=(v:Int)) (by omega) (by omega)]
  refine hs.app 0 (s:=b2) (rows:=(xs++pre).map u8C) rfl app48 (m:=1) [[.int .u8 (v:Int)]] rfl rfl (by simp) rfl (by omega) (by simp only [maxLen]; omega) fun s12 h13 ns hs=>?_
  refine ⟨s12,rfl,?_⟩
  rw [<- he,<- Yz,Ym]; exact hs
set_option maxHeartbeats 800000 in
theorem ints66 (b:Sl) (xs X:List Int) (p1:Sl) (h0 h:Heap) (L:List It) (hs:St h0 h (.sl b 5 1 (xs.map u8C)::L)) (hX:RL h0 1 p1 inC X) (hI:∀ x ∈ X,I64 x) (hl:xs.length<=50000000) (hXl:X.length<=1000000) :
  Fn Pz 66 #[.slice b.a b.n b.c,.slice p1.a p1.n p1.c] h fun v h'=>∃ b':Sl,v=.slice b'.a b'.n b'.c/\St h0 h' (.sl b' 5 1 ((xs++encL X).map u8C)::L):=by
 apply vc66 b p1; unfold W66
 have hn:=hX.ln
 have hI0:I64 (p1.n:Int):=⟨by omega,by omega⟩
 refine (int65 b xs (p1.n:Int) h0 h L hs hI0 (by omega)).mono ?_
 rintro _ h3 ⟨b1,rfl,hs⟩
 refine ⟨b1,rfl,?_⟩
 refine ⟨fun b x h' μ=>∃ i:Nat,x=(i:Int)/\μ=X.length - i/\i<=X.length/\St h0 h' (.sl b 5 1 ((xs++encI (p1.n:Int)++(X.take i).flatMap encI).map u8C)::L),⟨_,0,rfl,rfl,Nat.zero_le _,by rw [Yyk,List.flatMap_nil,Yw]; exact hs⟩,?_⟩
 clear hs
 rintro - b2 _ h9 μ ⟨i,rfl,rfl,hi,hs⟩
 refine sBi (fun c=>?_) (fun c=>?_)
 ·
  refine (hX.rw.ext hs.ext).nbI (by omega) (by omega) fun b10 o11 x gx t=>?_
  replace gx:X[i]?=some x:=gx
  refine ⟨x,t.hd,?_⟩
  have hfl:=flat_len (f:=encI) (c:=10) (X.take i) fun a ha=>encI_len (hI a (List.mem_of_mem_take ha))
  have h1:=encI_len hI0
  have h2:(X.take i).length<=1000000:=by rw [Yu]; omega
  refine (int65 b2 _ x h0 h9 L hs (hI x (Yb gx)) (by rw [Yh,Yh]; omega)).mono ?_
  rintro _ h15 ⟨b3,rfl,hs⟩
  refine ⟨b3,rfl,_,(show X.length - (i+1)<X.length - i by omega),i+1,by rw [w64 (by omega) (by omega)]; omega,rfl,by omega,?_⟩
  rw [take_snoc gx,List.flatMap_append,List.flatMap_cons,List.flatMap_nil,Yw,<- Yz]
  exact hs
 ·
  have hie:i=X.length:=by omega
  subst hie
  rw [Yye] at hs
  refine ⟨b2,rfl,?_⟩
  unfold encL
  rw [<- hn,<- Yz]; exact hs
structure EncOk (S:List Int) (BL:List (List Int)):Prop where
 s:∀ x ∈ S,I64 x
 b:∀ q ∈ BL,q.length<=1000/\∀ x ∈ q,I64 x
 n:S.length<=1000/\BL.length<=1000
theorem EncOk.fl {S:List Int} {BL:List (List Int)} (h:EncOk S BL) (i:Nat):((BL.take i).flatMap encL).length<=10010000:=by
 have h1:=flat_len (f:=encL) (c:=10010) (BL.take i) fun q hq=>by
  obtain ⟨h2,h3⟩:=h.b q (List.mem_of_mem_take hq)
  have:=encL_len h3 (by omega)
  omega
 have h2:(BL.take i).length<=1000:=by rw [Yu]; have:=h.n.2; omega
 omega
set_option maxHeartbeats 800000 in
theorem encode35 (ss sb:Sl) (S:List Int) (B:List Bx) (h:Heap) (hC:CfI h ss sb S B) (hE:EncOk S (B.map Bx.l)) :
  Fn Pz 35 #[.agg ⟨[.slice ss.a ss.n ss.c,.slice sb.a sb.n sb.c]⟩] h fun v h'=>∃ b:Sl,v=.slice b.a b.n b.c/\St h h' [.sl b 5 1 ((encC S (B.map Bx.l)).map u8C)]:=by
 apply vc35 ss sb; unfold W35
 have hbn:=hC.b.ln
 have hbm:(B.map Bx.l).length=B.length:=Yc _
 obtain ⟨hE1,hE2⟩:=hE.n
 rw [hbm] at hE2
 have hI0:I64 (sb.n:Int):=⟨by omega,by omega⟩
 refine (St.refl h).newb fun h3 hs=>?_
 refine ⟨ss,hs.rd 0 rfl rfl,sb,hs.rd 0 rfl (i:=1) rfl,?_⟩
 have hs3:=hs
 have hs:St h h3 (.sl ⟨none,0,0⟩ 5 1 (([]:List Int).map u8C)::_):=hs.nil_ 5 1
 refine (ints66 ⟨none,0,0⟩ [] S ss h h3 _ hs hC.s hE.s (by simp) (by omega)).mono ?_
 rintro _ h8 ⟨b1,rfl,hs⟩
 rw [List.nil_append] at hs
 have hel:=encL_len hE.s (by omega)
 have hi0:=encI_len hI0
 refine ⟨b1,rfl,hs3.smbO hs 0 1 1 rfl rfl,?_⟩
 refine (int65 b1 _ (sb.n:Int) h h8 _ hs hI0 (by omega)).mono ?_
 rintro _ h11 ⟨b2,rfl,hs⟩
 refine ⟨b2,rfl,sb,hs.rd 1 rfl (i:=1) rfl,?_⟩
 refine ⟨fun b x h' μ=>∃ i:Nat,x=(i:Int)/\μ=B.length - i/\i<=B.length/\St h h' [.sl b 5 1 ((encL S++encI (sb.n:Int)++((B.map Bx.l).take i).flatMap encL).map u8C),.blk h.size [.slice ss.a ss.n ss.c,.slice sb.a sb.n sb.c] 29],⟨_,0,rfl,rfl,Nat.zero_le _,by rw [Yyk,List.flatMap_nil,Yw]; exact hs⟩,?_⟩
 clear hs hs3
 rintro - b3 _ h18 μ ⟨i,rfl,rfl,hi,hs⟩
 refine sBi (fun c=>?_) (fun c=>?_)
 ·
  refine (hC.b.rw.ext hs.ext).nbI (by omega) (by omega) fun b19 o20 q gq t=>?_
  replace gq:B[i]?=some q:=gq
  have gq1:(B.map Bx.l)[i]?=some q.l:=by rw [Yd,gq]; rfl
  obtain ⟨hq1,hq2⟩:=hE.b q.l (Yb gq1)
  have hfl:=hE.fl i
  refine ⟨q.s,t.hd,?_⟩
  refine (ints66 b3 _ q.l q.s h h18 _ hs (hC.i q (Yb gq)) hq2 (by rw [Yh,Yh]; omega) (by omega)).mono ?_
  rintro _ h24 ⟨b4,rfl,hs⟩
  refine ⟨b4,rfl,_,(show B.length - (i+1)<B.length - i by omega),i+1,by rw [w64 (by omega) (by omega)]; omega,rfl,by omega,?_⟩
  rw [take_snoc gq1,List.flatMap_append,List.flatMap_cons,List.flatMap_nil,Yw,<- Yz]
  exact hs
 ·
  have hie:i=(B.map Bx.l).length:=by omega
  rw [hie,Yye] at hs
  refine ⟨b3,rfl,?_⟩
  unfold encC
  rw [hbm,<- hbn,<- Yz]
  exact hs.sub (.cons_cons _ (List.nil_sublist _))
end Go.VC
end

section
namespace Go.VC
open Go.Proofs

def W63 (p0 p1:Sl) (h:Heap) (R:Value->Heap->Prop):Prop:=
 (sB ((p0.n:Int) != (p1.n:Int))
 (R (.bool false) h)
 ((QI 0 h fun I1 x_4 h5 m3=>(
 (sB (decide (x_4<(p0.n:Int)))
 ((NB p0.a fun b6 o7=>(Ib x_4 p0.n /\
 (∃ x8,rI h5 ⟨b6,o7+Int.toNat x_4*1,none⟩ x8 /\
 (NB p1.a fun b9 o10=>(Ib x_4 p1.n /\
 (∃ x11,rI h5 ⟨b9,o10+Int.toNat x_4*1,none⟩ x11 /\
 (sB (x8 != x11)
 (R (.bool false) h5)
 ((∃ m12,m12<m3/\I1 (IntKind.wrap .i64 (x_4+1)) h5 m12))))))))))
 (R (.bool true) h5))))))
theorem vc63 (p0 p1:Sl) (h:Heap) (R:Value->Heap->Prop) (H:W63 p0 p1 h R):Fn Pz 63 #[vS p0,vS p1] h R:=fnI (A:=(.s .z (.s .z (.s (.s .z (.b (.l [(13,.one (.int .i64))] .z))) .z)))) (by kernel_rfl) H

def W64 (p0 p1:Sl) (p2:FuncId) (h:Heap) (R:Value->Heap->Prop):Prop:=
 (sB ((p0.n:Int) != (p1.n:Int))
 (R (.bool false) h)
 ((QI 0 h fun I1 x_4 h5 m3=>(
 (sB (decide (x_4<(p0.n:Int)))
 ((NB p0.a fun b6 o7=>(Ib x_4 p0.n /\
 (∃ x8,rS h5 ⟨b6,o7+Int.toNat x_4*1,none⟩ x8 /\
 (NB p1.a fun b9 o10=>(Ib x_4 p1.n /\
 (∃ x11,rS h5 ⟨b9,o10+Int.toNat x_4*1,none⟩ x11 /\
 (bif callable Pz p2 then Fn Pz p2 #[vS x8,vS x11] h5
 (fun v12 h14=>∃ x13,iB v12 x13 /\
 (sB (!x13)
 (R (.bool false) h14)
 ((∃ m15,m15<m3/\I1 (IntKind.wrap .i64 (x_4+1)) h14 m15)))) else ExtW Pz p2 #[vS x8,vS x11] h5
 (fun v12 h14=>∃ x13,iB v12 x13 /\
 (sB (!x13)
 (R (.bool false) h14)
 ((∃ m15,m15<m3/\I1 (IntKind.wrap .i64 (x_4+1)) h14 m15))))))))))))
 (R (.bool true) h5))))))
theorem vc64 (p0 p1:Sl) (p2:FuncId) (h:Heap) (R:Value->Heap->Prop) (H:W64 p0 p1 p2 h R):Fn Pz 64 #[vS p0,vS p1,.func (.func p2) #[] #[]] h R:=fnI (A:=(.s .z (.s .z (.s (.s .z (.b (.l [(17,.one (.int .i64))] .z))) .z)))) (by kernel_rfl) H

def W32 (p0_1 p0_2 p1_3 p1_4:Sl) (h:Heap) (R:Value->Heap->Prop):Prop:=
 (Wn h [vS p0_1,vS p0_2] 29 fun h5=>
 (Wn h5 [vS p1_3,vS p1_4] 29 fun h6=>
 (∃ x7,rS h6 (aS h 0) x7 /\
 (∃ x8,rS h6 (aS h5 0) x8 /\
 (Fn Pz 63 #[vS x7,vS x8] h6
 (fun v9 h11=>∃ x10,iB v9 x10 /\
 (sB x10
 ((∃ x12,rS h11 (aS h 1) x12 /\
 (∃ x13,rS h11 (aS h5 1) x13 /\
 (Fn Pz 64 #[vS x12,vS x13,.func (.func 63) #[] #[]] h11
 (fun v14 h16=>∃ x15,iB v14 x15 /\
 R (.bool x15) h16)))))
 (R (.bool false) h11))))))))
theorem vc32 (p0_1 p0_2 p1_3 p1_4:Sl) (h:Heap) (R:Value->Heap->Prop) (H:W32 p0_1 p0_2 p1_3 p1_4 h R):Fn Pz 32 #[.agg ⟨[vS p0_1,vS p0_2]⟩,.agg ⟨[vS p1_3,vS p1_4]⟩] h R:=fnI (A:=.z) (by kernel_rfl) H

end Go.VC
end

section
/- Contract: equality of configurations. (Numbers of layer 27's development dump.) -/
namespace Go.VC
open Go.Proofs Go.LexS
theorem equal63 (X Y:List Int) (a b:Sl) (h:Heap) (hX:RL h 1 a inC X) (hY:RL h 1 b inC Y):Fn Pz 63 #[.slice a.a a.n a.c,.slice b.a b.n b.c] h (RP (X=Y) h):=by
 apply vc63 a b; unfold W63
 have ha:=hX.ln
 have hb:=hY.ln
 have hsm:=hX.sm
 refine sBn (fun c=>RP.f (fun hG=>by rw [hG] at ha; omega) .rfl') (fun c1=>?_)
 refine up_loopS (n:=a.n) (St.refl h) (fun i=>∀ (j:Nat),j<i->X[j]?=Y[j]?) (fun j hj=>by omega) ?_
 rintro - i h5 hi ⟨hs,hq⟩
 refine sB_intro (fun c=>?_) (fun c=>?_)
 ·
  replace c:=lt_t c
  refine (hX.rw.ext hs.ext).nbI (by omega) (by omega) fun b1 o1 x gx t1=>?_
  replace gx:X[i]?=some x:=gx
  refine ⟨_,t1.hd,?_⟩
  refine (hY.rw.ext hs.ext).nbI (by omega) (by omega) fun b2 o2 y gy t2=>?_
  replace gy:Y[i]?=some y:=gy
  refine ⟨_,t2.hd,sBn (fun c2=>RP.f (fun hG=>by rw [hG,gy] at gx; cases gx; exact c2 rfl) hs.ext) (fun c2=>?_)⟩
  refine Up.next (by omega) (by omega) ⟨hs,fun j hj=>?_⟩
  by_cases e:j=i
  ·
   subst e; rw [gx,gy,c2]
  ·
   exact hq j (by omega)
 ·
  replace c:=lt_f c
  refine RP.t (Yyr fun j=>?_) hs.ext
  by_cases hj:j<X.length
  ·
   exact hq j (by omega)
  ·
   rw [Yl (by omega),Yl (by omega)]
theorem cal63:callable Pz 63=true:=by kernel_rfl
theorem equal64 (B1 B2:List Bx) (b1 b2:Sl) (h:Heap) (h1:RL h 1 b1 Bx.cs B1) (h2:RL h 1 b2 Bx.cs B2) (i1:∀ q ∈ B1,RL h 1 q.s inC q.l) (i2:∀ q ∈ B2,RL h 1 q.s inC q.l) :
  Fn Pz 64 #[.slice b1.a b1.n b1.c,.slice b2.a b2.n b2.c,.func (.func 63) #[] #[]] h (RP (B1.map Bx.l=B2.map Bx.l) h):=by
 apply vc64 b1 b2 63; unfold W64
 have n1:=h1.ln
 have n2:=h2.ln
 have m1:=h1.sm
 refine sBn (fun c=>RP.f (fun hG=>?_) .rfl') (fun c1=>?_)
 ·
  have:=congrArg List.length hG
  rw [Yc,Yc] at this
  omega
 refine up_loopS (n:=b1.n) (St.refl h) (fun i=>∀ (j:Nat),j<i->(B1.map Bx.l)[j]?=(B2.map Bx.l)[j]?) (fun j hj=>by omega) ?_
 rintro - i h5 hi ⟨hs,hq⟩
 refine sB_intro (fun c=>?_) (fun c=>?_)
 ·
  replace c:=lt_t c
  refine (h1.rw.ext hs.ext).nbI (by omega) (by omega) fun b3 o3 x gx t3=>?_
  replace gx:B1[i]?=some x:=gx
  refine ⟨x.s,t3.hd,?_⟩
  refine (h2.rw.ext hs.ext).nbI (by omega) (by omega) fun b4 o4 y gy t4=>?_
  replace gy:B2[i]?=some y:=gy
  refine ⟨y.s,t4.hd,?_⟩
  rw [cal63,cond_true]
  refine (equal63 x.l y.l x.s y.s h5 ((i1 x (Yb gx)).ext hs.ext) ((i2 y (Yb gy)).ext hs.ext)).mono ?_
  rintro _ h14 ⟨⟨b',rfl,hb'⟩,E⟩
  have hs:=hs.step E
  have ex:(B1.map Bx.l)[i]?=some x.l:=by rw [Yd,gx]; rfl
  have ey:(B2.map Bx.l)[i]?=some y.l:=by rw [Yd,gy]; rfl
  refine ⟨_,rfl,sB_intro (fun c=>RP.f (fun hG=>iff_f hb' (bF c) ?_) hs.ext) (fun c2=>?_)⟩
  ·
   rw [hG,ey] at ex; exact (Yyp ex).symm
  ·
   refine Up.next (by omega) (by omega) ⟨hs,fun j hj=>?_⟩
   by_cases e:j=i
   ·
    subst e; rw [ex,ey,hb'.1 (bT c2)]
   ·
    exact hq j (by omega)
 ·
  replace c:=lt_f c
  refine RP.t (Yyr fun j=>?_) hs.ext
  by_cases hj:j<B1.length
  ·
   exact hq j (by omega)
  ·
   rw [Yl (by rw [Yc]; omega),Yl (by rw [Yc]; omega)]
theorem equal32 (a1 b1 a2 b2:Sl) (S1 S2:List Int) (B1 B2:List Bx) (h:Heap) (h1:CfI h a1 b1 S1 B1) (h2:CfI h a2 b2 S2 B2) :
  Fn Pz 32 #[.agg ⟨[.slice a1.a a1.n a1.c,.slice b1.a b1.n b1.c]⟩,.agg ⟨[.slice a2.a a2.n a2.c,.slice b2.a b2.n b2.c]⟩] h (RP (S1=S2/\B1.map Bx.l=B2.map Bx.l) h):=by
 apply vc32 a1 b1 a2 b2; unfold W32
 refine (St.refl h).newb fun h5 hs=>?_
 refine hs.newb fun h6 hs=>?_
 refine ⟨a1,hs.rd 1 rfl rfl,a2,hs.rd 0 rfl rfl,?_⟩
 refine (equal63 S1 S2 a1 a2 h6 (h1.s.ext hs.ext) (h2.s.ext hs.ext)).mono ?_
 rintro _ h11 ⟨⟨b,rfl,hb⟩,E⟩
 have hs:=hs.step E
 refine ⟨b,rfl,sB_intro (fun c=>?_) (fun c=>RP.f (fun hG=>iff_f hb c hG.1) hs.ext)⟩
 refine ⟨b1,hs.rd 1 rfl (i:=1) rfl,b2,hs.rd 0 rfl (i:=1) rfl,?_⟩
 refine (equal64 B1 B2 b1 b2 h11 (h1.b.ext hs.ext) (h2.b.ext hs.ext) (fun q hq=>(h1.i q hq).ext hs.ext) (fun q hq=>(h2.i q hq).ext hs.ext)).mono ?_
 rintro _ h16 ⟨⟨b3,rfl,hb3⟩,E⟩
 exact ⟨b3,rfl,RP.e (hb3.trans ⟨fun e=>⟨hb.1 c,e⟩,fun e=>e.2⟩) (hs.ext.trans E)⟩
end Go.VC
end

section
namespace Go.VC
open Go.Proofs

end Go.VC
end

section
/- The law ComposeBad. (Numbers of layer 27's development dump.) -/
namespace Go.VC
open Go.Proofs Go.LexS
theorem SyI.none_ {h:Heap}:SyI h ⟨none,0,0⟩ []:=⟨⟨Rw.nil,Yyt _,fun _=>⟨rfl,rfl⟩,Nat.zero_le _⟩,fun x hx=>by cases hx⟩
def encB (X:List Int):List UInt8:=X.map fun x=>UInt8.ofNat x.toNat
theorem flat_u8:∀ {X:List Int},(∀ x ∈ X,0<=x/\x<256)->(X.map u8C).flatten=byteC (encB X)
 | [],_=>rfl
 | x::X,h=>by
  have h1:=h x Yx
  have h2:=flat_u8 (X:=X) fun y hy=>h y (Yn _ hy)
  have e:(((UInt8.ofNat x.toNat).toNat:Nat):Int)=x:=by
   rw [UInt8.toNat_ofNat']
   have:x.toNat % 2 ^ 8=x.toNat:=Nat.mod_eq_of_lt (by omega)
   rw [this]; omega
  show Value.int .u8 x::(X.map u8C).flatten=Value.int .u8 (((UInt8.ofNat x.toNat).toNat:Nat):Int)::byteC (encB X)
  rw [h2,e]
theorem und48:Pz.underlying 48=some (.slice 5):=by kernel_rfl
theorem und5:Pz.underlying 5=some (.int .u8):=by kernel_rfl
theorem und9:Pz.underlying 9=some .string:=by kernel_rfl
theorem conv48 {h0 h:Heap} {b:Sl} {X:List Int} (hs:St h0 h [.sl b 5 1 (X.map u8C)]) (hX:∀ x ∈ X,0<=x/\x<256):RunW Pz (Go.convert 48 9 (.slice b.a b.n b.c)) h fun v h'=>v=.string (bs (encB X))/\h'=h:=by
 have ho:=hs.give 0 rfl
 rw [flat_u8 hX] at ho
 exact str_c und48 und5 und9 ho
theorem EncOk.few {L:List Mch} {S:List Int} {BL:List (List Int)} (hF:FewC L S BL) (hS:∀ x ∈ S,I64 x) (hB:∀ q ∈ BL,∀ x ∈ q,I64 x):EncOk S BL:=
 ⟨hS,fun q hq=>⟨by have:=hF.b q hq; omega,hB q hq⟩,by have:=hF.n; omega⟩
end Go.VC
end

section
namespace Go.VC
open Go.Proofs

def W8 (p0_1 p0_2 p1_3 p1_4:Sl) (h:Heap) (R:Value->Heap->Prop):Prop:=
 (Wn h [vS p0_1,vS p0_2] 26 fun h5=>
 (Wn h5 [vS p1_3,vS p1_4] 26 fun h6=>
 (Fn Pz 12 #[] h6
 (fun v7 h9=>∃ x8,iB v7 x8 /\
 (sB (!x8)
 (R (.bool false) h9)
 ((∃ (x10 x11:Sl),atC h9 (aS h 0) [vS x10,vS x11] /\
 (Fn Pz 13 #[.slice none 0 0,.agg ⟨[vS x10,vS x11]⟩] h9
 (fun v12 h14=>∃ x13,iB v12 x13 /\
 (sB (!x13)
 (R (.bool true) h14)
 ((∃ (x15 x16:Sl),atC h14 (aS h5 0) [vS x15,vS x16] /\
 (Fn Pz 13 #[.slice none 0 0,.agg ⟨[vS x15,vS x16]⟩] h14
 (fun v17 h19=>∃ x18,iB v17 x18 /\
 (sB (!x18)
 (R (.bool true) h19)
 ((∃ (x20 x21:Sl),atC h19 (aS h 0) [vS x20,vS x21] /\
 (∃ (x22 x23:Sl),atC h19 (aS h5 0) [vS x22,vS x23] /\
 (Fn Pz 17 #[.agg ⟨[vS x20,vS x21]⟩] h19
 (fun v24 h27=>∃ (x25 x26:Sl),v24=.agg ⟨[vS x25,vS x26]⟩ /\
 (Sm [(aS h5 0)] h19 h27 /\
 (Fn Pz 35 #[.agg ⟨[vS x25,vS x26]⟩] h27
 (fun v28 h30=>∃ x29,iS v28 x29 /\
 (Sm [(aS h5 0)] h27 h30 /\
 (Fn Pz 17 #[.agg ⟨[vS x22,vS x23]⟩] h30
 (fun v31 h34=>∃ (x32 x33:Sl),v31=.agg ⟨[vS x32,vS x33]⟩ /\
 (Sm [(aS h 0)] h30 h34 /\
 (Fn Pz 35 #[.agg ⟨[vS x32,vS x33]⟩] h34
 (fun v35 h37=>∃ x36,iS v35 x36 /\
 (Sm [(aS h 0)] h34 h37 /\
 (∃ (x38 x39:Sl),atC h37 (aS h 0) [vS x38,vS x39] /\
 (∃ (x40 x41:Sl),atC h37 (aS h5 0) [vS x40,vS x41] /\
 ((RunW Pz (Go.convert 48 9 (vS x29)) h37
 (fun v42 h44=>∃ x43:ByteArray,v42=.string x43 /\
 (Sm [(aS h5 0),(aS h 0)] h37 h44 /\
 ((RunW Pz (Go.convert 48 9 (vS x36)) h44
 (fun v45 h47=>∃ x46:ByteArray,v45=.string x46 /\
 (Sm [(aS h5 0),(aS h 0)] h44 h47 /\
 (Fn Pz 17 #[.agg ⟨[vS x38,vS x39]⟩] h47
 (fun v48 h51=>∃ (x49 x50:Sl),v48=.agg ⟨[vS x49,vS x50]⟩ /\
 (Sm [(aS h5 0)] h47 h51 /\
 (Fn Pz 17 #[.agg ⟨[vS x40,vS x41]⟩] h51
 (fun v52 h55=>∃ (x53 x54:Sl),v52=.agg ⟨[vS x53,vS x54]⟩ /\
 (Sm [(aS h 0)] h51 h55 /\
 (Fn Pz 32 #[.agg ⟨[vS x49,vS x50]⟩,.agg ⟨[vS x53,vS x54]⟩] h55
 (fun v56 h58=>∃ x57,iB v56 x57 /\
 (sB (((ByteArray.toList x43) == (ByteArray.toList x46)) == x57)
 ((∃ (x59 x60:Sl),atC h58 (aS h 0) [vS x59,vS x60] /\
 (∃ (x61 x62:Sl),atC h58 (aS h 0) [vS x61,vS x62] /\
 (Fn Pz 17 #[.agg ⟨[vS x59,vS x60]⟩] h58
 (fun v63 h66=>∃ (x64 x65:Sl),v63=.agg ⟨[vS x64,vS x65]⟩ /\
 (Sm [(aS h 0),(aS h5 0),(aS h 0)] h58 h66 /\
 (Fn Pz 17 #[.agg ⟨[vS x61,vS x62]⟩] h66
 (fun v67 h70=>∃ (x68 x69:Sl),v67=.agg ⟨[vS x68,vS x69]⟩ /\
 (Sm [(aS h 0),(aS h5 0),(aS h 0)] h66 h70 /\
 (Fn Pz 32 #[.agg ⟨[vS x64,vS x65]⟩,.agg ⟨[vS x68,vS x69]⟩] h70
 (fun v71 h73=>∃ x72,iB v71 x72 /\
 (Sm [(aS h5 0),(aS h 0)] h70 h73 /\
 (sB x72
 (R (.bool (decide ((x29.n:Int) > 0))) h73)
 (R (.bool false) h73))))))))))))))
 (R (.bool false) h58))))))))))))))/\((Fn Pz 17 #[.agg ⟨[vS x38,vS x39]⟩] h44
 (fun v74 h77=>∃ (x75 x76:Sl),v74=.agg ⟨[vS x75,vS x76]⟩ /\
 (Sm [(aS h5 0)] h44 h77 /\
 ((RunW Pz (Go.convert 48 9 (vS x36)) h77
 (fun v78 h80=>∃ x79:ByteArray,v78=.string x79 /\
 (Sm [(aS h5 0),(aS h 0)] h77 h80 /\
 (Fn Pz 17 #[.agg ⟨[vS x40,vS x41]⟩] h80
 (fun v81 h84=>∃ (x82 x83:Sl),v81=.agg ⟨[vS x82,vS x83]⟩ /\
 (Sm [(aS h 0)] h80 h84 /\
 (Fn Pz 32 #[.agg ⟨[vS x75,vS x76]⟩,.agg ⟨[vS x82,vS x83]⟩] h84
 (fun v85 h87=>∃ x86,iB v85 x86 /\
 (sB (((ByteArray.toList x43) == (ByteArray.toList x79)) == x86)
 ((∃ (x88 x89:Sl),atC h87 (aS h 0) [vS x88,vS x89] /\
 (∃ (x90 x91:Sl),atC h87 (aS h 0) [vS x90,vS x91] /\
 (Fn Pz 17 #[.agg ⟨[vS x88,vS x89]⟩] h87
 (fun v92 h95=>∃ (x93 x94:Sl),v92=.agg ⟨[vS x93,vS x94]⟩ /\
 (Sm [(aS h 0),(aS h5 0),(aS h 0)] h87 h95 /\
 (Fn Pz 17 #[.agg ⟨[vS x90,vS x91]⟩] h95
 (fun v96 h99=>∃ (x97 x98:Sl),v96=.agg ⟨[vS x97,vS x98]⟩ /\
 (Sm [(aS h 0),(aS h5 0),(aS h 0)] h95 h99 /\
 (Fn Pz 32 #[.agg ⟨[vS x93,vS x94]⟩,.agg ⟨[vS x97,vS x98]⟩] h99
 (fun v100 h102=>∃ x101,iB v100 x101 /\
 (Sm [(aS h5 0),(aS h 0)] h99 h102 /\
 (sB x101
 (R (.bool (decide ((x29.n:Int) > 0))) h102)
 (R (.bool false) h102))))))))))))))
 (R (.bool false) h87)))))))))))/\((Fn Pz 17 #[.agg ⟨[vS x40,vS x41]⟩] h77
 (fun v103 h106=>∃ (x104 x105:Sl),v103=.agg ⟨[vS x104,vS x105]⟩ /\
 (Sm [(aS h 0)] h77 h106 /\
 ((RunW Pz (Go.convert 48 9 (vS x36)) h106
 (fun v107 h109=>∃ x108:ByteArray,v107=.string x108 /\
 (Sm [(aS h5 0),(aS h 0)] h106 h109 /\
 (Fn Pz 32 #[.agg ⟨[vS x75,vS x76]⟩,.agg ⟨[vS x104,vS x105]⟩] h109
 (fun v110 h112=>∃ x111,iB v110 x111 /\
 (sB (((ByteArray.toList x43) == (ByteArray.toList x108)) == x111)
 ((∃ (x113 x114:Sl),atC h112 (aS h 0) [vS x113,vS x114] /\
 (∃ (x115 x116:Sl),atC h112 (aS h 0) [vS x115,vS x116] /\
 (Fn Pz 17 #[.agg ⟨[vS x113,vS x114]⟩] h112
 (fun v117 h120=>∃ (x118 x119:Sl),v117=.agg ⟨[vS x118,vS x119]⟩ /\
 (Sm [(aS h 0),(aS h5 0),(aS h 0)] h112 h120 /\
 (Fn Pz 17 #[.agg ⟨[vS x115,vS x116]⟩] h120
 (fun v121 h124=>∃ (x122 x123:Sl),v121=.agg ⟨[vS x122,vS x123]⟩ /\
 (Sm [(aS h 0),(aS h5 0),(aS h 0)] h120 h124 /\
 (Fn Pz 32 #[.agg ⟨[vS x118,vS x119]⟩,.agg ⟨[vS x122,vS x123]⟩] h124
 (fun v125 h127=>∃ x126,iB v125 x126 /\
 (Sm [(aS h5 0),(aS h 0)] h124 h127 /\
 (sB x126
 (R (.bool (decide ((x29.n:Int) > 0))) h127)
 (R (.bool false) h127))))))))))))))
 (R (.bool false) h112))))))))/\((Fn Pz 32 #[.agg ⟨[vS x75,vS x76]⟩,.agg ⟨[vS x104,vS x105]⟩] h106
 (fun v128 h130=>∃ x129,iB v128 x129 /\
 (RunW Pz (Go.convert 48 9 (vS x36)) h130
 (fun v131 h133=>∃ x132:ByteArray,v131=.string x132 /\
 (Sm [(aS h5 0),(aS h 0)] h130 h133 /\
 (sB (((ByteArray.toList x43) == (ByteArray.toList x132)) == x129)
 ((∃ (x134 x135:Sl),atC h133 (aS h 0) [vS x134,vS x135] /\
 (∃ (x136 x137:Sl),atC h133 (aS h 0) [vS x136,vS x137] /\
 (Fn Pz 17 #[.agg ⟨[vS x134,vS x135]⟩] h133
 (fun v138 h141=>∃ (x139 x140:Sl),v138=.agg ⟨[vS x139,vS x140]⟩ /\
 (Sm [(aS h 0),(aS h5 0),(aS h 0)] h133 h141 /\
 (Fn Pz 17 #[.agg ⟨[vS x136,vS x137]⟩] h141
 (fun v142 h145=>∃ (x143 x144:Sl),v142=.agg ⟨[vS x143,vS x144]⟩ /\
 (Sm [(aS h 0),(aS h5 0),(aS h 0)] h141 h145 /\
 (Fn Pz 32 #[.agg ⟨[vS x139,vS x140]⟩,.agg ⟨[vS x143,vS x144]⟩] h145
 (fun v146 h148=>∃ x147,iB v146 x147 /\
 (Sm [(aS h5 0),(aS h 0)] h145 h148 /\
 (sB x147
 (R (.bool (decide ((x29.n:Int) > 0))) h148)
 (R (.bool false) h148))))))))))))))
 (R (.bool false) h133))))))))))))))))))))/\((RunW Pz (Go.convert 48 9 (vS x36)) h37
 (fun v149 h151=>∃ x150:ByteArray,v149=.string x150 /\
 (Sm [(aS h5 0),(aS h 0)] h37 h151 /\
 ((RunW Pz (Go.convert 48 9 (vS x29)) h151
 (fun v152 h154=>∃ x153:ByteArray,v152=.string x153 /\
 (Sm [(aS h5 0),(aS h 0)] h151 h154 /\
 (Fn Pz 17 #[.agg ⟨[vS x38,vS x39]⟩] h154
 (fun v155 h158=>∃ (x156 x157:Sl),v155=.agg ⟨[vS x156,vS x157]⟩ /\
 (Sm [(aS h5 0)] h154 h158 /\
 (Fn Pz 17 #[.agg ⟨[vS x40,vS x41]⟩] h158
 (fun v159 h162=>∃ (x160 x161:Sl),v159=.agg ⟨[vS x160,vS x161]⟩ /\
 (Sm [(aS h 0)] h158 h162 /\
 (Fn Pz 32 #[.agg ⟨[vS x156,vS x157]⟩,.agg ⟨[vS x160,vS x161]⟩] h162
 (fun v163 h165=>∃ x164,iB v163 x164 /\
 (sB (((ByteArray.toList x153) == (ByteArray.toList x150)) == x164)
 ((∃ (x166 x167:Sl),atC h165 (aS h 0) [vS x166,vS x167] /\
 (∃ (x168 x169:Sl),atC h165 (aS h 0) [vS x168,vS x169] /\
 (Fn Pz 17 #[.agg ⟨[vS x166,vS x167]⟩] h165
 (fun v170 h173=>∃ (x171 x172:Sl),v170=.agg ⟨[vS x171,vS x172]⟩ /\
 (Sm [(aS h 0),(aS h5 0),(aS h 0)] h165 h173 /\
 (Fn Pz 17 #[.agg ⟨[vS x168,vS x169]⟩] h173
 (fun v174 h177=>∃ (x175 x176:Sl),v174=.agg ⟨[vS x175,vS x176]⟩ /\
 (Sm [(aS h 0),(aS h5 0),(aS h 0)] h173 h177 /\
 (Fn Pz 32 #[.agg ⟨[vS x171,vS x172]⟩,.agg ⟨[vS x175,vS x176]⟩] h177
 (fun v178 h180=>∃ x179,iB v178 x179 /\
 (Sm [(aS h5 0),(aS h 0)] h177 h180 /\
 (sB x179
 (R (.bool (decide ((x29.n:Int) > 0))) h180)
 (R (.bool false) h180))))))))))))))
 (R (.bool false) h165))))))))))))))/\((Fn Pz 17 #[.agg ⟨[vS x38,vS x39]⟩] h151
 (fun v181 h184=>∃ (x182 x183:Sl),v181=.agg ⟨[vS x182,vS x183]⟩ /\
 (Sm [(aS h5 0)] h151 h184 /\
 ((RunW Pz (Go.convert 48 9 (vS x29)) h184
 (fun v185 h187=>∃ x186:ByteArray,v185=.string x186 /\
 (Sm [(aS h5 0),(aS h 0)] h184 h187 /\
 (Fn Pz 17 #[.agg ⟨[vS x40,vS x41]⟩] h187
 (fun v188 h191=>∃ (x189 x190:Sl),v188=.agg ⟨[vS x189,vS x190]⟩ /\
 (Sm [(aS h 0)] h187 h191 /\
 (Fn Pz 32 #[.agg ⟨[vS x182,vS x183]⟩,.agg ⟨[vS x189,vS x190]⟩] h191
 (fun v192 h194=>∃ x193,iB v192 x193 /\
 (sB (((ByteArray.toList x186) == (ByteArray.toList x150)) == x193)
 ((∃ (x195 x196:Sl),atC h194 (aS h 0) [vS x195,vS x196] /\
 (∃ (x197 x198:Sl),atC h194 (aS h 0) [vS x197,vS x198] /\
 (Fn Pz 17 #[.agg ⟨[vS x195,vS x196]⟩] h194
 (fun v199 h202=>∃ (x200 x201:Sl),v199=.agg ⟨[vS x200,vS x201]⟩ /\
 (Sm [(aS h 0),(aS h5 0),(aS h 0)] h194 h202 /\
 (Fn Pz 17 #[.agg ⟨[vS x197,vS x198]⟩] h202
 (fun v203 h206=>∃ (x204 x205:Sl),v203=.agg ⟨[vS x204,vS x205]⟩ /\
 (Sm [(aS h 0),(aS h5 0),(aS h 0)] h202 h206 /\
 (Fn Pz 32 #[.agg ⟨[vS x200,vS x201]⟩,.agg ⟨[vS x204,vS x205]⟩] h206
 (fun v207 h209=>∃ x208,iB v207 x208 /\
 (Sm [(aS h5 0),(aS h 0)] h206 h209 /\
 (sB x208
 (R (.bool (decide ((x29.n:Int) > 0))) h209)
 (R (.bool false) h209))))))))))))))
 (R (.bool false) h194)))))))))))/\((Fn Pz 17 #[.agg ⟨[vS x40,vS x41]⟩] h184
 (fun v210 h213=>∃ (x211 x212:Sl),v210=.agg ⟨[vS x211,vS x212]⟩ /\
 (Sm [(aS h 0)] h184 h213 /\
 ((RunW Pz (Go.convert 48 9 (vS x29)) h213
 (fun v214 h216=>∃ x215:ByteArray,v214=.string x215 /\
 (Sm [(aS h5 0),(aS h 0)] h213 h216 /\
 (Fn Pz 32 #[.agg ⟨[vS x182,vS x183]⟩,.agg ⟨[vS x211,vS x212]⟩] h216
 (fun v217 h219=>∃ x218,iB v217 x218 /\
 (sB (((ByteArray.toList x215) == (ByteArray.toList x150)) == x218)
 ((∃ (x220 x221:Sl),atC h219 (aS h 0) [vS x220,vS x221] /\
 (∃ (x222 x223:Sl),atC h219 (aS h 0) [vS x222,vS x223] /\
 (Fn Pz 17 #[.agg ⟨[vS x220,vS x221]⟩] h219
 (fun v224 h227=>∃ (x225 x226:Sl),v224=.agg ⟨[vS x225,vS x226]⟩ /\
 (Sm [(aS h 0),(aS h5 0),(aS h 0)] h219 h227 /\
 (Fn Pz 17 #[.agg ⟨[vS x222,vS x223]⟩] h227
 (fun v228 h231=>∃ (x229 x230:Sl),v228=.agg ⟨[vS x229,vS x230]⟩ /\
 (Sm [(aS h 0),(aS h5 0),(aS h 0)] h227 h231 /\
 (Fn Pz 32 #[.agg ⟨[vS x225,vS x226]⟩,.agg ⟨[vS x229,vS x230]⟩] h231
 (fun v232 h234=>∃ x233,iB v232 x233 /\
 (Sm [(aS h5 0),(aS h 0)] h231 h234 /\
 (sB x233
 (R (.bool (decide ((x29.n:Int) > 0))) h234)
 (R (.bool false) h234))))))))))))))
 (R (.bool false) h219))))))))/\((Fn Pz 32 #[.agg ⟨[vS x182,vS x183]⟩,.agg ⟨[vS x211,vS x212]⟩] h213
 (fun v235 h237=>∃ x236,iB v235 x236 /\
 (RunW Pz (Go.convert 48 9 (vS x29)) h237
 (fun v238 h240=>∃ x239:ByteArray,v238=.string x239 /\
 (Sm [(aS h5 0),(aS h 0)] h237 h240 /\
 (sB (((ByteArray.toList x239) == (ByteArray.toList x150)) == x236)
 ((∃ (x241 x242:Sl),atC h240 (aS h 0) [vS x241,vS x242] /\
 (∃ (x243 x244:Sl),atC h240 (aS h 0) [vS x243,vS x244] /\
 (Fn Pz 17 #[.agg ⟨[vS x241,vS x242]⟩] h240
 (fun v245 h248=>∃ (x246 x247:Sl),v245=.agg ⟨[vS x246,vS x247]⟩ /\
 (Sm [(aS h 0),(aS h5 0),(aS h 0)] h240 h248 /\
 (Fn Pz 17 #[.agg ⟨[vS x243,vS x244]⟩] h248
 (fun v249 h252=>∃ (x250 x251:Sl),v249=.agg ⟨[vS x250,vS x251]⟩ /\
 (Sm [(aS h 0),(aS h5 0),(aS h 0)] h248 h252 /\
 (Fn Pz 32 #[.agg ⟨[vS x246,vS x247]⟩,.agg ⟨[vS x250,vS x251]⟩] h252
 (fun v253 h255=>∃ x254,iB v253 x254 /\
 (Sm [(aS h5 0),(aS h 0)] h252 h255 /\
 (sB x254
 (R (.bool (decide ((x29.n:Int) > 0))) h255)
 (R (.bool false) h255))))))))))))))
 (R (.bool false) h240))))))))))))))))))))/\((Fn Pz 17 #[.agg ⟨[vS x38,vS x39]⟩] h37
 (fun v256 h259=>∃ (x257 x258:Sl),v256=.agg ⟨[vS x257,vS x258]⟩ /\
 (Sm [(aS h5 0)] h37 h259 /\
 ((RunW Pz (Go.convert 48 9 (vS x29)) h259
 (fun v260 h262=>∃ x261:ByteArray,v260=.string x261 /\
 (Sm [(aS h5 0),(aS h 0)] h259 h262 /\
 ((RunW Pz (Go.convert 48 9 (vS x36)) h262
 (fun v263 h265=>∃ x264:ByteArray,v263=.string x264 /\
 (Sm [(aS h5 0),(aS h 0)] h262 h265 /\
 (Fn Pz 17 #[.agg ⟨[vS x40,vS x41]⟩] h265
 (fun v266 h269=>∃ (x267 x268:Sl),v266=.agg ⟨[vS x267,vS x268]⟩ /\
 (Sm [(aS h 0)] h265 h269 /\
 (Fn Pz 32 #[.agg ⟨[vS x257,vS x258]⟩,.agg ⟨[vS x267,vS x268]⟩] h269
 (fun v270 h272=>∃ x271,iB v270 x271 /\
 (sB (((ByteArray.toList x261) == (ByteArray.toList x264)) == x271)
 ((∃ (x273 x274:Sl),atC h272 (aS h 0) [vS x273,vS x274] /\
 (∃ (x275 x276:Sl),atC h272 (aS h 0) [vS x275,vS x276] /\
 (Fn Pz 17 #[.agg ⟨[vS x273,vS x274]⟩] h272
 (fun v277 h280=>∃ (x278 x279:Sl),v277=.agg ⟨[vS x278,vS x279]⟩ /\
 (Sm [(aS h 0),(aS h5 0),(aS h 0)] h272 h280 /\
 (Fn Pz 17 #[.agg ⟨[vS x275,vS x276]⟩] h280
 (fun v281 h284=>∃ (x282 x283:Sl),v281=.agg ⟨[vS x282,vS x283]⟩ /\
 (Sm [(aS h 0),(aS h5 0),(aS h 0)] h280 h284 /\
 (Fn Pz 32 #[.agg ⟨[vS x278,vS x279]⟩,.agg ⟨[vS x282,vS x283]⟩] h284
 (fun v285 h287=>∃ x286,iB v285 x286 /\
 (Sm [(aS h5 0),(aS h 0)] h284 h287 /\
 (sB x286
 (R (.bool (decide ((x29.n:Int) > 0))) h287)
 (R (.bool false) h287))))))))))))))
 (R (.bool false) h272)))))))))))/\((Fn Pz 17 #[.agg ⟨[vS x40,vS x41]⟩] h262
 (fun v288 h291=>∃ (x289 x290:Sl),v288=.agg ⟨[vS x289,vS x290]⟩ /\
 (Sm [(aS h 0)] h262 h291 /\
 ((RunW Pz (Go.convert 48 9 (vS x36)) h291
 (fun v292 h294=>∃ x293:ByteArray,v292=.string x293 /\
 (Sm [(aS h5 0),(aS h 0)] h291 h294 /\
 (Fn Pz 32 #[.agg ⟨[vS x257,vS x258]⟩,.agg ⟨[vS x289,vS x290]⟩] h294
 (fun v295 h297=>∃ x296,iB v295 x296 /\
 (sB (((ByteArray.toList x261) == (ByteArray.toList x293)) == x296)
 ((∃ (x298 x299:Sl),atC h297 (aS h 0) [vS x298,vS x299] /\
 (∃ (x300 x301:Sl),atC h297 (aS h 0) [vS x300,vS x301] /\
 (Fn Pz 17 #[.agg ⟨[vS x298,vS x299]⟩] h297
 (fun v302 h305=>∃ (x303 x304:Sl),v302=.agg ⟨[vS x303,vS x304]⟩ /\
 (Sm [(aS h 0),(aS h5 0),(aS h 0)] h297 h305 /\
 (Fn Pz 17 #[.agg ⟨[vS x300,vS x301]⟩] h305
 (fun v306 h309=>∃ (x307 x308:Sl),v306=.agg ⟨[vS x307,vS x308]⟩ /\
 (Sm [(aS h 0),(aS h5 0),(aS h 0)] h305 h309 /\
 (Fn Pz 32 #[.agg ⟨[vS x303,vS x304]⟩,.agg ⟨[vS x307,vS x308]⟩] h309
 (fun v310 h312=>∃ x311,iB v310 x311 /\
 (Sm [(aS h5 0),(aS h 0)] h309 h312 /\
 (sB x311
 (R (.bool (decide ((x29.n:Int) > 0))) h312)
 (R (.bool false) h312))))))))))))))
 (R (.bool false) h297))))))))/\((Fn Pz 32 #[.agg ⟨[vS x257,vS x258]⟩,.agg ⟨[vS x289,vS x290]⟩] h291
 (fun v313 h315=>∃ x314,iB v313 x314 /\
 (RunW Pz (Go.convert 48 9 (vS x36)) h315
 (fun v316 h318=>∃ x317:ByteArray,v316=.string x317 /\
 (Sm [(aS h5 0),(aS h 0)] h315 h318 /\
 (sB (((ByteArray.toList x261) == (ByteArray.toList x317)) == x314)
 ((∃ (x319 x320:Sl),atC h318 (aS h 0) [vS x319,vS x320] /\
 (∃ (x321 x322:Sl),atC h318 (aS h 0) [vS x321,vS x322] /\
 (Fn Pz 17 #[.agg ⟨[vS x319,vS x320]⟩] h318
 (fun v323 h326=>∃ (x324 x325:Sl),v323=.agg ⟨[vS x324,vS x325]⟩ /\
 (Sm [(aS h 0),(aS h5 0),(aS h 0)] h318 h326 /\
 (Fn Pz 17 #[.agg ⟨[vS x321,vS x322]⟩] h326
 (fun v327 h330=>∃ (x328 x329:Sl),v327=.agg ⟨[vS x328,vS x329]⟩ /\
 (Sm [(aS h 0),(aS h5 0),(aS h 0)] h326 h330 /\
 (Fn Pz 32 #[.agg ⟨[vS x324,vS x325]⟩,.agg ⟨[vS x328,vS x329]⟩] h330
 (fun v331 h333=>∃ x332,iB v331 x332 /\
 (Sm [(aS h5 0),(aS h 0)] h330 h333 /\
 (sB x332
 (R (.bool (decide ((x29.n:Int) > 0))) h333)
 (R (.bool false) h333))))))))))))))
 (R (.bool false) h318))))))))))))))))/\((RunW Pz (Go.convert 48 9 (vS x36)) h259
 (fun v334 h336=>∃ x335:ByteArray,v334=.string x335 /\
 (Sm [(aS h5 0),(aS h 0)] h259 h336 /\
 ((RunW Pz (Go.convert 48 9 (vS x29)) h336
 (fun v337 h339=>∃ x338:ByteArray,v337=.string x338 /\
 (Sm [(aS h5 0),(aS h 0)] h336 h339 /\
 (Fn Pz 17 #[.agg ⟨[vS x40,vS x41]⟩] h339
 (fun v340 h343=>∃ (x341 x342:Sl),v340=.agg ⟨[vS x341,vS x342]⟩ /\
 (Sm [(aS h 0)] h339 h343 /\
 (Fn Pz 32 #[.agg ⟨[vS x257,vS x258]⟩,.agg ⟨[vS x341,vS x342]⟩] h343
 (fun v344 h346=>∃ x345,iB v344 x345 /\
 (sB (((ByteArray.toList x338) == (ByteArray.toList x335)) == x345)
 ((∃ (x347 x348:Sl),atC h346 (aS h 0) [vS x347,vS x348] /\
 (∃ (x349 x350:Sl),atC h346 (aS h 0) [vS x349,vS x350] /\
 (Fn Pz 17 #[.agg ⟨[vS x347,vS x348]⟩] h346
 (fun v351 h354=>∃ (x352 x353:Sl),v351=.agg ⟨[vS x352,vS x353]⟩ /\
 (Sm [(aS h 0),(aS h5 0),(aS h 0)] h346 h354 /\
 (Fn Pz 17 #[.agg ⟨[vS x349,vS x350]⟩] h354
 (fun v355 h358=>∃ (x356 x357:Sl),v355=.agg ⟨[vS x356,vS x357]⟩ /\
 (Sm [(aS h 0),(aS h5 0),(aS h 0)] h354 h358 /\
 (Fn Pz 32 #[.agg ⟨[vS x352,vS x353]⟩,.agg ⟨[vS x356,vS x357]⟩] h358
 (fun v359 h361=>∃ x360,iB v359 x360 /\
 (Sm [(aS h5 0),(aS h 0)] h358 h361 /\
 (sB x360
 (R (.bool (decide ((x29.n:Int) > 0))) h361)
 (R (.bool false) h361))))))))))))))
 (R (.bool false) h346)))))))))))/\((Fn Pz 17 #[.agg ⟨[vS x40,vS x41]⟩] h336
 (fun v362 h365=>∃ (x363 x364:Sl),v362=.agg ⟨[vS x363,vS x364]⟩ /\
 (Sm [(aS h 0)] h336 h365 /\
 ((RunW Pz (Go.convert 48 9 (vS x29)) h365
 (fun v366 h368=>∃ x367:ByteArray,v366=.string x367 /\
 (Sm [(aS h5 0),(aS h 0)] h365 h368 /\
 (Fn Pz 32 #[.agg ⟨[vS x257,vS x258]⟩,.agg ⟨[vS x363,vS x364]⟩] h368
 (fun v369 h371=>∃ x370,iB v369 x370 /\
 (sB (((ByteArray.toList x367) == (ByteArray.toList x335)) == x370)
 ((∃ (x372 x373:Sl),atC h371 (aS h 0) [vS x372,vS x373] /\
 (∃ (x374 x375:Sl),atC h371 (aS h 0) [vS x374,vS x375] /\
 (Fn Pz 17 #[.agg ⟨[vS x372,vS x373]⟩] h371
 (fun v376 h379=>∃ (x377 x378:Sl),v376=.agg ⟨[vS x377,vS x378]⟩ /\
 (Sm [(aS h 0),(aS h5 0),(aS h 0)] h371 h379 /\
 (Fn Pz 17 #[.agg ⟨[vS x374,vS x375]⟩] h379
 (fun v380 h383=>∃ (x381 x382:Sl),v380=.agg ⟨[vS x381,vS x382]⟩ /\
 (Sm [(aS h 0),(aS h5 0),(aS h 0)] h379 h383 /\
 (Fn Pz 32 #[.agg ⟨[vS x377,vS x378]⟩,.agg ⟨[vS x381,vS x382]⟩] h383
 (fun v384 h386=>∃ x385,iB v384 x385 /\
 (Sm [(aS h5 0),(aS h 0)] h383 h386 /\
 (sB x385
 (R (.bool (decide ((x29.n:Int) > 0))) h386)
 (R (.bool false) h386))))))))))))))
 (R (.bool false) h371))))))))/\((Fn Pz 32 #[.agg ⟨[vS x257,vS x258]⟩,.agg ⟨[vS x363,vS x364]⟩] h365
 (fun v387 h389=>∃ x388,iB v387 x388 /\
 (RunW Pz (Go.convert 48 9 (vS x29)) h389
 (fun v390 h392=>∃ x391:ByteArray,v390=.string x391 /\
 (Sm [(aS h5 0),(aS h 0)] h389 h392 /\
 (sB (((ByteArray.toList x391) == (ByteArray.toList x335)) == x388)
 ((∃ (x393 x394:Sl),atC h392 (aS h 0) [vS x393,vS x394] /\
 (∃ (x395 x396:Sl),atC h392 (aS h 0) [vS x395,vS x396] /\
 (Fn Pz 17 #[.agg ⟨[vS x393,vS x394]⟩] h392
 (fun v397 h400=>∃ (x398 x399:Sl),v397=.agg ⟨[vS x398,vS x399]⟩ /\
 (Sm [(aS h 0),(aS h5 0),(aS h 0)] h392 h400 /\
 (Fn Pz 17 #[.agg ⟨[vS x395,vS x396]⟩] h400
 (fun v401 h404=>∃ (x402 x403:Sl),v401=.agg ⟨[vS x402,vS x403]⟩ /\
 (Sm [(aS h 0),(aS h5 0),(aS h 0)] h400 h404 /\
 (Fn Pz 32 #[.agg ⟨[vS x398,vS x399]⟩,.agg ⟨[vS x402,vS x403]⟩] h404
 (fun v405 h407=>∃ x406,iB v405 x406 /\
 (Sm [(aS h5 0),(aS h 0)] h404 h407 /\
 (sB x406
 (R (.bool (decide ((x29.n:Int) > 0))) h407)
 (R (.bool false) h407))))))))))))))
 (R (.bool false) h392))))))))))))))))/\((Fn Pz 17 #[.agg ⟨[vS x40,vS x41]⟩] h259
 (fun v408 h411=>∃ (x409 x410:Sl),v408=.agg ⟨[vS x409,vS x410]⟩ /\
 (Sm [(aS h 0)] h259 h411 /\
 ((RunW Pz (Go.convert 48 9 (vS x29)) h411
 (fun v412 h414=>∃ x413:ByteArray,v412=.string x413 /\
 (Sm [(aS h5 0),(aS h 0)] h411 h414 /\
 ((RunW Pz (Go.convert 48 9 (vS x36)) h414
 (fun v415 h417=>∃ x416:ByteArray,v415=.string x416 /\
 (Sm [(aS h5 0),(aS h 0)] h414 h417 /\
 (Fn Pz 32 #[.agg ⟨[vS x257,vS x258]⟩,.agg ⟨[vS x409,vS x410]⟩] h417
 (fun v418 h420=>∃ x419,iB v418 x419 /\
 (sB (((ByteArray.toList x413) == (ByteArray.toList x416)) == x419)
 ((∃ (x421 x422:Sl),atC h420 (aS h 0) [vS x421,vS x422] /\
 (∃ (x423 x424:Sl),atC h420 (aS h 0) [vS x423,vS x424] /\
 (Fn Pz 17 #[.agg ⟨[vS x421,vS x422]⟩] h420
 (fun v425 h428=>∃ (x426 x427:Sl),v425=.agg ⟨[vS x426,vS x427]⟩ /\
 (Sm [(aS h 0),(aS h5 0),(aS h 0)] h420 h428 /\
 (Fn Pz 17 #[.agg ⟨[vS x423,vS x424]⟩] h428
 (fun v429 h432=>∃ (x430 x431:Sl),v429=.agg ⟨[vS x430,vS x431]⟩ /\
 (Sm [(aS h 0),(aS h5 0),(aS h 0)] h428 h432 /\
 (Fn Pz 32 #[.agg ⟨[vS x426,vS x427]⟩,.agg ⟨[vS x430,vS x431]⟩] h432
 (fun v433 h435=>∃ x434,iB v433 x434 /\
 (Sm [(aS h5 0),(aS h 0)] h432 h435 /\
 (sB x434
 (R (.bool (decide ((x29.n:Int) > 0))) h435)
 (R (.bool false) h435))))))))))))))
 (R (.bool false) h420))))))))/\((Fn Pz 32 #[.agg ⟨[vS x257,vS x258]⟩,.agg ⟨[vS x409,vS x410]⟩] h414
 (fun v436 h438=>∃ x437,iB v436 x437 /\
 (RunW Pz (Go.convert 48 9 (vS x36)) h438
 (fun v439 h441=>∃ x440:ByteArray,v439=.string x440 /\
 (Sm [(aS h5 0),(aS h 0)] h438 h441 /\
 (sB (((ByteArray.toList x413) == (ByteArray.toList x440)) == x437)
 ((∃ (x442 x443:Sl),atC h441 (aS h 0) [vS x442,vS x443] /\
 (∃ (x444 x445:Sl),atC h441 (aS h 0) [vS x444,vS x445] /\
 (Fn Pz 17 #[.agg ⟨[vS x442,vS x443]⟩] h441
 (fun v446 h449=>∃ (x447 x448:Sl),v446=.agg ⟨[vS x447,vS x448]⟩ /\
 (Sm [(aS h 0),(aS h5 0),(aS h 0)] h441 h449 /\
 (Fn Pz 17 #[.agg ⟨[vS x444,vS x445]⟩] h449
 (fun v450 h453=>∃ (x451 x452:Sl),v450=.agg ⟨[vS x451,vS x452]⟩ /\
 (Sm [(aS h 0),(aS h5 0),(aS h 0)] h449 h453 /\
 (Fn Pz 32 #[.agg ⟨[vS x447,vS x448]⟩,.agg ⟨[vS x451,vS x452]⟩] h453
 (fun v454 h456=>∃ x455,iB v454 x455 /\
 (Sm [(aS h5 0),(aS h 0)] h453 h456 /\
 (sB x455
 (R (.bool (decide ((x29.n:Int) > 0))) h456)
 (R (.bool false) h456))))))))))))))
 (R (.bool false) h441))))))))))))/\((RunW Pz (Go.convert 48 9 (vS x36)) h411
 (fun v457 h459=>∃ x458:ByteArray,v457=.string x458 /\
 (Sm [(aS h5 0),(aS h 0)] h411 h459 /\
 ((RunW Pz (Go.convert 48 9 (vS x29)) h459
 (fun v460 h462=>∃ x461:ByteArray,v460=.string x461 /\
 (Sm [(aS h5 0),(aS h 0)] h459 h462 /\
 (Fn Pz 32 #[.agg ⟨[vS x257,vS x258]⟩,.agg ⟨[vS x409,vS x410]⟩] h462
 (fun v463 h465=>∃ x464,iB v463 x464 /\
 (sB (((ByteArray.toList x461) == (ByteArray.toList x458)) == x464)
 ((∃ (x466 x467:Sl),atC h465 (aS h 0) [vS x466,vS x467] /\
 (∃ (x468 x469:Sl),atC h465 (aS h 0) [vS x468,vS x469] /\
 (Fn Pz 17 #[.agg ⟨[vS x466,vS x467]⟩] h465
 (fun v470 h473=>∃ (x471 x472:Sl),v470=.agg ⟨[vS x471,vS x472]⟩ /\
 (Sm [(aS h 0),(aS h5 0),(aS h 0)] h465 h473 /\
 (Fn Pz 17 #[.agg ⟨[vS x468,vS x469]⟩] h473
 (fun v474 h477=>∃ (x475 x476:Sl),v474=.agg ⟨[vS x475,vS x476]⟩ /\
 (Sm [(aS h 0),(aS h5 0),(aS h 0)] h473 h477 /\
 (Fn Pz 32 #[.agg ⟨[vS x471,vS x472]⟩,.agg ⟨[vS x475,vS x476]⟩] h477
 (fun v478 h480=>∃ x479,iB v478 x479 /\
 (Sm [(aS h5 0),(aS h 0)] h477 h480 /\
 (sB x479
 (R (.bool (decide ((x29.n:Int) > 0))) h480)
 (R (.bool false) h480))))))))))))))
 (R (.bool false) h465))))))))/\((Fn Pz 32 #[.agg ⟨[vS x257,vS x258]⟩,.agg ⟨[vS x409,vS x410]⟩] h459
 (fun v481 h483=>∃ x482,iB v481 x482 /\
 (RunW Pz (Go.convert 48 9 (vS x29)) h483
 (fun v484 h486=>∃ x485:ByteArray,v484=.string x485 /\
 (Sm [(aS h5 0),(aS h 0)] h483 h486 /\
 (sB (((ByteArray.toList x485) == (ByteArray.toList x458)) == x482)
 ((∃ (x487 x488:Sl),atC h486 (aS h 0) [vS x487,vS x488] /\
 (∃ (x489 x490:Sl),atC h486 (aS h 0) [vS x489,vS x490] /\
 (Fn Pz 17 #[.agg ⟨[vS x487,vS x488]⟩] h486
 (fun v491 h494=>∃ (x492 x493:Sl),v491=.agg ⟨[vS x492,vS x493]⟩ /\
 (Sm [(aS h 0),(aS h5 0),(aS h 0)] h486 h494 /\
 (Fn Pz 17 #[.agg ⟨[vS x489,vS x490]⟩] h494
 (fun v495 h498=>∃ (x496 x497:Sl),v495=.agg ⟨[vS x496,vS x497]⟩ /\
 (Sm [(aS h 0),(aS h5 0),(aS h 0)] h494 h498 /\
 (Fn Pz 32 #[.agg ⟨[vS x492,vS x493]⟩,.agg ⟨[vS x496,vS x497]⟩] h498
 (fun v499 h501=>∃ x500,iB v499 x500 /\
 (Sm [(aS h5 0),(aS h 0)] h498 h501 /\
 (sB x500
 (R (.bool (decide ((x29.n:Int) > 0))) h501)
 (R (.bool false) h501))))))))))))))
 (R (.bool false) h486))))))))))))/\((Fn Pz 32 #[.agg ⟨[vS x257,vS x258]⟩,.agg ⟨[vS x409,vS x410]⟩] h411
 (fun v502 h504=>∃ x503,iB v502 x503 /\
 ((RunW Pz (Go.convert 48 9 (vS x29)) h504
 (fun v505 h507=>∃ x506:ByteArray,v505=.string x506 /\
 (Sm [(aS h5 0),(aS h 0)] h504 h507 /\
 (RunW Pz (Go.convert 48 9 (vS x36)) h507
 (fun v508 h510=>∃ x509:ByteArray,v508=.string x509 /\
 (Sm [(aS h5 0),(aS h 0)] h507 h510 /\
 (sB (((ByteArray.toList x506) == (ByteArray.toList x509)) == x503)
 ((∃ (x511 x512:Sl),atC h510 (aS h 0) [vS x511,vS x512] /\
 (∃ (x513 x514:Sl),atC h510 (aS h 0) [vS x513,vS x514] /\
 (Fn Pz 17 #[.agg ⟨[vS x511,vS x512]⟩] h510
 (fun v515 h518=>∃ (x516 x517:Sl),v515=.agg ⟨[vS x516,vS x517]⟩ /\
 (Sm [(aS h 0),(aS h5 0),(aS h 0)] h510 h518 /\
 (Fn Pz 17 #[.agg ⟨[vS x513,vS x514]⟩] h518
 (fun v519 h522=>∃ (x520 x521:Sl),v519=.agg ⟨[vS x520,vS x521]⟩ /\
 (Sm [(aS h 0),(aS h5 0),(aS h 0)] h518 h522 /\
 (Fn Pz 32 #[.agg ⟨[vS x516,vS x517]⟩,.agg ⟨[vS x520,vS x521]⟩] h522
 (fun v523 h525=>∃ x524,iB v523 x524 /\
 (Sm [(aS h5 0),(aS h 0)] h522 h525 /\
 (sB x524
 (R (.bool (decide ((x29.n:Int) > 0))) h525)
 (R (.bool false) h525))))))))))))))
 (R (.bool false) h510)))))))))/\((RunW Pz (Go.convert 48 9 (vS x36)) h504
 (fun v526 h528=>∃ x527:ByteArray,v526=.string x527 /\
 (Sm [(aS h5 0),(aS h 0)] h504 h528 /\
 (RunW Pz (Go.convert 48 9 (vS x29)) h528
 (fun v529 h531=>∃ x530:ByteArray,v529=.string x530 /\
 (Sm [(aS h5 0),(aS h 0)] h528 h531 /\
 (sB (((ByteArray.toList x530) == (ByteArray.toList x527)) == x503)
 ((∃ (x532 x533:Sl),atC h531 (aS h 0) [vS x532,vS x533] /\
 (∃ (x534 x535:Sl),atC h531 (aS h 0) [vS x534,vS x535] /\
 (Fn Pz 17 #[.agg ⟨[vS x532,vS x533]⟩] h531
 (fun v536 h539=>∃ (x537 x538:Sl),v536=.agg ⟨[vS x537,vS x538]⟩ /\
 (Sm [(aS h 0),(aS h5 0),(aS h 0)] h531 h539 /\
 (Fn Pz 17 #[.agg ⟨[vS x534,vS x535]⟩] h539
 (fun v540 h543=>∃ (x541 x542:Sl),v540=.agg ⟨[vS x541,vS x542]⟩ /\
 (Sm [(aS h 0),(aS h5 0),(aS h 0)] h539 h543 /\
 (Fn Pz 32 #[.agg ⟨[vS x537,vS x538]⟩,.agg ⟨[vS x541,vS x542]⟩] h543
 (fun v544 h546=>∃ x545,iB v544 x545 /\
 (Sm [(aS h5 0),(aS h 0)] h543 h546 /\
 (sB x545
 (R (.bool (decide ((x29.n:Int) > 0))) h546)
 (R (.bool false) h546))))))))))))))
 (R (.bool false) h531))))))))))))))))))))))))))))))))))))))))))))))))))))
theorem vc8 (p0_1 p0_2 p1_3 p1_4:Sl) (h:Heap) (R:Value->Heap->Prop) (H:W8 p0_1 p0_2 p1_3 p1_4 h R):Fn Pz 8 #[.agg ⟨[vS p0_1,vS p0_2]⟩,.agg ⟨[vS p1_3,vS p1_4]⟩] h R:=fnI (A:=.z) (by kernel_rfl) H

end Go.VC
end

section
/- The law ComposeCodes. (Numbers of layer 27's development dump.) -/
namespace Go.VC
open Go.Proofs Go.LexS
theorem encB_inj:∀ {X Y:List Int},(∀ x ∈ X,0<=x/\x<256)->(∀ x ∈ Y,0<=x/\x<256)->encB X=encB Y->X=Y
 | [],[],_,_,_=>rfl
 | x::X,y::Y,hX,hY,h=>by
  have h1:=hX x Yx
  have h2:=hY y Yx
  injection h with h3 h4
  have h5:=encB_inj (fun z hz=>hX z (Yn _ hz)) (fun z hz=>hY z (Yn _ hz)) h4
  have h6:=congrArg UInt8.toNat h3
  rw [UInt8.toNat_ofNat',UInt8.toNat_ofNat',Nat.mod_eq_of_lt (show x.toNat<2 ^ 8 by omega),Nat.mod_eq_of_lt (show y.toNat<2 ^ 8 by omega)] at h6
  rw [h5,show x=y by omega]
 | [],y::Y,_,_,h=>by cases h
 | x::X,[],_,_,h=>by cases h
set_option maxHeartbeats 3200000 in
theorem composeCodes8 (a1 a2 b1 b2:Sl) (S1 S2:List Int) (B1 B2:List Bx) (h:Heap) (hx:Gx h) (h1:CfI h a1 a2 S1 B1) (h2:CfI h b1 b2 S2 B2) (hI1:∀ x ∈ S1,I64 x) (hJ1:∀ q ∈ B1.map Bx.l,∀ x ∈ q,I64 x) (hI2:∀ x ∈ S2,I64 x) (hJ2:∀ q ∈ B2.map Bx.l,∀ x ∈ q,I64 x) :
  Fn Pz 8 #[.agg ⟨[.slice a1.a a1.n a1.c,.slice a2.a a2.n a2.c]⟩,.agg ⟨[.slice b1.a b1.n b1.c,.slice b2.a b2.n b2.c]⟩] h fun v h'=>v=.bool true/\Ext h h':=by
 apply vc8 a1 a2 b1 b2; unfold W8
 refine (St.refl h).newb fun h5 hs=>?_
 refine hs.newb fun h6 hs=>?_
 refine (awake12 h6 (hx.ext hs.ext)).mono ?_
 rintro _ h9 ⟨rfl,E⟩
 have hs:=hs.step E
 refine ⟨true,rfl,sB_f rfl ⟨a1,a2,hs.at 1 rfl (o:=0) (n:=2) rfl,?_⟩⟩
 refine (fewC13 [] ⟨none,0,0⟩ a1 a2 S1 B1 h9 SyI.none_ (h1.ext hs.ext)).mono ?_
 rintro _ h14 ⟨⟨b,rfl,hb⟩,E⟩
 have hs:=hs.step E
 refine ⟨b,rfl,sB_intro (fun c=>⟨rfl,hs.ext⟩) (fun c=>⟨b1,b2,hs.at 0 rfl (o:=0) (n:=2) rfl,?_⟩)⟩
 have hE1:=EncOk.few (hb.1 (bT c)) hI1 hJ1
 refine (fewC13 [] ⟨none,0,0⟩ b1 b2 S2 B2 h14 SyI.none_ (h2.ext hs.ext)).mono ?_
 rintro _ h19 ⟨⟨b,rfl,hb⟩,E⟩
 have hs:=hs.step E
 refine ⟨b,rfl,sB_intro (fun c=>⟨rfl,hs.ext⟩) (fun c=>⟨a1,a2,hs.at 1 rfl (o:=0) (n:=2) rfl,b1,b2,hs.at 0 rfl (o:=0) (n:=2) rfl,?_⟩)⟩
 have hE2:=EncOk.few (hb.1 (bT c)) hI2 hJ2
 refine (own17 a1 a2 h19).mono ?_
 rintro _ h27 ⟨rfl,E⟩
 have hs:=hs.step E
 refine ⟨a1,a2,rfl,E.sm,?_⟩
 refine (encode35 a1 a2 S1 B1 h27 (h1.ext hs.ext) hE1).mono ?_
 rintro _ h30 ⟨x,rfl,hx1⟩
 have hs:=hs.step hx1.ext
 refine ⟨x,rfl,hx1.ext.sm,?_⟩
 refine (own17 b1 b2 h30).mono ?_
 rintro _ h34 ⟨rfl,E⟩
 have hs:=hs.step E
 have hx1:=hx1.step E
 refine ⟨b1,b2,rfl,E.sm,?_⟩
 refine (encode35 b1 b2 S2 B2 h34 (h2.ext hs.ext) hE2).mono ?_
 rintro _ h37 ⟨y,rfl,hy1⟩
 have hs:=hs.step hy1.ext
 have hx1:=hx1.step hy1.ext
 refine ⟨y,rfl,hy1.ext.sm,?_⟩
 refine ⟨a1,a2,hs.at 1 rfl (o:=0) (n:=2) rfl,b1,b2,hs.at 0 rfl (o:=0) (n:=2) rfl,?_⟩
 have cx:∀ h',Ext h37 h'->RunW Pz (Go.convert 48 9 (.slice x.a x.n x.c)) h' fun v h''=>v=.string (bs (encB (encC S1 (B1.map Bx.l))))/\h''=h':=fun h' E=>conv48 (hx1.step E) encC_byte
 have cy:∀ h',Ext h37 h'->RunW Pz (Go.convert 48 9 (.slice y.a y.n y.c)) h' fun v h''=>v=.string (bs (encB (encC S2 (B2.map Bx.l))))/\h''=h':=fun h' E=>conv48 (hy1.step E) encC_byte
 have q12:∀ h',Ext h37 h'->_:=fun h' E=>equal32 a1 a2 b1 b2 S1 S2 B1 B2 h' (h1.ext (hs.ext.trans E)) (h2.ext (hs.ext.trans E))
 have q11:∀ h',Ext h37 h'->_:=fun h' E=>equal32 a1 a2 a1 a2 S1 S1 B1 B1 h' (h1.ext (hs.ext.trans E)) (h1.ext (hs.ext.trans E))
 have pA:∀ h',Ext h37 h'->atC h' ⟨h.size,0,none⟩ [.slice a1.a a1.n a1.c,.slice a2.a a2.n a2.c]:=fun h' E=>atC_ext E (hs.at 1 rfl (o:=0) (n:=2) rfl)
 have pB:∀ h',Ext h37 h'->atC h' ⟨h5.size,0,none⟩ [.slice b1.a b1.n b1.c,.slice b2.a b2.n b2.c]:=fun h' E=>atC_ext E (hs.at 0 rfl (o:=0) (n:=2) rfl)
 have hq:∀ c:Bool,(c=true ↔ S1=S2/\B1.map Bx.l=B2.map Bx.l)->((ByteArray.toList (bs (encB (encC S1 (B1.map Bx.l)))) == ByteArray.toList (bs (encB (encC S2 (B2.map Bx.l))))) == c)=true:=fun c hc=>by
  rw [strEq,beq_iff_eq]
  refine Bool.eq_iff_iff.2 (Iff.trans ?_ hc.symm)
  rw [decide_eq_true_eq]
  exact ⟨fun e=>encC_inj (encB_inj encC_byte encC_byte e),fun e=>by rw [e.1,e.2]⟩
 have hpos:decide ((x.n:Int) > 0)=true:=by
  have hl:=(hx1.rows 0 (s:=x) (cs:=u8C) rfl (by omega)).ln
  have:(encC S1 (B1.map Bx.l)).length ≠ 0:=fun e=>encC_pos (List.eq_nil_of_length_eq_zero e)
  exact decide_eq_true (by omega)
 have hE0:=hs.ext
 clear hs hx1 hy1 hE1 hE2 hb h1 h2 hx
 have E1:Ext h37 h37:=.rfl'
 have E:Ext h37 h37:=.rfl'
 repeat' first
  | (refine ⟨a1,a2,pA _ E,?_⟩)
  | (refine ⟨b1,b2,pB _ E,?_⟩)
  | (refine ⟨Ext.rfl'.sm,?_⟩)
  | (refine ⟨E1.sm,?_⟩)
  | (refine (own17 a1 a2 _).mono ?_; rintro _ _ ⟨rfl,E1⟩; have E:=E.trans E1; refine ⟨a1,a2,rfl,?_⟩)
  | (refine (own17 b1 b2 _).mono ?_; rintro _ _ ⟨rfl,E1⟩; have E:=E.trans E1; refine ⟨b1,b2,rfl,?_⟩)
  | (refine (cx _ E).mono ?_; rintro _ _ ⟨rfl,rfl⟩; refine ⟨_,rfl,?_⟩)
  | (refine (cy _ E).mono ?_; rintro _ _ ⟨rfl,rfl⟩; refine ⟨_,rfl,?_⟩)
  | (refine (q12 _ E).mono ?_; rintro _ _ ⟨⟨c,rfl,hc⟩,E1⟩; have E:=E.trans E1; refine ⟨c,rfl,?_⟩)
  | (refine (q11 _ E).mono ?_; rintro _ _ ⟨⟨c,rfl,hc⟩,E1⟩; have E:=E.trans E1; have hc:=hc.2 ⟨rfl,rfl⟩; subst hc; refine ⟨true,rfl,?_⟩)
  | (exact ⟨by rw [hpos],hE0.trans E⟩)
  | (refine sB_t (hq _ hc) ?_)
  | (refine sB_t rfl ?_)
  | (refine And.intro ?_ ?_)
end Go.VC
end

section
/- What systems of machines, configurations and lists of bytes look like in memory where all that is read is of bulk at most 1048576. -/
namespace Go.VC
open Go.Proofs Go.LexS Go.RowKit Go.ChangeShapes Go.WideShapes Go.Proofs.YtnfkibjnkiojnaaGreatDoor
theorem bulk_pos {H:Type} (d:DataW H):1<=Rows.uptoBulk d:=by
 cases d with
 | lit l=>cases l <;> simp [Rows.uptoBulk]
 | _=>simp [Rows.uptoBulk]
theorem bulk_part {H:Type}:∀ {l:List (DataW H)} {d:DataW H},d ∈ l->Rows.uptoBulk d<=Rows.uptoBulkAll l
 | [],_,h=>by cases h
 | x::r,d,h=>by
  rw [Rows.uptoBulkAll]
  rcases Yr.1 h with rfl | h
  ·
   omega
  ·
   have:=bulk_part h; omega
theorem bulk_len {H:Type}:∀ l:List (DataW H),l.length<=Rows.uptoBulkAll l
 | []=>by simp
 | x::r=>by
  have h1:=bulk_pos x
  have h2:=bulk_len r
  rw [Rows.uptoBulkAll,Yyj]; omega
def Rdb (P:Program) (W:World) (t:TypeId) (cs:List Value):Prop:=
 ∃ (H:Type) (enc:TypeId × Value->H) (n:Nat) (x:DataW H × List MemPlace),DataW.trod enc P W 0 (fun _=>true) true n t cs=some x/\Rows.uptoBulk x.1<=1048576
theorem Rdb.rdt {P:Program} {W:World} {t:TypeId} {cs:List Value} (h:Rdb P W t cs):Rdt P W t cs:=by
 obtain ⟨H,enc,n,x,h1,_⟩:=h; exact ⟨H,enc,n,x,h1⟩
theorem rdb_of_trod {H:Type} {enc:TypeId × Value->H} {P:Program} {W:World} {t:TypeId} {v:Value} {d:DataW H} {p:List MemPlace} (h:DataW.Trod enc P W 0 (fun _=>true) true t v d p) (hw:Rows.uptoBulk d<=1048576):Rdb P W t v.cells.toList:=by
 obtain ⟨n,h⟩:=h
 exact ⟨H,enc,n,_,h,hw⟩
theorem Rdb.field {P:Program} {W:World} {t ft:TypeId} {cs:List Value} {i off:Nat} (h:Rdb P W t cs) (hf:fieldAt P t i=some (ft,off)):Rdb P W ft ((cs.drop off).take (P.cellsOf ft)):=by
 unfold fieldAt at hf
 split at hf
 ·
  rename_i fs hu
  obtain ⟨f,h1,h2⟩:=Yya.1 hf
  cases h2
  obtain ⟨H,enc,n,x,h,hw⟩:=h
  obtain ⟨xs,m,_,hx,hl,hxl,hfi⟩:=DataW.trod_struct hu h
  have hlt:i<xs.length:=by rw [hxl]; exact (Yyg.1 h1).1
  refine ⟨H,enc,m,xs[i],by rw [hfi i f h1,Yi hlt],?_⟩
  rw [hx,Rows.uptoBulk] at hw
  have:=bulk_part (l:=xs.map (·.1)) (d:=xs[i].1) (Yp.2 ⟨xs[i],List.getElem_mem hlt,rfl⟩)
  omega
 ·
  cases hf
theorem Rdb.rows {P:Program} {W:World} {t e:TypeId} {cs:List Value} (ht:P.underlying t=some (.slice e)) (h:Rdb P W t cs) (hpos:0<P.cellsOf e) :
  ∃ (s:Sl) (rows:List (List Value)),cs=[.slice s.a s.n s.c]/\s.n<=s.c/\s.n<=1048576/\(s.a=none->s.n=0/\s.c=0)/\Rw W.heap (P.cellsOf e) s rows/\∀ r ∈ rows,r.length=P.cellsOf e/\Rdb P W e r:=by
 obtain ⟨H,enc,n,x,h,hw⟩:=h
 rcases DataW.trod_slice ht h with ⟨rfl,_⟩ | ⟨a,len,cap,elems,rest,m,_,rfl,hx,_,hlc,hcm,hel,helem,_,_⟩
 ·
  exact ⟨⟨none,0,0⟩,[],rfl,Yyt _,Nat.zero_le _,fun _=>⟨rfl,rfl⟩,Rw.nil,fun r hr=>by cases hr⟩
 ·
  rw [hx,Rows.uptoBulk] at hw
  have hle:len<=1048576:=by
   have:=bulk_len (elems.map (·.1))
   rw [Yc] at this; omega
  have hwe:∀ (i:Nat) (hi:i<elems.length),Rows.uptoBulk elems[i].1<=1048576:=fun i hi=>by
   have:=bulk_part (l:=elems.map (·.1)) (d:=elems[i].1) (Yp.2 ⟨elems[i],List.getElem_mem hi,rfl⟩)
   omega
  by_cases h0:len=0
  ·
   subst h0
   exact ⟨⟨some a,0,cap⟩,[],rfl,hlc,hle,fun e=>(by cases e),Rw.empty rfl,fun r hr=>by cases hr⟩
  ·
   have hrow:∀ i,i<len->∃ r,W.cells? 0 (a.add (i*P.cellsOf e)) (P.cellsOf e)=some r/\Rdb P W e r:=by
    intro i hi
    have h1:=helem i hi
    rw [Yi (by omega)] at h1
    obtain ⟨r,hr,hx2⟩:=Option.bind_eq_some_iff.1 h1
    exact ⟨r,hr,H,enc,m,_,hx2,hwe i (by omega)⟩
   let row:Nat->List Value:=fun i=>(W.cells? 0 (a.add (i*P.cellsOf e)) (P.cellsOf e)).getD []
   have hrow':∀ i,i<len->W.cells? 0 (a.add (i*P.cellsOf e)) (P.cellsOf e)=some (row i)/\Rdb P W e (row i):=fun i hi=>by
    obtain ⟨r,hr,hx⟩:=hrow i hi
    have:row i=r:=by show (W.cells? 0 _ _).getD []=r; rw [hr]; rfl
    rw [this]; exact ⟨hr,hx⟩
   have hget:∀ i,i<len->((List.range len).map row)[i]?=some (row i):=fun i hi=>by
    rw [Yd,Yyb hi]; rfl
   have hspot:a=⟨a.block,a.off,none⟩:=by
    have hc:=(cells_at (hrow' 0 (by omega)).1)
    have hl0:0<(row 0).length:=by rw [hc.1]; exact hpos
    have:=hc.2 0 _ (Yi hl0)
    rw [Nat.zero_mul,show (a.add 0).add 0=a from rfl] at this
    unfold World.cell? at this
    split at this
    ·
     split at this
     ·
      cases this
     ·
      rename_i hs
      cases a with
      | mk b o s=>
       cases s with
       | none=>rfl
       | some s=>exact absurd rfl hs
    ·
     cases this
   refine ⟨⟨some a,len,cap⟩,(List.range len).map row,rfl,hlc,hle,fun e=>(by cases e),⟨by simp,fun _=>⟨a.block,a.off,by rw [<- hspot],fun i r hi j v hj=>?_⟩⟩,fun r hr=>?_⟩
   ·
    have hil:i<len:=by have:=(Ya.1 hi).1; simpa using this
    rw [hget i hil] at hi; cases hi
    have h4:=(cells_at (hrow' i hil).1).2 _ _ hj
    rw [hspot] at h4
    have e:((⟨a.block,a.off,none⟩:Addr).add (i*P.cellsOf e)).add j=addk ⟨a.block,a.off+i*P.cellsOf e,none⟩ j:=by
     rw [addk_at,add_n,add_n]
    rw [e] at h4
    exact h4
   ·
    obtain ⟨i,hi,rfl⟩:=Yp.1 hr
    have:=hrow' i (List.mem_range.1 hi)
    exact ⟨(cells_at this.1).1,this.2⟩
theorem Rdb.list {α:Type} {P:Program} {W:World} {t e:TypeId} {k:Nat} {v:Value} {cs:α->List Value} {Q:α->Prop} (ht:P.underlying t=some (.slice e)) (hk:P.cellsOf e=k) (hpos:0<k)
  (ho:∀ r,Rdb P W e r->∃ x,r=cs x/\Q x) (h:Rdb P W t [v]):∃ (s:Sl) (L:List α),v=.slice s.a s.n s.c/\RL W.heap k s cs L/\∀ x ∈ L,Q x:=by
 subst hk
 obtain ⟨s,rows,e1,hc,hm,hna,hrw,hr⟩:=h.rows ht hpos
 have key:∀ rows:List (List Value),(∀ r ∈ rows,r.length=P.cellsOf e/\Rdb P W e r)->∃ L:List α,rows=L.map cs/\∀ x ∈ L,Q x:=by
  intro rows
  induction rows with
  | nil=>intro _; exact ⟨[],rfl,fun x hx=>by cases hx⟩
  | cons r rows ih=>
   intro h
   obtain ⟨x,hx,hq⟩:=ho r (h r (by simp)).2
   obtain ⟨L,hL,hQ⟩:=ih fun y hy=>h y (Yn _ hy)
   exact ⟨x::L,by rw [hx,hL]; rfl,fun y hy=>by rcases Yr.1 hy with rfl | hy; exact hq; exact hQ y hy⟩
 obtain ⟨L,rfl,hQ⟩:=key rows hr
 have hn:=hrw.ln
 exact ⟨s,L,by simpa using e1,⟨hrw,hc,hna,by omega⟩,hQ⟩
theorem v3:Pz.underlying 3=some (.int .i64):=by kernel_rfl
theorem v4b:Pz.underlying 4=some .bool:=by kernel_rfl
theorem cz3:Pz.cellsOf 3=1:=by kernel_rfl
theorem cz4:Pz.cellsOf 4=1:=by kernel_rfl
theorem cz51:Pz.cellsOf 51=1:=by kernel_rfl
theorem cz52:Pz.cellsOf 52=1:=by kernel_rfl
theorem cz53:Pz.cellsOf 53=1:=by kernel_rfl
theorem cz55:Pz.cellsOf 55=6:=by kernel_rfl
theorem cz190:Pz.cellsOf 190=3:=by kernel_rfl
theorem cz108:Pz.cellsOf 108=6:=by kernel_rfl
theorem vs51:Pz.underlying 51=some (.slice 4):=by kernel_rfl
theorem vs52:Pz.underlying 52=some (.slice 108):=by kernel_rfl
theorem vs53:Pz.underlying 53=some (.slice 190):=by kernel_rfl
theorem Rdb.sl {P:Program} {W:World} {t e:TypeId} {cs:List Value} (ht:P.underlying t=some (.slice e)) (h:Rdb P W t cs):∃ s:Sl,cs=[.slice s.a s.n s.c]:=by
 obtain ⟨H,enc,n,x,h,_⟩:=h
 rcases DataW.trod_slice ht h with ⟨rfl,_⟩ | ⟨a,len,cap,elems,rest,m,_,rfl,_⟩
 ·
  exact ⟨⟨none,0,0⟩,rfl⟩
 ·
  exact ⟨⟨some a,len,cap⟩,rfl⟩
theorem open_three {W:World} {t:TypeId} {r:List Value} (hc:Pz.cellsOf t=3) (h0:fieldAt Pz t 0=some (3,0)) (h1:fieldAt Pz t 1=some (3,1)) (h2:fieldAt Pz t 2=some (3,2)) (h:Rdt Pz W t r) :
  ∃ a b c:Int,r=[.int .i64 a,.int .i64 b,.int .i64 c]:=by
 have hl:=h.flen h0
 rw [hc] at hl
 match r,hl with
 | [x0,x1,x2],_=>
  have f0:=h.field h0
  have f1:=h.field h1
  have f2:=h.field h2
  rw [cz3] at f0 f1 f2
  obtain ⟨k0,e0,_⟩:=f0.int v3
  obtain ⟨k1,e1,_⟩:=f1.int v3
  obtain ⟨k2,e2,_⟩:=f2.int v3
  simp only [List.drop_zero,List.take_succ_cons,Yyk,List.drop_succ_cons,List.cons.injEq,and_true] at e0 e1 e2
  subst e0 e1 e2
  exact ⟨k0,k1,k2,rfl⟩
theorem open_boolv {W:World} {r:List Value} (h:Rdb Pz W 4 r):∃ x:Bool,r=bC x/\True:=by
 obtain ⟨k,e⟩:=h.rdt.bool v4b
 exact ⟨k,e,trivial⟩
theorem open_limit {W:World} {r:List Value} (h:Rdb Pz W 190 r):∃ x:To,r=x.cs/\True:=by
 obtain ⟨a,b,c,e⟩:=open_three cz190 (by kernel_rfl) (by kernel_rfl) (by kernel_rfl) h.rdt
 exact ⟨⟨a,b,c⟩,e,trivial⟩
theorem open_move {W:World} {r:List Value} (h:Rdb Pz W 108 r):∃ x:Mv,r=x.cs/\True:=by
 have hl:=h.rdt.flen (i:=0) (ft:=3) (off:=0) (by kernel_rfl)
 rw [cz108] at hl
 match r,hl with
 | [x0,x1,x2,x3,x4,x5],_=>
  have f0:=h.rdt.field (i:=0) (ft:=3) (off:=0) (by kernel_rfl)
  have f1:=h.rdt.field (i:=1) (ft:=4) (off:=1) (by kernel_rfl)
  have f2:=h.rdt.field (i:=2) (ft:=3) (off:=2) (by kernel_rfl)
  have f3:=h.rdt.field (i:=3) (ft:=3) (off:=3) (by kernel_rfl)
  have f4:=h.rdt.field (i:=4) (ft:=3) (off:=4) (by kernel_rfl)
  have f5:=h.rdt.field (i:=5) (ft:=4) (off:=5) (by kernel_rfl)
  rw [cz3] at f0 f2 f3 f4
  rw [cz4] at f1 f5
  obtain ⟨k0,e0,_⟩:=f0.int v3
  obtain ⟨k1,e1⟩:=f1.bool v4b
  obtain ⟨k2,e2,_⟩:=f2.int v3
  obtain ⟨k3,e3,_⟩:=f3.int v3
  obtain ⟨k4,e4,_⟩:=f4.int v3
  obtain ⟨k5,e5⟩:=f5.bool v4b
  simp only [List.drop_zero,List.take_succ_cons,Yyk,List.drop_succ_cons,List.cons.injEq,and_true] at e0 e1 e2 e3 e4 e5
  subst e0 e1 e2 e3 e4 e5
  exact ⟨⟨k0,k1,k2,k3,k4,k5⟩,rfl,trivial⟩
theorem open_machine {W:World} {r:List Value} (h:Rdb Pz W 55 r):∃ (m:Mch) (sf sm sl:Sl),r=mC m sf sm sl/\MI W.heap m sf sm sl:=by
 have hl:=h.rdt.flen (i:=0) (ft:=3) (off:=0) (by kernel_rfl)
 rw [cz55] at hl
 match r,hl with
 | [x0,x1,x2,x3,x4,x5],_=>
  have f0:=h.rdt.field (i:=0) (ft:=3) (off:=0) (by kernel_rfl)
  have f1:=h.rdt.field (i:=1) (ft:=3) (off:=1) (by kernel_rfl)
  have f2:=h.rdt.field (i:=2) (ft:=3) (off:=2) (by kernel_rfl)
  have f3:=h.field (i:=3) (ft:=51) (off:=3) (by kernel_rfl)
  have f4:=h.field (i:=4) (ft:=52) (off:=4) (by kernel_rfl)
  have f5:=h.field (i:=5) (ft:=53) (off:=5) (by kernel_rfl)
  rw [cz3] at f0 f1 f2
  rw [cz51] at f3
  rw [cz52] at f4
  rw [cz53] at f5
  obtain ⟨k0,e0,_⟩:=f0.int v3
  obtain ⟨k1,e1,_⟩:=f1.int v3
  obtain ⟨k2,e2,_⟩:=f2.int v3
  obtain ⟨sf,lf,e3,hf,_⟩:=Rdb.list vs51 cz4 (by omega) (fun r hr=>open_boolv hr) (show Rdb Pz W 51 [x3] from f3)
  obtain ⟨sm,lm,e4,hm,_⟩:=Rdb.list vs52 cz108 (by omega) (fun r hr=>open_move hr) (show Rdb Pz W 52 [x4] from f4)
  obtain ⟨sl,ll,e5,hl,_⟩:=Rdb.list vs53 cz190 (by omega) (fun r hr=>open_limit hr) (show Rdb Pz W 53 [x5] from f5)
  simp only [List.drop_zero,List.take_succ_cons,Yyk,List.drop_succ_cons,List.cons.injEq,and_true] at e0 e1 e2
  subst e0 e1 e2 e3 e4 e5
  exact ⟨⟨k0,k1,k2,lf,lm,ll⟩,sf,sm,sl,rfl,⟨hf,hm,hl⟩⟩
theorem cz5:Pz.cellsOf 5=1:=by kernel_rfl
theorem vs48:Pz.underlying 48=some (.slice 5):=by kernel_rfl
theorem v5u:Pz.underlying 5=some (.int .u8):=by kernel_rfl
theorem vsS22:Pz.underlying 22=some (.slice 55):=by kernel_rfl
theorem vsS23:Pz.underlying 23=some (.slice 3):=by kernel_rfl
theorem vsS24:Pz.underlying 24=some (.slice 23):=by kernel_rfl
theorem czS23:Pz.cellsOf 23=1:=by kernel_rfl
theorem czS24:Pz.cellsOf 24=1:=by kernel_rfl
theorem czS26:Pz.cellsOf 26=2:=by kernel_rfl
theorem open_mr {W:World} {r:List Value} (h:Rdb Pz W 55 r):∃ x:MR,r=x.cs/\MI W.heap x.m x.f x.g x.l:=by
 obtain ⟨m,f,g,l,e,hm⟩:=open_machine h
 exact ⟨⟨m,f,g,l⟩,e,hm⟩
theorem open_sys {W:World} {v:Value} (h:Rdb Pz W 22 [v]):∃ (s:Sl) (L:List MR),v=.slice s.a s.n s.c/\SyI W.heap s L:=by
 obtain ⟨s,L,e,hr,hq⟩:=Rdb.list vsS22 cz55 (by omega) (fun r hr=>open_mr hr) h
 exact ⟨s,L,e,hr,hq⟩
theorem open_u8n {W:World} {r:List Value} (h:Rdb Pz W 5 r):∃ x:Int,r=u8C x/\(0<=x/\x<256):=by
 obtain ⟨n,e,hw⟩:=h.rdt.int v5u
 have h3:(decide (IntKind.u8.min<=n) && decide (n<=IntKind.u8.max))=true:=hw
 rw [Yt] at h3
 have h4:(0:Int)<=n:=Yyn h3.1
 have h5:n<=(255:Int):=Yyn h3.2
 exact ⟨n,e,h4,by omega⟩
theorem open_u8s {W:World} {v:Value} (h:Rdb Pz W 48 [v]):∃ (s:Sl) (L:List Int),v=.slice s.a s.n s.c/\(RL W.heap 1 s u8C L/\∀ n ∈ L,0<=n/\n<256):=by
 obtain ⟨s,L,e,hr,hb⟩:=Rdb.list vs48 cz5 (by omega) (fun r hr=>open_u8n hr) h
 exact ⟨s,L,e,hr,hb⟩
theorem open_intn {W:World} {r:List Value} (h:Rdb Pz W 3 r):∃ x:Int,r=inC x/\I64 x:=by
 obtain ⟨n,e,hw⟩:=h.rdt.int v3
 have h3:(decide (IntKind.i64.min<=n) && decide (n<=IntKind.i64.max))=true:=hw
 rw [Yt] at h3
 have h4:(-9223372036854775808:Int)<=n:=Yyn h3.1
 have h5:n<=(9223372036854775807:Int):=Yyn h3.2
 exact ⟨n,e,h4,h5⟩
theorem open_intl {W:World} {v:Value} (h:Rdb Pz W 23 [v]):∃ (s:Sl) (L:List Int),v=.slice s.a s.n s.c/\(RL W.heap 1 s inC L/\∀ n ∈ L,I64 n):=by
 obtain ⟨s,L,e,hr,hb⟩:=Rdb.list vsS23 cz3 (by omega) (fun r hr=>open_intn hr) h
 exact ⟨s,L,e,hr,hb⟩
theorem open_box {W:World} {r:List Value} (h:Rdb Pz W 23 r):∃ q:Bx,r=q.cs/\(RL W.heap 1 q.s inC q.l/\∀ n ∈ q.l,I64 n):=by
 obtain ⟨s,rfl⟩:=Rdb.sl vsS23 h
 obtain ⟨s',L,e,hr⟩:=open_intl h
 exact ⟨⟨s',L⟩,by rw [e]; rfl,hr⟩
def CfB (h:Heap) (ss sb:Sl) (S:List Int) (B:List Bx):Prop:=CfI h ss sb S B/\(∀ x ∈ S,I64 x)/\∀ q ∈ B.map Bx.l,∀ x ∈ q,I64 x
theorem open_config {W:World} {r:List Value} (h:Rdb Pz W 26 r):∃ (ss sb:Sl) (S:List Int) (B:List Bx),r=[.slice ss.a ss.n ss.c,.slice sb.a sb.n sb.c]/\CfB W.heap ss sb S B:=by
 have hl:=h.rdt.flen (i:=0) (ft:=23) (off:=0) (by kernel_rfl)
 rw [czS26] at hl
 match r,hl with
 | [x0,x1],_=>
  have f0:=h.field (i:=0) (ft:=23) (off:=0) (by kernel_rfl)
  have f1:=h.field (i:=1) (ft:=24) (off:=1) (by kernel_rfl)
  rw [czS23] at f0
  rw [czS24] at f1
  obtain ⟨ss,S,e0,hS,hS2⟩:=open_intl (show Rdb Pz W 23 [x0] from f0)
  obtain ⟨sb,B,e1,hB,hB2⟩:=Rdb.list vsS24 czS23 (by omega) (fun r hr=>open_box hr) (show Rdb Pz W 24 [x1] from f1)
  subst e0 e1
  refine ⟨ss,sb,S,B,rfl,⟨hS,hB,fun q hq=>(hB2 q hq).1⟩,hS2,fun q hq=>?_⟩
  obtain ⟨y,hy,rfl⟩:=Yp.1 hq
  exact (hB2 y hy).2
end Go.VC
end
