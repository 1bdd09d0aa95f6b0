/- KwAf KwVcR KwAg KeL0 KeL KeM KwVeD KeN0 KeN KwVeE. -/
import Derived.Test.YtknallccojglcaaGreatDoorM26
set_option linter.unusedVariables false
set_option linter.unusedSimpArgs false
set_option maxRecDepth 100000

section
namespace Go.VC
open Go.Proofs Go.LexS
def zigN (n:Int):Nat:=if 0<=n then (2*n).toNat else (-2*n-1).toNat
theorem zig_inj {a b:Int} (h:zigN a=zigN b):a=b:=by
 unfold zigN at h;split at h<;>split at h<;>omega
theorem zig_lt {n:Int} (h0:-9223372036854775808<=n) (h1:n<=9223372036854775807):zigN n<18446744073709551616:=by
 unfold zigN;split<;>omega
def venc (u:Nat):List Int:=if h:u<128 then [(u:Int)] else ((u%128+128:Nat):Int)::venc (u/128)
termination_by u
decreasing_by omega
theorem venc_lt {u:Nat} (h:u<128):venc u=[(u:Int)]:=by rw[venc,dif_pos h]
theorem venc_ge {u:Nat} (h:¬u<128):venc u=((u%128+128:Nat):Int)::venc (u/128):=by rw[venc,dif_neg h]
theorem venc_inj:∀(u v:Nat) (r s:List Int),venc u++r=venc v++s->u=v/\r=s:=by
 intro u
 induction u using Nat.strongRecOn with
 | ind u ih=>
  intro v r s h;by_cases hu:u<128
  ·rw[venc_lt hu] at h;by_cases hv:v<128
   ·rw[venc_lt hv,List.cons_append,List.cons_append,List.nil_append,List.nil_append] at h;injection h with h1 h2;exact⟨by omega,h2⟩
   ·rw[venc_ge hv,List.cons_append,List.cons_append] at h;injection h with h1 h2;omega
  ·rw[venc_ge hu] at h;by_cases hv:v<128
   ·rw[venc_lt hv,List.cons_append,List.cons_append] at h;injection h with h1 h2;omega
   ·rw[venc_ge hv,List.cons_append,List.cons_append] at h;injection h with h1 h2;obtain⟨h3,h4⟩:=ih (u/128) (by omega) _ _ _ h2;exact⟨by omega,h4⟩
theorem venc_len:∀(k u:Nat),u<128^(k+1)->(venc u).length<=k+1
 | 0,u,h=>by rw[venc_lt (by simpa using h)];exact Yyt _
 | k+1,u,h=>by
  by_cases hu:u<128
  ·rw[venc_lt hu];simp
  ·rw[venc_ge hu,Yyj];have:=venc_len k (u/128) (by rw[Nat.div_lt_iff_lt_mul (by decide)];rw[Nat.pow_succ] at h;exact h);omega
theorem venc_byte:∀(u:Nat),∀x∈venc u,0<=x/\x<256:=by
 intro u
 induction u using Nat.strongRecOn with
 | ind u ih=>
  intro x hx;by_cases hu:u<128
  ·rw[venc_lt hu,Ye] at hx;omega
  ·rw[venc_ge hu,Yr] at hx;rcases hx with rfl | hx
   ·omega
   ·exact ih (u/128) (by omega) x hx
def I64 (n:Int):Prop:=-9223372036854775808<=n/\n<=9223372036854775807
def encI (n:Int):List Int:=venc (zigN n)
theorem encI_len {n:Int} (h:I64 n):(encI n).length<=10:=venc_len 9 _ (Nat.lt_of_lt_of_le (zig_lt h.1 h.2) (by decide))
theorem encI_byte {n:Int}:∀x∈encI n,0<=x/\x<256:=venc_byte _
theorem encI_inj {a b:Int} {r s:List Int} (h:encI a++r=encI b++s):a=b/\r=s:=by
 obtain⟨h1,h2⟩:=venc_inj _ _ _ _ h;exact⟨zig_inj h1,h2⟩
def encL (X:List Int):List Int:=encI X.length++X.flatMap encI
theorem flat_inj {α:Type} {f:α->List Int} (hf:∀a b r s,f a++r=f b++s->a=b/\r=s):∀(X Y:List α) (r s:List Int),X.length=Y.length->X.flatMap f++r=Y.flatMap f++s->X=Y/\r=s
 | [],[],r,s,_,h=>⟨rfl,h⟩
 | a::X,b::Y,r,s,hl,h=>by
  rw[List.flatMap_cons,List.flatMap_cons,Yz,Yz] at h;obtain⟨h1,h2⟩:=hf _ _ _ _ h;obtain⟨h3,h4⟩:=flat_inj hf X Y r s (Nat.succ.inj hl) h2;exact⟨by rw[h1,h3],h4⟩
 | [],b::Y,r,s,hl,h=>by cases hl
 | a::X,[],r,s,hl,h=>by cases hl
theorem encL_inj {X Y:List Int} {r s:List Int} (h:encL X++r=encL Y++s):X=Y/\r=s:=by
 unfold encL at h;rw[Yz,Yz] at h;obtain⟨h1,h2⟩:=encI_inj h;exact flat_inj (fun _ _ _ _=>encI_inj) X Y r s (by omega) h2
theorem flat_len {α:Type} {f:α->List Int} {c:Nat}:∀(X:List α),(∀a∈X,(f a).length<=c)->(X.flatMap f).length<=X.length*c
 | [],_=>Nat.zero_le _
 | a::X,h=>by
  rw[List.flatMap_cons,Yh,Yyj,Nat.succ_mul];have h1:=h a Yx;have h2:=flat_len X fun b hb=>h b (Yn _ hb);omega
theorem flat_byte {α:Type} {f:α->List Int} (hf:∀a,∀x∈f a,0<=x/\x<256) (X:List α):∀x∈X.flatMap f,0<=x/\x<256:=fun x hx=>by
 obtain⟨a,_,h⟩:=List.mem_flatMap.1 hx;exact hf a x h
theorem encL_byte {X:List Int}:∀x∈encL X,0<=x/\x<256:=fun x hx=>by
 unfold encL at hx;rcases Yk.1 hx with h | h
 ·exact encI_byte x h
 ·exact flat_byte (fun _=>encI_byte) X x h
theorem encL_len {X:List Int} (hX:∀x∈X,I64 x) (hl:X.length<=9223372036854775807):(encL X).length<=10+X.length*10:=by
 unfold encL;rw[Yh];have h1:=encI_len (n:=(X.length:Int)) ⟨by omega,by omega⟩;have h2:=flat_len (f:=encI) (c:=10) X fun a ha=>encI_len (hX a ha);omega
def encC (S:List Int) (BL:List (List Int)):List Int:=encL S++(encI BL.length++BL.flatMap encL)
theorem encC_inj {S S':List Int} {BL BL':List (List Int)} (h:encC S BL=encC S' BL'):S=S'/\BL=BL':=by
 unfold encC at h;obtain⟨h1,h2⟩:=encL_inj h;obtain⟨h3,h4⟩:=encI_inj h2;have h5:=flat_inj (f:=encL) (fun _ _ _ _=>encL_inj) BL BL' [] [] (by omega) (by rw[Yw,Yw];exact h4);exact⟨h1,h5.1⟩
theorem encC_byte {S:List Int} {BL:List (List Int)}:∀x∈encC S BL,0<=x/\x<256:=fun x hx=>by
 unfold encC at hx;rcases Yk.1 hx with h | h
 ·exact encL_byte x h
 ·rcases Yk.1 h with h | h
  ·exact encI_byte x h
  ·exact flat_byte (fun _=>encL_byte) BL x h
/-! ### What the words of bits are -/
theorem zig_bits {n:Int} (h:I64 n):xorI .u64 (shlI .u64 (IntKind.wrap .u64 n) 1) (IntKind.wrap .u64 (shrI .i64 n 63))=(zigN n:Int):=by
 obtain⟨h0,h1⟩:=h;have e63:min (Int.toNat 63) (IntKind.bits .i64)=63:=by decide
 have e1:min (Int.toNat 1) (IntKind.bits .u64)=1:=by decide
 have es:shrI .i64 n 63=n/9223372036854775808:=by
  unfold shrI;rw[e63,Int.fdiv_eq_ediv_of_nonneg _ (by decide)];rfl
 have ex:∀a b:Nat,a<2^64->b<2^64->xorI .u64 (a:Int) (b:Int)=((a ^^^ b:Nat):Int):=fun a b ha hb=>by
  unfold xorI;have e:(BitVec.ofInt (IntKind.bits .u64) (a:Int) ^^^ BitVec.ofInt (IntKind.bits .u64) (b:Int)).toNat=a ^^^ b:=by
   show (BitVec.ofInt 64 (a:Int) ^^^ BitVec.ofInt 64 (b:Int)).toNat=_;rw[BitVec.ofInt_natCast,BitVec.ofInt_natCast,BitVec.toNat_xor,BitVec.toNat_ofNat,BitVec.toNat_ofNat,Nat.mod_eq_of_lt ha,Nat.mod_eq_of_lt hb]
  rw[e];have:=Nat.xor_lt_two_pow ha hb;exact wu64 (by omega) (by omega)
 rw[es];unfold shlI;rw[e1];by_cases hn:0<=n
 ·have ez:n/9223372036854775808=0:=by omega
  rw[ez,wu64 (n:=n) hn (by omega),show n*2^1=2*n by omega,wu64 (n:=2*n) (by omega) (by omega),wu64 (n:=0) (by decide) (by decide)];obtain⟨m,rfl⟩:∃m:Nat,n=(m:Int):=⟨n.toNat,by omega⟩;rw[show (2:Int)*(m:Int)=((2*m:Nat):Int) by omega];have:=ex (2*m) 0 (by omega) (by decide);rw[Nat.xor_zero] at this;unfold zigN;rw[if_pos hn];refine this.trans ?_;omega
 ·have ez:n/9223372036854775808=-1:=by omega
  have ew:IntKind.wrap .u64 n=n+18446744073709551616:=by
   simp[IntKind.wrap,IntKind.signed,IntKind.bits];omega
  have ew2:IntKind.wrap .u64 ((n+18446744073709551616)*2^1)=2*n+18446744073709551616:=by
   simp[IntKind.wrap,IntKind.signed,IntKind.bits];omega
  have ew3:IntKind.wrap .u64 (-1)=((18446744073709551615:Nat):Int):=by decide
  rw[ez,ew,ew2,ew3];obtain⟨m,hm⟩:∃m:Nat,2*n+18446744073709551616=(m:Int):=⟨(2*n+18446744073709551616).toNat,by omega⟩;rw[hm,ex m 18446744073709551615 (by omega) (by decide)];have hx:m ^^^ 18446744073709551615=18446744073709551615-m:=by
   have h2:(BitVec.ofNat 64 m ^^^ BitVec.allOnes 64).toNat=(~~~ (BitVec.ofNat 64 m)).toNat:=by rw[BitVec.xor_allOnes]
   rw[BitVec.toNat_xor,BitVec.toNat_not,BitVec.toNat_allOnes,BitVec.toNat_ofNat,Nat.mod_eq_of_lt (show m<2^64 by omega)] at h2;exact h2
  rw[hx];unfold zigN;rw[if_neg hn];omega
theorem or128 {b:Nat} (h:b<256):b|||128=b%128+128:=by
 have key:∀b<256,b|||128=b%128+128:=by decide
 exact key b h
theorem or_bits {u:Nat}:orI .u8 (IntKind.wrap .u8 (u:Int)) 128=((u%128+128:Nat):Int):=by
 have ew:IntKind.wrap .u8 (u:Int)=((u%256:Nat):Int):=by
  simp[IntKind.wrap,IntKind.signed,IntKind.bits]
 rw[ew];unfold orI;have e:(BitVec.ofInt (IntKind.bits .u8) ((u%256:Nat):Int)|||BitVec.ofInt (IntKind.bits .u8) 128).toNat=u%128+128:=by
  show (BitVec.ofInt 8 ((u%256:Nat):Int)|||BitVec.ofInt 8 ((128:Nat):Int)).toNat=_;rw[BitVec.ofInt_natCast,BitVec.ofInt_natCast,BitVec.toNat_or,BitVec.toNat_ofNat,BitVec.toNat_ofNat,Nat.mod_eq_of_lt (show u%256<2^8 by omega),Nat.mod_eq_of_lt (show 128<2^8 by decide),or128 (by omega)];omega
 rw[e];exact wu8 (by omega) (by omega)
theorem shr7 {u:Nat}:shrI .u64 (u:Int) 7=((u/128:Nat):Int):=by
 have:=shr_nat (w:=u) (k:=7) (by decide);exact this
end Go.VC
end

section
namespace Go.VC
open Go.Proofs
variable {h:Heap} {R:Value->Heap->Prop}

def W67 (p0:Sl) (p1:Int):Prop:=
 0<=(1:Int)/\0<=(63:Int)/\QSI p0 (xorI .u64 (shlI .u64 (IntKind.wrap .u64 p1) 1) (IntKind.wrap .u64 (shrI .i64 p1 63))) h fun I1 b_4 u_5 h6 m3=>
 sB (decide (u_5>=128))
 (Wn h6 [.int .u8 (orI .u8 (IntKind.wrap .u8 u_5) 128)] 5 fun h7=>
 App Pz 60 60 (vS b_4) (.slice (some (aS h6 0)) 1 1) h7 fun s8 h9=>
 0<=(7:Int)/\∃m10,m10<m3/\I1 s8 (shrI .u64 u_5 7) h9 m10)
 (Wn h6 [.int .u8 (IntKind.wrap .u8 u_5)] 5 fun h11=>
 App Pz 60 60 (vS b_4) (.slice (some (aS h6 0)) 1 1) h11 fun s12 h13=>
 R (vS s12) h13)
theorem vc67 (p0:Sl) (p1:Int) (H:@W67 h R p0 p1):Fn Pz 67 #[vS p0,vI p1] h R:=fnI (A:=(.s .z (.s .z (.s (.b (.l [(0,.one (.slice)),(5,.one (.int .u64))] .z)) .z)))) (by kernel_rfl) H

def W68 (p0 p1:Sl):Prop:=
 Fn Pz 67 #[vS p0,vI (p1.n:Int)] h
 (fun v1 h3=>∃x2,iS v1 x2 /\
 QSI x2 0 h3 fun I4 b_7 x_8 h9 m6=>
 sB (decide (x_8<(p1.n:Int)))
 (NB p1.a fun b10 o11=>Ib x_8 p1.n /\
 ∃x12,rI h9 ⟨b10,o11+Int.toNat x_8*1,none⟩ x12 /\
 Fn Pz 67 #[vS b_7,vI x12] h9
 (fun v13 h15=>∃x14,iS v13 x14 /\
 ∃m16,m16<m6/\I4 x14 (IntKind.wrap .i64 (x_8+1)) h15 m16))
 (R (vS b_7) h9))
theorem vc68 (p0 p1:Sl) (H:@W68 h R p0 p1):Fn Pz 68 #[vS p0,vS p1] h R:=fnI (A:=(.s .z (.s .z (.s (.s .z (.b (.l [(0,.one (.slice)),(13,.one (.int .i64))] .z))) .z)))) (by kernel_rfl) H

def W33 (p0_1 p0_2:Sl):Prop:=
 Wn h [vS p0_1,vS p0_2] 50 fun h3=>
 ∃x4,rS h3 (aS h 0) x4 /\
 ∃x5,rS h3 (aS h 1) x5 /\
 Fn Pz 68 #[.slice none 0 0,vS x4] h3
 (fun v6 h8=>∃x7,iS v6 x7 /\
 Sm [(aS h 1)] h3 h8 /\
 Fn Pz 67 #[vS x7,vI (x5.n:Int)] h8
 (fun v9 h11=>∃x10,iS v9 x10 /\
 ∃x12,rS h11 (aS h 1) x12 /\
 QSI x10 0 h11 fun I13 b_16 x_17 h18 m15=>
 sB (decide (x_17<(x12.n:Int)))
 (NB x12.a fun b19 o20=>Ib x_17 x12.n /\
 ∃x21,rS h18 ⟨b19,o20+Int.toNat x_17*1,none⟩ x21 /\
 Fn Pz 68 #[vS b_16,vS x21] h18
 (fun v22 h24=>∃x23,iS v22 x23 /\
 ∃m25,m25<m15/\I13 x23 (IntKind.wrap .i64 (x_17+1)) h24 m25))
 (R (vS b_16) h18)))
theorem vc33 (p0_1 p0_2:Sl) (H:@W33 h R p0_1 p0_2):Fn Pz 33 #[.agg ⟨[vS p0_1,vS p0_2]⟩] h R:=fnI (A:=(.s .z (.s .z (.s (.s .z (.b (.l [(3,.one (.slice)),(16,.one (.int .i64))] .z))) .z)))) (by kernel_rfl) H

end Go.VC
end

section
namespace Go.VC
open Go.Proofs Go.LexS
theorem app48:appB Pz 60 5 1 1=true:=by kernel_rfl
set_option maxHeartbeats 800000 in
theorem int65 (b:Sl) (xs:List Int) (n:Int) (h0 h:Heap) (L:List It) (hs:St h0 h (.sl b 5 1 (xs.map u8C)::L)) (hn:I64 n) (hl:xs.length<=100000000) :
  Fn Pz 67 #[.slice b.a b.n b.c,.int .i64 n] h fun v h'=>∃b':Sl,v=.slice b'.a b'.n b'.c/\St h0 h' (.sl b' 5 1 ((xs++encI n).map u8C)::L):=by
 apply vc67 b n;unfold W67;rw[zig_bits hn];refine⟨by decide,by decide,?_⟩;have hz:=zig_lt hn.1 hn.2;refine⟨fun b u h' μ=>∃(v:Nat) (pre:List Int),u=(v:Int)/\μ=v/\v<18446744073709551616/\pre++venc v=encI n/\St h0 h' (.sl b 5 1 ((xs++pre).map u8C)::L),⟨_,zigN n,[],rfl,rfl,hz,rfl,by rw[Yw];exact hs⟩,?_⟩;clear hs;rintro-b2 _ h6 μ ⟨v,pre,rfl,hμ,hv,he,hs⟩;have hlen:=(hs.rows 0 (s:=b2) (cs:=u8C) rfl (by omega)).ln;have hpl:pre.length<=10:=by
  have h1:=congrArg List.length he;rw[Yh] at h1;have h2:=encI_len hn;omega
 rw[Yh] at hlen;refine sBi (fun c=>?_) (fun c=>?_)
 ·have hv1:¬v<128:=by omega
  rw[venc_ge hv1] at he;rw[or_bits];refine hs.app 0 (s:=b2) (rows:=(xs++pre).map u8C) rfl app48 (m:=1) [[.int .u8 ((v%128+128:Nat):Int)]] rfl rfl (by simp) rfl (by omega) (by simp only[maxLen];omega) fun s8 h9 ns hs=>?_;refine⟨by decide,v/128,by omega,v/128,pre++[((v%128+128:Nat):Int)],shr7,rfl,by omega,by rw[Yz];exact he,?_⟩;rw[<-Yz,Ym];exact hs
 ·have hv1:v<128:=by omega
  rw[venc_lt hv1] at he;rw[wu8 (n:=(v:Int)) (by omega) (by omega)];refine hs.app 0 (s:=b2) (rows:=(xs++pre).map u8C) rfl app48 (m:=1) [[.int .u8 (v:Int)]] rfl rfl (by simp) rfl (by omega) (by simp only[maxLen];omega) fun s12 h13 ns hs=>?_;refine⟨s12,rfl,?_⟩;rw[<-he,<-Yz,Ym];exact hs
set_option maxHeartbeats 800000 in
theorem ints66 (b:Sl) (xs X:List Int) (p1:Sl) (h0 h:Heap) (L:List It) (hs:St h0 h (.sl b 5 1 (xs.map u8C)::L)) (hX:RL h0 1 p1 inC X) (hI:∀x∈X,I64 x) (hl:xs.length<=50000000) (hXl:X.length<=1000000) :
  Fn Pz 68 #[.slice b.a b.n b.c,.slice p1.a p1.n p1.c] h fun v h'=>∃b':Sl,v=.slice b'.a b'.n b'.c/\St h0 h' (.sl b' 5 1 ((xs++encL X).map u8C)::L):=by
 apply vc68 b p1;unfold W68;have hn:=hX.ln;have hI0:I64 (p1.n:Int):=⟨by omega,by omega⟩;refine (int65 b xs (p1.n:Int) h0 h L hs hI0 (by omega)).mono ?_;rintro _ h3 ⟨b1,rfl,hs⟩;refine⟨b1,rfl,?_⟩;refine⟨fun b x h' μ=>∃i:Nat,x=(i:Int)/\μ=X.length-i/\i<=X.length/\St h0 h' (.sl b 5 1 ((xs++encI (p1.n:Int)++(X.take i).flatMap encI).map u8C)::L),⟨_,0,rfl,rfl,Nat.zero_le _,by rw[Yyk,List.flatMap_nil,Yw];exact hs⟩,?_⟩;clear hs;rintro-b2 _ h9 μ ⟨i,rfl,rfl,hi,hs⟩;refine sBi (fun c=>?_) (fun c=>?_)
 ·refine (hX.rw.ext hs.ext).nbI (by omega) (by omega) fun b10 o11 x gx t=>?_;replace gx:X[i]?=some x:=gx;refine⟨x,t.hd,?_⟩;have hfl:=flat_len (f:=encI) (c:=10) (X.take i) fun a ha=>encI_len (hI a (List.mem_of_mem_take ha));have h1:=encI_len hI0;have h2:(X.take i).length<=1000000:=by rw[Yu];omega
  refine (int65 b2 _ x h0 h9 L hs (hI x (Yb gx)) (by rw[Yh,Yh];omega)).mono ?_;rintro _ h15 ⟨b3,rfl,hs⟩;refine⟨b3,rfl,_,(show X.length-(i+1)<X.length-i by omega),i+1,by rw[w64 (by omega) (by omega)];omega,rfl,by omega,?_⟩;rw[take_snoc gx,List.flatMap_append,List.flatMap_cons,List.flatMap_nil,Yw,<-Yz];exact hs
 ·have hie:i=X.length:=by omega
  subst hie;rw[Yye] at hs;refine⟨b2,rfl,?_⟩;unfold encL;rw[<-hn,<-Yz];exact hs
structure EncOk (S:List Int) (BL:List (List Int)):Prop where
 s:∀x∈S,I64 x
 b:∀q∈BL,q.length<=1000/\∀x∈q,I64 x
 n:S.length<=1000/\BL.length<=1000
theorem EncOk.fl {S:List Int} {BL:List (List Int)} (h:EncOk S BL) (i:Nat):((BL.take i).flatMap encL).length<=10010000:=by
 have h1:=flat_len (f:=encL) (c:=10010) (BL.take i) fun q hq=>by
  obtain⟨h2,h3⟩:=h.b q (List.mem_of_mem_take hq);have:=encL_len h3 (by omega);omega
 have h2:(BL.take i).length<=1000:=by rw[Yu];have:=h.n.2;omega
 omega
set_option maxHeartbeats 800000 in
theorem encode35 (ss sb:Sl) (S:List Int) (B:List Bx) (h:Heap) (hC:CfI h ss sb S B) (hE:EncOk S (B.map Bx.l)) :
  Fn Pz 33 #[.agg ⟨[.slice ss.a ss.n ss.c,.slice sb.a sb.n sb.c]⟩] h fun v h'=>∃b:Sl,v=.slice b.a b.n b.c/\St h h' [.sl b 5 1 ((encC S (B.map Bx.l)).map u8C)]:=by
 apply vc33 ss sb;unfold W33;have hbn:=hC.b.ln;have hbm:(B.map Bx.l).length=B.length:=Yc _;obtain⟨hE1,hE2⟩:=hE.n;rw[hbm] at hE2;have hI0:I64 (sb.n:Int):=⟨by omega,by omega⟩;refine (St.refl h).newb fun h3 hs=>?_;refine⟨ss,hs.rd 0 rfl rfl,sb,hs.rd 0 rfl (i:=1) rfl,?_⟩;have hs3:=hs;have hs:St h h3 (.sl ⟨none,0,0⟩ 5 1 (([]:List Int).map u8C)::_):=hs.nil_ 5 1;refine (ints66 ⟨none,0,0⟩ [] S ss h h3 _ hs hC.s hE.s (by simp) (by omega)).mono ?_;rintro _ h8 ⟨b1,rfl,hs⟩;rw[List.nil_append] at hs;have hel:=encL_len hE.s (by omega);have hi0:=encI_len hI0;refine⟨b1,rfl,hs3.smbO hs 0 1 1 rfl rfl,?_⟩;refine (int65 b1 _ (sb.n:Int) h h8 _ hs hI0 (by omega)).mono ?_;rintro _ h11 ⟨b2,rfl,hs⟩;refine⟨b2,rfl,sb,hs.rd 1 rfl (i:=1) rfl,?_⟩;refine⟨fun b x h' μ=>∃i:Nat,x=(i:Int)/\μ=B.length-i/\i<=B.length/\St h h' [.sl b 5 1 ((encL S++encI (sb.n:Int)++((B.map Bx.l).take i).flatMap encL).map u8C),.blk h.size [.slice ss.a ss.n ss.c,.slice sb.a sb.n sb.c] 50],⟨_,0,rfl,rfl,Nat.zero_le _,by rw[Yyk,List.flatMap_nil,Yw];exact hs⟩,?_⟩;clear hs hs3;rintro-b3 _ h18 μ ⟨i,rfl,rfl,hi,hs⟩;refine sBi (fun c=>?_) (fun c=>?_)
 ·refine (hC.b.rw.ext hs.ext).nbI (by omega) (by omega) fun b19 o20 q gq t=>?_;replace gq:B[i]?=some q:=gq;have gq1:(B.map Bx.l)[i]?=some q.l:=by rw[Yd,gq];rfl
  obtain⟨hq1,hq2⟩:=hE.b q.l (Yb gq1);have hfl:=hE.fl i;refine⟨q.s,t.hd,?_⟩;refine (ints66 b3 _ q.l q.s h h18 _ hs (hC.i q (Yb gq)) hq2 (by rw[Yh,Yh];omega) (by omega)).mono ?_;rintro _ h24 ⟨b4,rfl,hs⟩;refine⟨b4,rfl,_,(show B.length-(i+1)<B.length-i by omega),i+1,by rw[w64 (by omega) (by omega)];omega,rfl,by omega,?_⟩;rw[take_snoc gq1,List.flatMap_append,List.flatMap_cons,List.flatMap_nil,Yw,<-Yz];exact hs
 ·have hie:i=(B.map Bx.l).length:=by omega
  rw[hie,Yye] at hs;refine⟨b3,rfl,?_⟩;unfold encC;rw[hbm,<-hbn,<-Yz];exact hs.sub (.cons_cons _ (List.nil_sublist _))
end Go.VC
end

section
namespace Go.VC
open Go.Proofs Go.LexS Go.Maps
abbrev Cf:=List Int × List (List Int)
abbrev Qe:=Cf × List (Nat × Nat)
def nxS (L:List Mch) (c:Cf) (q:Nat × Nat):Cf:=match L[q.1]? with
 | some m=>match m.mv[q.2]? with
  | some x=>(c.1.set q.1 x.t,doB L.length q.1 x c.2)
  | none=>c
 | none=>c
def exI (L:List Mch) (lim:Nat) (e:Qe):List (Nat × Nat)->List Qe->Option (List Qe)
 | [],Q=>some Q
 | q::r,Q=>if nxS L e.1 q∈Q.map Prod.fst then exI L lim e r Q else if Q.length=lim then none else exI L lim e r (Q++[(nxS L e.1 q,e.2++[q])])
inductive Res
 | bad (k:Int) (t:List (Nat × Nat))
 | unk
 | safe (Q:List Cf)
noncomputable def exO (L:List Mch) (k:Int) (lim:Nat):Nat->Nat->List Qe->Res
 | 0,_,Q=>.safe (Q.map Prod.fst)
 | f+1,i,Q=>match Q[i]? with
  | none=>.safe (Q.map Prod.fst)
  | some e=>if badS L k e.1.1 e.1.2≠0 then .bad (badS L k e.1.1 e.1.2) e.2 else match exI L lim e (stepsS L k e.1.1 e.1.2) Q with
   | none=>.unk
   | some Q'=>exO L k lim f (i+1) Q'
def q0 (L:List Mch):List Qe:=[((startS L,startB L),[])]
noncomputable def exS (L:List Mch) (k:Int) (lim:Nat):Res:=exO L k lim (lim+1) 0 (q0 L)
def mostS (n:Nat) (Q:List Cf):List Int:=Q.foldl (fun a c=>a.mapIdx fun i x=>imax x ((c.2.getD i []).length:Int)) (List.replicate (n*n) 0)
theorem nxS_of {L:List Mch} {c:Cf} {a b:Nat} {m:Mch} {x:Mv} (gm:L[a]?=some m) (gx:m.mv[b]?=some x):nxS L c (a,b)=(c.1.set a x.t,doB L.length a x c.2):=by
 unfold nxS;rw[gm];dsimp only;rw[gx]
def toB (l:List Int):List UInt8:=l.map fun x=>UInt8.ofNat x.toNat
theorem toB_c {l:List Int} (h:∀x∈l,0<=x/\x<256):(l.map u8C).flatten=byteC (toB l):=by
 induction l with
 | nil=>rfl
 | cons x r ih=>
  have hx:=h x Yx;rw[Yyl,Yyu,ih fun y hy=>h y (Yn _ hy)];show [Value.int .u8 x]++byteC (toB r)=Value.int .u8 ((UInt8.ofNat x.toNat).toNat:Int)::byteC (toB r);rw[UInt8.toNat_ofNat',Nat.mod_eq_of_lt (by omega),Int.toNat_of_nonneg hx.1];rfl
theorem toB_inj {l l':List Int} (h:∀x∈l,0<=x/\x<256) (h':∀x∈l',0<=x/\x<256) (e:toB l=toB l'):l=l':=by
 have back:∀ {l:List Int},(∀x∈l,0<=x/\x<256)->(toB l).map (fun b=>(b.toNat:Int))=l:=fun {l} h=>by
  unfold toB;rw[List.map_map];refine (List.map_congr_left fun x hx=>?_).trans (List.map_id _);have hx:=h x hx;show (((UInt8.ofNat x.toNat).toNat:Nat):Int)=x;rw[UInt8.toNat_ofNat',Nat.mod_eq_of_lt (by omega),Int.toNat_of_nonneg hx.1]
 rw[<-back h,<-back h',e]
def kyC (c:Cf):ByteArray:=bs (toB (encC c.1 c.2))
theorem kyC_inj {c d:Cf} (h:kyC c=kyC d):c=d:=by
 have h1:toB (encC c.1 c.2)=toB (encC d.1 d.2):=by
  have:=congrArg (fun b:ByteArray=>b.data.toList) h;exact this
 obtain⟨h2,h3⟩:=encC_inj (toB_inj encC_byte encC_byte h1);exact Prod.ext h2 h3
end Go.VC
end

section
namespace Go.VC
open Go.Proofs Go.LexS Go.Maps
theorem St.picksA {h0 h:Heap} {P P' A:List It} (hs:St h0 h (P++A)) (ks:List Nat) (nd:ks.Nodup) (hL:P'.map some=ks.map fun k=>P[k]?):St h0 h (P'++A):=by
 have hk:∀k∈ks,k<P.length:=fun k hk=>by
  have h1:P[k]?∈P'.map some:=by rw[hL];exact List.mem_map_of_mem hk
  obtain⟨x,_,h2⟩:=Yp.1 h1;exact (Ya.1 h2.symm).1
 refine hs.picks (ks++(List.range A.length).map fun j=>P.length+j) ?_ ?_
 ·rw[List.nodup_append];refine⟨nd,?_,fun a ha b hb=>?_⟩
  ·exact List.Pairwise.map _ (fun a b h=>by omega) List.nodup_range
  ·obtain⟨j,_,rfl⟩:=Yp.1 hb;have:=hk a ha;omega
 ·rw[Ym,Ym,hL];congr 1
  ·exact List.map_congr_left fun k h=>by rw[Yyi (hk k h)]
  ·rw[List.map_map];refine Yyr fun j=>?_;rw[Yd,Yd];by_cases hj:j<A.length
   ·rw[Yyb hj,Yi hj];show some (some A[j])=some ((P++A)[P.length+j]?);rw[Yyc (by omega),Nat.add_sub_cancel_left,Yi hj]
   ·rw[Yl (by omega),Yl (by rw[Yyd];omega)];rfl
theorem memP {P A:List It}:∀i∈A,i∈P++A:=fun _ hi=>List.mem_append_right _ hi
def kokB (s:ByteArray):Prop:=s.size<=maxLen
theorem M92:MT Pz 92 9 4 Value.string kokB (.bool false) where
 K:=Keyed.of_law (Go.WideMaps.string_law (by kernel_rfl))
 ht:=by kernel_rfl
 key:=fun s hs=>⟨_,Go.WideMaps.keyOf_string_mk (by kernel_rfl) hs⟩
 inj:=fun a b h=>Value.string.inj h
 z:=fun w=>by kernel_rfl
def vq (v:Vs):Qe:=((v.S,v.B.map Bx.l),v.tr)
def kyP (v:Vs):ByteArray × Bool:=(kyC (vq v).1,true)
def kyV (q:ByteArray × Bool):Value × Value:=(.string q.1,.bool q.2)
structure SeaV (L:List MR) (k:Int) (A:List It) (V:List Vs):Prop where
 c:∀v∈V,CfN A v.c1 v.c2 v.S v.B
 p:∀v∈V,ProS (L.map MR.m) k v.S (v.B.map Bx.l)
 t:TrOk V
 d:(V.map fun v=>(vq v).1).Nodup
theorem SeaV.mono {L:List MR} {k:Int} {A A':List It} {V:List Vs} (h:SeaV L k A V) (hA:∀i∈A,i∈A'):SeaV L k A' V:=⟨fun v hv=>(h.c v hv).mono hA,h.p,h.t,h.d⟩
theorem enc_pro {L:List Mch} {k:Int} {S:List Int} {BL:List (List Int)} (hP:ProS L k S BL):EncOk S BL:=by
 have h6:=hP.v.n;have h36:=sq6 h6.2;have hk:=hP.c;have hs:=hP.p.s;have hb:=hP.p.b;refine⟨fun x hx=>?_,fun q hq=>?_,by omega,by omega⟩
 ·obtain⟨p,gp⟩:=Yf.1 hx;have hp:=(Ya.1 gp).1;obtain⟨m,gm⟩:=get_some (l:=L) (i:=p) (by omega);have h1:=hP.p.st p x m gp gm;have h2:=(hP.v.m p m gm).2.1.n.n;exact⟨by omega,by omega⟩
 ·obtain⟨i,gi⟩:=Yf.1 hq;obtain⟨h1,-,h3⟩:=hP.p.bx i q gi;exact⟨by omega,fun x hx=>by have:=h3 x hx;exact⟨by omega,by omega⟩⟩
theorem enc_len {S:List Int} {BL:List (List Int)} (h:EncOk S BL):(encC S BL).length<=20000000:=by
 have h1:=encL_len h.s (by have:=h.n.1;omega);have h2:=h.fl BL.length;rw[Yye] at h2;have h3:=encI_len (n:=(BL.length:Int)) ⟨by omega,by have:=h.n.2;omega⟩;have h4:=h.n.1;unfold encC;rw[Yh,Yh];omega
theorem ky_ok {L:List Mch} {k:Int} {c:Cf} (hP:ProS L k c.1 c.2):kokB (kyC c):=by
 have:=enc_len (enc_pro hP);show (toB (encC c.1 c.2)).length<=maxLen;unfold toB;rw[Yc];simp only[maxLen];omega
theorem SeaV.kok {L:List MR} {k:Int} {A:List It} {V:List Vs} (h:SeaV L k A V):∀q∈V.map kyP,kokB q.1:=fun q hq=>by
 obtain⟨v,hv,rfl⟩:=Yp.1 hq;exact ky_ok (c:=(vq v).1) (h.p v hv)
theorem SeaV.knd {L:List MR} {k:Int} {A:List It} {V:List Vs} (h:SeaV L k A V):((V.map kyP).map Prod.fst).Nodup:=by
 rw[List.map_map];have e:(Prod.fst∘kyP)=kyC∘fun v=>(vq v).1:=rfl;rw[e,<-List.map_map];exact List.Pairwise.map _ (fun a b hab e=>hab (kyC_inj e)) h.d
theorem ky_mem {V:List Vs} {c:Cf}:c∈(V.map vq).map Prod.fst ↔ mget (V.map kyP) (kyC c)≠none:=by
 constructor
 ·intro h hn;obtain⟨q,hq,rfl⟩:=Yp.1 h;obtain⟨v,hv,rfl⟩:=Yp.1 hq;exact mget_nomem hn (kyP v) (List.mem_map_of_mem hv) rfl
 ·intro h;cases hg:mget (V.map kyP) (kyC c) with
  | none=>exact absurd hg h
  | some y=>
   obtain⟨v,hv,e⟩:=Yp.1 (mgetE_mem hg);have e1:kyC (vq v).1=kyC c:=congrArg Prod.fst e;rw[<-kyC_inj e1];exact List.mem_map_of_mem (List.mem_map_of_mem hv)
theorem SeaV.snoc {L:List MR} {k:Int} {A:List It} {V:List Vs} (h:SeaV L k A V) {v:Vs} (hc:CfN A v.c1 v.c2 v.S v.B) (hp:ProS (L.map MR.m) k v.S (v.B.map Bx.l)) (hn:(vq v).1∉(V.map vq).map Prod.fst)
  {p:Nat} {u:Vs} (hu:V[p]?=some u) (ha:v.ah=(p:Int)) (ht:v.tr=u.tr++[(v.a,v.b)]):SeaV L k A (V++[v]):=by
 refine⟨fun w hw=>?_,fun w hw=>?_,fun j w hw=>?_,?_⟩
 ·rcases Yk.1 hw with hw | hw
  ·exact h.c w hw
  ·rw[Ye.1 hw];exact hc
 ·rcases Yk.1 hw with hw | hw
  ·exact h.p w hw
  ·rw[Ye.1 hw];exact hp
 ·have hpl:=(Ya.1 hu).1;by_cases hj:j<V.length
  ·rw[Yyi hj] at hw;obtain⟨h1,h2⟩:=h.t j w hw;refine⟨h1,h2.imp id ?_⟩;rintro⟨p',u',k1,k2,k3,k4⟩;exact⟨p',u',k1,by rw[Yyi (by omega)];exact k2,k3,k4⟩
  ·rw[Yyc (by omega)] at hw;have hj0:j-V.length=0:=by
    have:=(Ya.1 hw).1;simpa using this
   rw[hj0] at hw;cases hw;have h1:=(h.t p u hu).1;refine⟨?_,.inr ⟨p,u,by omega,by rw[Yyi hpl];exact hu,ha,ht⟩⟩;rw[ht,Yh,Yv];omega
 ·rw[Ym,List.nodup_append];refine⟨h.d,by simp,fun a ha b hb=>?_⟩;rw[Yyl,List.map_nil,Ye] at hb;rw[hb];rintro rfl;exact hn (by rw[List.map_map];exact ha)
theorem doB_newL {n a:Nat} {x:Mv} {B:List Bx} {q:Bx} {u:Sl} (gq:B[bxI n a x]?=some q):(B.set (bxI n a x) ⟨u,newL x q.l⟩).map Bx.l=doB n a x (B.map Bx.l):=by
 unfold doB;rw[List.map_set,getD_map gq];rfl
structure RV where
 v:Int
 Q:List Cf
 m:List Int
 k:Int
 t:List (Nat × Nat)
def Res.rv (n:Nat):Res->RV
 | .bad k t=>⟨2,[],[],k,t⟩
 | .unk=>⟨3,[],[],0,[]⟩
 | .safe Q=>⟨1,Q,mostS n Q,0,[]⟩
def rv0:RV:=⟨0,[],[],0,[]⟩
open Classical in
noncomputable def expV (L:List Mch) (k lim:Int):RV × Int:=if ¬SysV L\/k<1\/4<k then (rv0,1) else if lim<1\/20000<lim then (rv0,2) else ((exS L k lim.toNat).rv L.length,0)
structure Cr where
 c1:Sl
 c2:Sl
 S:List Int
 B:List Bx
def Cr.cs (c:Cr):List Value:=[.slice c.c1.a c.c1.n c.c1.c,.slice c.c2.a c.c2.n c.c2.c]
def Cr.cf (c:Cr):Cf:=(c.S,c.B.map Bx.l)
structure ResI (h:Heap) (cf mo tr:Sl) (r:RV):Prop where
 c:∃C:List Cr,RL h 2 cf Cr.cs C/\(∀c∈C,CfI h c.c1 c.c2 c.S c.B)/\C.map Cr.cf=r.Q
 m:RL h 1 mo inC r.m
 t:RL h 2 tr stpC r.t
def resA (v:Int) (cf mo:Sl) (k:Int) (tr:Sl):List Value:=[.int .i64 v,.slice cf.a cf.n cf.c,.slice mo.a mo.n mo.c,.int .i64 k,.slice tr.a tr.n tr.c]
def ExV (o:RV × Int) (h:Heap) (v:Value) (h':Heap):Prop:=∃(cf mo tr:Sl) (A:List It),v=.tuple ⟨[.agg ⟨resA o.1.v cf mo o.1.k tr⟩,.int .i64 o.2]⟩/\St h h' A/\Sta A fun h=>ResI h cf mo tr o.1
theorem RL.nil0 {α:Type} {h:Heap} {n:Nat} {cs:α->List Value}:RL h n ⟨none,0,0⟩ cs ([]:List α):=⟨Rw.nil,Yyt _,fun _=>⟨rfl,rfl⟩,Nat.zero_le _⟩
theorem ExV.empty {h h':Heap} {A:List It} (hs:St h h' A) {v k e:Int} {tr:Sl} {t:List (Nat × Nat)} (ht:It.sl tr 48 2 (t.map stpC)∈A/\t.length<=1048576\/(tr=⟨none,0,0⟩/\t=[])) {o:RV × Int} (ho:o=(⟨v,[],[],k,t⟩,e)) :
  ExV o h (.tuple ⟨[.agg ⟨resA v ⟨none,0,0⟩ ⟨none,0,0⟩ k tr⟩,.int .i64 e]⟩) h':=by
 subst ho;refine⟨⟨none,0,0⟩,⟨none,0,0⟩,tr,A,rfl,hs,fun h0 h2 A' hA hs'=>⟨⟨[],RL.nil0,(fun c hc=>by cases hc),rfl⟩,RL.nil0,?_⟩⟩;rcases ht with ⟨h1,h2⟩ | ⟨rfl,rfl⟩
 ·exact hs'.rlm (hA _ h1) (by omega) h2
 ·exact RL.nil0
theorem bxs0 (n:Nat):(List.replicate (n*n) bx0).map Bx.l=List.replicate (n*n) []:=by rw[List.map_replicate];rfl
theorem inC_flat:∀l:List Int,l.map iv=(l.map inC).flatten
 | []=>rfl
 | x::r=>by rw[Yyl,Yyl,Yyu,inC_flat r];rfl
def stepM (B:List (List Int)) (j:Nat) (M:List Int):List Int:=M.mapIdx fun i x=>if i<j then imax x ((B.getD i []).length:Int) else x
theorem stepM_len {B:List (List Int)} {j:Nat} {M:List Int}:(stepM B j M).length=M.length:=by unfold stepM;rw[List.length_mapIdx]
theorem stepM_0 {B:List (List Int)} {M:List Int}:stepM B 0 M=M:=by
 unfold stepM;refine Yyr fun i=>?_;rw[List.getElem?_mapIdx];cases M[i]?<;>rfl
theorem stepM_get {B:List (List Int)} {M:List Int} {j:Nat}:(stepM B j M)[j]?=M[j]?:=by
 unfold stepM;rw[List.getElem?_mapIdx];cases M[j]? with
 | none=>rfl
 | some x=>rw[Option.map_some,if_neg (Nat.lt_irrefl _)]
theorem stepM_next {B:List (List Int)} {M:List Int} {j:Nat} {y:Int} (hy:M[j]?=some y):(stepM B j M).set j (imax y ((B.getD j []).length:Int))=stepM B (j+1) M:=by
 have hj:=(Ya.1 hy).1;refine Yyr fun i=>?_;by_cases e:j=i
 ·subst e;rw[Yq (by rw[stepM_len];exact hj)];unfold stepM;rw[List.getElem?_mapIdx,hy,Option.map_some,if_pos (by omega)]
 ·rw[Yy e];unfold stepM;rw[List.getElem?_mapIdx,List.getElem?_mapIdx];cases M[i]? with
  | none=>rfl
  | some x=>
   rw[Option.map_some,Option.map_some];by_cases e2:i<j
   ·rw[if_pos e2,if_pos (by omega)]
   ·rw[if_neg e2,if_neg (by omega)]
theorem stepM_end {B:List (List Int)} {M:List Int} {j:Nat} (hj:M.length<=j):stepM B j M=M.mapIdx fun i x=>imax x ((B.getD i []).length:Int):=by
 unfold stepM;refine Yyr fun i=>?_;rw[List.getElem?_mapIdx,List.getElem?_mapIdx];by_cases e:i<M.length
 ·rw[Yi e,Option.map_some,Option.map_some,if_pos (by omega)]
 ·rw[Yl (by omega)];rfl
theorem most_snoc (n:Nat) (Q:List Cf) (c:Cf):mostS n (Q++[c])=(mostS n Q).mapIdx fun i x=>imax x ((c.2.getD i []).length:Int):=by
 unfold mostS;rw[List.foldl_append];rfl
theorem most_len (n:Nat) (Q:List Cf):(mostS n Q).length=n*n:=by
 unfold mostS;have:∀(Q:List Cf) (a:List Int),(Q.foldl (fun a c=>a.mapIdx fun i x=>imax x ((c.2.getD i []).length:Int)) a).length=a.length:=fun Q=>by
  induction Q with
  | nil=>intro a;rfl
  | cons c r ih=>intro a;rw[List.foldl_cons,ih,List.length_mapIdx]
 rw[this,Yg]
end Go.VC
end

section
namespace Go.VC
open Go.Proofs Go.LexS Go.Maps
theorem app95:appB Pz 95 94 5 72=true:=by kernel_rfl
theorem app29:appB Pz 29 50 2 48=true:=by kernel_rfl
theorem cv_str {h h0:Heap} {s:Sl} {l:List Int} (hs:St h0 h [.sl s 5 1 (l.map u8C)]) (hb:∀x∈l,0<=x/\x<256):RunW Pz (Go.convert 60 9 (.slice s.a s.n s.c)) h fun v h'=>v=.string (bs (toB l))/\h'=h:=
 str_c (e:=5) (base:=h0.size) (ty:=5) (by kernel_rfl) (by kernel_rfl) (by kernel_rfl) (by have:=hs.give 0 rfl;rw[toB_c hb] at this;exact this)
set_option maxHeartbeats 12800000 in
theorem explore13 (L:List MR) (s:Sl) (k lim:Int) (h:Heap) (hS:SyI h s L) :
  Fn Pz 13 #[.slice s.a s.n s.c,.int .i64 k,.int .i64 lim] h (ExV (expV (L.map MR.m) k lim) h):=by
 apply vc13 s k lim;unfold W13 V13c V13b V13a;have hn:=hS.r.ln;have hsm:=hS.r.sm;have hlm:(L.map MR.m).length=L.length:=Yc _;refine (St.refl h).newb fun h1 hs=>?_;refine (start14 L s h1 (hS.ext hs.ext)).mono ?_;rintro _ h6 ⟨ss,sb,S,B,e,A1,rfl,hs1,hM,hv1,hv2⟩;have hs:=hs.join hs1;refine⟨ss,sb,e,rfl,?_⟩;refine hs.newput (vs:=[.slice ss.a ss.n ss.c,.slice sb.a sb.n sb.c]) rfl rfl fun h8 hs=>?_;have fin:∀ {hX:Heap} {i0:It} (e':Int),St h hX ([i0,.blk h.size [.int .i64 0,.slice none 0 0,.slice none 0 0,.int .i64 0,.slice none 0 0] 32]++A1)->expV (L.map MR.m) k lim=(rv0,e')->okAt hX ⟨h.size,0,none⟩ 5/\∀h9:Heap,h9=hputs hX ⟨h.size,0,none⟩ 0 [.int .i64 0,.slice none 0 0,.slice none 0 0,.int .i64 0,.slice none 0 0] -> 
  (∃x10:Int,∃x11:Sl,∃x12:Sl,∃x13:Int,∃x14:Sl,atC h9 ⟨h.size,0,none⟩ [.int .i64 x10,.slice x11.a x11.n x11.c,.slice x12.a x12.n x12.c,.int .i64 x13,.slice x14.a x14.n x14.c] /\ 
  ExV (expV (L.map MR.m) k lim) h (.tuple ⟨[.agg ⟨[.int .i64 x10,.slice x11.a x11.n x11.c,.slice x12.a x12.n x12.c,.int .i64 x13,.slice x14.a x14.n x14.c]⟩,.int .i64 e']⟩) h9):=fun {hX i0} e' hs he=>by
  refine hs.put 1 rfl (o:=0) (vs:=[.int .i64 0,.slice none 0 0,.slice none 0 0,.int .i64 0,.slice none 0 0]) rfl (show 5<=5 by decide) fun h9 hs=>?_;exact⟨0,⟨none,0,0⟩,⟨none,0,0⟩,0,⟨none,0,0⟩,hs.at 1 rfl (o:=0) (n:=5) rfl,ExV.empty hs (.inr ⟨rfl,rfl⟩) he⟩
 by_cases hV:SysV (L.map MR.m);rotate_left
 ·obtain⟨rfl,-,-⟩:=hv2 hV;exact sB_t rfl (fin 1 hs (if_pos (.inl hV)))
 obtain⟨rfl,rfl,rfl⟩:=hv1 hV;clear hv1 hv2;refine sB_f rfl ?_;refine sBi (fun c1=>fin 1 hs (if_pos (.inr (.inl c1)))) (fun c1=>?_);refine sBi (fun c2=>fin 1 hs (if_pos (.inr (.inr c2)))) (fun c2=>?_);have hno:¬(¬SysV (L.map MR.m)\/k<1\/4<k):=fun h=>by
  rcases h with h | h | h
  ·exact h hV
  ·omega
  ·omega
 refine sBi (fun c3=>fin 2 hs ((if_neg hno).trans (if_pos (.inl c3)))) (fun c3=>?_);refine sBi (fun c4=>fin 2 hs ((if_neg hno).trans (if_pos (.inr c4)))) (fun c4=>?_);have hx:expV (L.map MR.m) k lim=((exS (L.map MR.m) k lim.toNat).rv (L.map MR.m).length,0):=(if_neg hno).trans (if_neg (by omega));clear fin;have hV6:=hV.n;rw[hlm] at hV6;have h36:=sq6 hV6.2;obtain⟨lm,hlim⟩:∃lm:Nat,lim=(lm:Int):=⟨lim.toNat,by omega⟩;subst hlim;rw[Ys] at hx;have hP0:ProS (L.map MR.m) k (startS (L.map MR.m)) ((List.replicate ((L.map MR.m).length*(L.map MR.m).length) bx0).map Bx.l):=xpro_start hV (by omega);generalize hBB:List.replicate ((L.map MR.m).length*(L.map MR.m).length) bx0=B0 at *;refine (start32 L s k h8 (hS.ext hs.ext) hV).mono ?_;rintro _ h41 ⟨eb,wb,A2,osl,os,qs,rfl,hs2,hE⟩;have hs:=(hs.join hs2).perm List.perm_middle;refine⟨some ⟨eb,0,none⟩,rfl,?_⟩;refine hs.mmake 92 fun h44 E44 hs=>⟨_,rfl,?_⟩;have hs:St h h44 ([.mp h41.size [],.mp wb [],.blk h6.size [.slice ss.a ss.n ss.c,.slice sb.a sb.n sb.c] 50,.blk h.size [.int .i64 0,.slice none 0 0,.slice none 0 0,.int .i64 0,.slice none 0 0] 32]++(A1++A2)):=hs;have hA1:CfN (A1++A2) ss sb (startS (L.map MR.m)) B0:=fun h0 hh A' hA hs=>hM.mono (fun i hi=>hA i (List.mem_append_left _ hi)) |>.cfi hs
 replace hE:Sta (A1++A2) fun h=>EngX h eb wb s k L osl os qs:=hE.mono memP;generalize A1++A2=A at *;refine⟨ss,sb,hs.at 2 rfl (o:=0) (n:=2) rfl,?_⟩;refine (encode35 ss sb _ _ h44 (hA1.at hs memP) (enc_pro hP0)).mono ?_;rintro _ h49 ⟨b,rfl,hse⟩;have hs:=hs.step hse.ext;refine⟨b,rfl,(cv_str hse encC_byte).mono ?_⟩;rintro _ _ ⟨rfl,rfl⟩;refine⟨_,rfl,?_⟩;obtain⟨v0,hv0⟩:∃v0:Vs,v0=⟨ss,sb,startS (L.map MR.m),B0,-1,0,0,[]⟩:=⟨_,rfl⟩;have hkv:bs (toB (encC (startS (L.map MR.m)) (B0.map Bx.l)))=kyC (vq v0).1:=by rw[hv0];rfl
 rw[hkv];refine hs.mput M92 (cv:=Value.bool) (l:=[]) (a:=kyC (vq v0).1) 0 rfl (fun q hq=>by cases hq) .nil (by rw[hv0];exact ky_ok (c:=(_,_)) hP0) true fun h53 hs=>?_;refine⟨ss,sb,hs.at 2 rfl (o:=0) (n:=2) rfl,?_⟩;refine hs.newb fun h56 hs=>?_;have hs:=hs.blkS 1 5 ([v0].map Vs.cs) (by rw[hv0];rfl) (fun r hr=>by rw[Yyl,List.map_nil,Ye] at hr;rw[hr];rfl) rfl (by decide);have hs:St h h56 ([.mp wb (([]:List (Wt × Bool)).map wtC),.mp h41.size (([v0].map kyP).map kyV),.sl ⟨some ⟨h53.size,0,none⟩,1,1⟩ 94 5 ([v0].map Vs.cs),.blk h.size [.int .i64 0,.slice none 0 0,.slice none 0 0,.int .i64 0,.slice none 0 0] 32]++A):=
  St.picksA (P:=[_,_,_,_,_]) hs [2,1,0,4] (by decide) rfl
 have hsea:SeaV L k A [v0]:=by
  refine⟨fun v hv=>?_,fun v hv=>?_,fun j v hj=>?_,by simp⟩
  ·rw[Ye.1 hv,hv0];exact hA1
  ·rw[Ye.1 hv,hv0];exact hP0
  ·have hj0:j=0:=by have:=(Ya.1 hj).1;simpa using this
   subst hj0;cases hj;rw[hv0];exact⟨Nat.zero_le _,.inl ⟨rfl,rfl⟩⟩
 have hex:exO (L.map MR.m) k lm (lm+1) 0 ([v0].map vq)=exS (L.map MR.m) k lm:=by
  unfold exS q0;congr 1;rw[hv0];unfold vq startB;rw[Yyl,List.map_nil,<-hBB,bxs0]
 have hwt0:WtOk L []:=⟨.nil,fun q hq=>by cases hq⟩;refine⟨fun queue x h' μ=>∃(i f:Nat) (V:List Vs) (K:List (Wt × Bool)) (A:List It),x=(i:Int)/\μ=f/\f+i=lm+1/\i<=V.length/\V.length<=lm/\exO (L.map MR.m) k lm f i (V.map vq)=exS (L.map MR.m) k lm/\SeaV L k A V/\WtOk L K/\Sta A (fun h=>EngX h eb wb s k L osl os qs) /\
  St h h' ([.mp wb (K.map wtC),.mp h41.size ((V.map kyP).map kyV),.sl queue 94 5 (V.map Vs.cs),.blk h.size [.int .i64 0,.slice none 0 0,.slice none 0 0,.int .i64 0,.slice none 0 0] 32]++A),⟨_,0,lm+1,[v0],[],A,rfl,rfl,rfl,Nat.zero_le _,by show 1<=lm;omega,hex,hsea,hwt0,hE,hs⟩,?_⟩
 clear hs hex hsea hwt0 hE hkv hv0 hA1 hse hs1 hs2 hM;rintro-queue _ h62 μ ⟨i,f,V,K,A,rfl,hμ,hfi,hi,hVl,hex,hsea,hK,hE,hs⟩;have hqn:=(hs.rows 2 (s:=queue) (cs:=Vs.cs) rfl (by omega)).ln;refine sBi (fun c5=>?_) (fun c5=>?_)
 ·obtain⟨v,gv⟩:=get_some (l:=V) (i:=i) (by omega);have hvm:=Yb gv;have hcv:=hsea.c v hvm;have hpv:=hsea.p v hvm;refine (hs.rows 2 (s:=queue) (cs:=Vs.cs) rfl (by omega)).nbI (by omega) (by omega) fun b63 o64 v' gv' t=>?_;rw[Ys,gv] at gv';cases gv';refine⟨v.c1,v.c2,t.sub0 2 rfl,?_⟩;refine hs.newput (vs:=[.slice v.c1.a v.c1.n v.c1.c,.slice v.c2.a v.c2.n v.c2.c]) rfl rfl fun h68 hs=>?_;refine⟨v.c1,v.c2,hs.at 0 rfl (o:=0) (n:=2) rfl,?_⟩;refine (steps34 L s k eb v.c1 v.c2 v.S v.B h68 (hS.ext hs.ext) (hE.at hs (memP (P:=[_,_,_,_,_]))).r (hcv.at hs (memP (P:=[_,_,_,_,_]))) hpv).mono ?_;rintro _ h73 ⟨r,rfl,hsr⟩;have hs:=(hs.join hsr).perm List.perm_append_comm;have hs:St h h73 (.mp wb (K.map wtC)::[.sl r 48 2 ((stepsS (L.map MR.m) k v.S (v.B.map Bx.l)).map stpC),.blk h62.size [.slice v.c1.a v.c1.n v.c1.c,.slice v.c2.a v.c2.n v.c2.c] 50,.mp h41.size ((V.map kyP).map kyV),.sl queue 94 5 (V.map Vs.cs),.blk h.size [.int .i64 0,.slice none 0 0,.slice none 0 0,.int .i64 0,.slice none 0 0] 32]++A):=
   St.picksA (P:=[_,_,_,_,_,_]) hs [2,0,1,3,4,5] (by decide) rfl
  have hrn:=(hs.rows 1 (s:=r) (cs:=stpC) rfl (by omega)).ln;obtain⟨X,hX⟩:∃X,X=stepsS (L.map MR.m) k v.S (v.B.map Bx.l):=⟨_,rfl⟩;rw[<-hX] at hs hrn;refine⟨r,rfl,v.c1,v.c2,hs.at 2 rfl (o:=0) (n:=2) rfl,?_⟩;refine (bad35 L s k eb wb v.c1 v.c2 v.S v.B (decide ((r.n:Int)>0)) K osl os qs hs (hS) (hE.mono (memP (P:=[_,_,_,_,_]))) (hcv.mono (memP (P:=[_,_,_,_,_]))) hpv hK (by
   rw[decide_eq_true_eq,<-hX];constructor
   ·intro h1 h2;rw[h2] at hrn;simp at hrn;omega
   ·intro h1;have:X.length≠0:=fun h2=>h1 (List.length_eq_zero_iff.1 h2);omega)).mono ?_
  rintro _ h78 ⟨K2,rfl,hK2,hs⟩;obtain⟨f2,hf2⟩:∃f',f=f'+1:=⟨f-1,by omega⟩;have gvq:(V.map vq)[i]?=some (vq v):=by rw[Yd,gv];rfl
  rw[hf2,exO,gvq] at hex;dsimp only at hex;have hbadE:badS (L.map MR.m) k (vq v).1.1 (vq v).1.2=badS (L.map MR.m) k v.S (v.B.map Bx.l):=rfl;have hstE:stepsS (L.map MR.m) k (vq v).1.1 (vq v).1.2=X:=hX.symm;rw[hbadE,hstE] at hex;refine⟨_,rfl,?_⟩;generalize badS (L.map MR.m) k v.S (v.B.map Bx.l)=bd at *;by_cases hbd:bd=0;rotate_left
  ·rw[if_pos hbd] at hex;refine sB_t (by rw[bne_iff_ne];exact hbd) ?_;refine (trace36 V queue i v h78 (hs.rows 4 (s:=queue) (cs:=Vs.cs) rfl (by omega)) (by omega) gv hsea.t).mono ?_;rintro _ h81 ⟨tr,rfl,hst⟩;have hs:=(hs.join hst).perm List.perm_append_comm;refine⟨tr,rfl,?_⟩;refine hs.put 6 rfl (o:=0) (vs:=[.int .i64 2,.slice none 0 0,.slice none 0 0,.int .i64 bd,.slice tr.a tr.n tr.c]) rfl (show 5<=5 by decide) fun h82 hs=>?_;have htl:v.tr.length<=i:=(hsea.t i v gv).1;refine⟨2,⟨none,0,0⟩,⟨none,0,0⟩,bd,tr,hs.at 6 rfl (o:=0) (n:=5) rfl,ExV.empty hs (.inl ⟨Yx,by omega⟩) ?_⟩;rw[hx,<-hex];rfl
  rw[if_neg (fun h=>h hbd)] at hex;refine sB_f (by rw[hbd];rfl) ?_;obtain⟨g,hg⟩:∃g,g=exI (L.map MR.m) lm (vq v) X (V.map vq):=⟨_,rfl⟩;rw[<-hg] at hex;have hXs:∀z∈X,∃m x,(L.map MR.m)[z.1]?=some m/\m.mv[z.2]?=some x/\canS (L.map MR.m).length k v.S (v.B.map Bx.l) z.1 x=0:=fun z hz=>by
   obtain⟨a,b⟩:=z;rw[hX] at hz;exact steps_mem hz
  have hXl:X.length<=2400:=by
   have:=steps_len (n:=(L.map MR.m).length) (k:=k) (S:=v.S) (BL:=v.B.map Bx.l) hV (L.map MR.m).length;rw[hX];unfold stepsS;omega
  refine⟨fun queue x h' μ=>∃(j:Nat) (V:List Vs) (A:List It),x=(j:Int)/\μ=X.length-j/\j<=X.length/\i<V.length/\V.length<=lm/\V[i]?=some v/\exI (L.map MR.m) lm (vq v) (X.drop j) (V.map vq)=g/\SeaV L k A V/\Sta A (fun h=>EngX h eb wb s k L osl os qs) /\
   St h h' ([.mp wb (K2.map wtC),.sl r 48 2 (X.map stpC),.blk h62.size [.slice v.c1.a v.c1.n v.c1.c,.slice v.c2.a v.c2.n v.c2.c] 50,.mp h41.size ((V.map kyP).map kyV),.sl queue 94 5 (V.map Vs.cs),.blk h.size [.int .i64 0,.slice none 0 0,.slice none 0 0,.int .i64 0,.slice none 0 0] 32]++A),⟨_,0,V,A,rfl,rfl,Nat.zero_le _,by omega,hVl,gv,by rw[List.drop_zero];exact hg.symm,hsea,hE,hs⟩,?_⟩
  clear hs hsea hE hcv gv hVl hqn c5 hg hi gvq hvm hK;clear t hsr;rintro-queue2 _ h93 μ ⟨j,V,A,rfl,rfl,hj,hiV,hVl,gv,hgI,hsea,hE,hs⟩;have hqn:=(hs.rows 4 (s:=queue2) (cs:=Vs.cs) rfl (by omega)).ln;have hcv:=hsea.c v (Yb gv);refine sBi (fun c6=>?_) (fun c6=>?_)
  ·obtain⟨⟨a,b⟩,gz⟩:=get_some (l:=X) (i:=j) (by omega);obtain⟨m,x,gm,gx,hc⟩:=hXs _ (Yb gz);dsimp only at gm gx hc;have hxm:=Yb gx;have hvmm:=hpv.v.m a m gm;have ha:a<(L.map MR.m).length:=(Ya.1 gm).1;have hx0:=(hvmm.2.1.n.mv x hxm).2.2.2.2.1;have hx1:=hvmm.2.2 x hxm;rw[hlm] at hc hx1 ha;have hBl:v.B.length=L.length*L.length:=by have:=hpv.p.b;rw[Yc,hlm] at this;exact this
   have hSl:v.S.length=L.length:=by rw[hpv.p.s,hlm]
   obtain⟨q,gq⟩:=get_some (l:=v.B) (i:=bxI L.length a x) (by rw[hBl];exact bxI_lt ha hx0 hx1);have hql:(v.B.map Bx.l)[bxI L.length a x]?=some q.l:=by rw[Yd,gq];rfl
   have hqd:(v.B.map Bx.l).getD (bxI L.length a x) []=q.l:=getD_map gq;have hq4:q.l.length<=4:=by have:=(hpv.p.bx _ q.l hql).1;omega
   have hq1:x.send=false->1<=q.l.length:=fun d=>by
    obtain⟨r,hr⟩:=(can_parts.1 hc).2.2 d;rw[hqd] at hr;rw[hr,Yyj];omega
   refine (hs.rows 1 (s:=r) (cs:=stpC) rfl (by omega)).nbI (by omega) (by omega) fun b94 o95 z gz' t=>?_;rw[Ys,gz] at gz';cases gz';refine⟨(a:Int),(b:Int),t,?_⟩;refine hs.newput (vs:=[.int .i64 (a:Int),.int .i64 (b:Int)]) rfl rfl fun h99 hs=>?_;refine⟨v.c1,v.c2,hs.at 3 rfl (o:=0) (n:=2) rfl,(a:Int),(b:Int),hs.at 0 rfl (o:=0) (n:=2) rfl,?_⟩;refine (do37 L s k eb v.c1 v.c2 v.S v.B a b m x q h99 (hS.ext hs.ext) (hE.at hs (memP (P:=[_,_,_,_,_,_,_]))).r (hcv.at hs (memP (P:=[_,_,_,_,_,_,_]))) hpv gm gx hc gq).mono ?_;rintro _ h107 ⟨ts,tb,u,A3,rfl,hs3,m1,m2,m3,m4⟩;rw[hn] at m2;have hs:St h h107 ([.blk h93.size [.int .i64 (a:Int),.int .i64 (b:Int)] 48,.mp wb (K2.map wtC),.sl r 48 2 (X.map stpC),.blk h62.size [.slice v.c1.a v.c1.n v.c1.c,.slice v.c2.a v.c2.n v.c2.c] 50,.mp h41.size ((V.map kyP).map kyV),.sl queue2 94 5 (V.map Vs.cs),.blk h.size [.int .i64 0,.slice none 0 0,.slice none 0 0,.int .i64 0,.slice none 0 0] 32]++(A++A3)):=hs.join hs3;have hSS:(v.S.set a x.t).length<=1048576:=by rw[Yyh];omega
   have hcn:CfN (A++A3) ts tb (v.S.set a x.t) (v.B.set (bxI L.length a x) ⟨u,newL x q.l⟩):=do_next hcv gq hSS (by omega) hq4 hq1 m1 m2 m3 m4;have hBn:(v.B.set (bxI L.length a x) ⟨u,newL x q.l⟩).map Bx.l=doB (L.map MR.m).length a x (v.B.map Bx.l):=by rw[hlm];exact doB_newL gq
   have hpn:ProS (L.map MR.m) k (v.S.set a x.t) ((v.B.set (bxI L.length a x) ⟨u,newL x q.l⟩).map Bx.l):=by
    rw[hBn];exact pro_do hpv gm hxm (by rw[hlm];exact hc)
   have hnx:((v.S.set a x.t,(v.B.set (bxI L.length a x) ⟨u,newL x q.l⟩).map Bx.l):Cf)=nxS (L.map MR.m) (vq v).1 (a,b):=by rw[nxS_of gm gx,hBn];rfl
   replace hsea:SeaV L k (A++A3) V:=hsea.mono fun i hi=>List.mem_append_left _ hi;replace hE:Sta (A++A3) fun h=>EngX h eb wb s k L osl os qs:=hE.mono fun i hi=>List.mem_append_left _ hi;clear hs3 m1 m2 m3 m4 hcv t;generalize A++A3=A at *;obtain⟨nv,hnv⟩:∃nv:Vs,nv=⟨ts,tb,v.S.set a x.t,v.B.set (bxI L.length a x) ⟨u,newL x q.l⟩,(i:Int),a,b,v.tr++[(a,b)]⟩:=⟨_,rfl⟩;have hnq:(vq nv).1=nxS (L.map MR.m) (vq v).1 (a,b):=by rw[hnv];exact hnx
   have hnt:vq nv=(nxS (L.map MR.m) (vq v).1 (a,b),(vq v).2++[(a,b)]):=Prod.ext hnq (by rw[hnv];rfl);refine⟨ts,tb,rfl,?_⟩;refine hs.newput (vs:=[.slice ts.a ts.n ts.c,.slice tb.a tb.n tb.c]) rfl rfl fun h109 hs=>?_;refine⟨ts,tb,hs.at 0 rfl (o:=0) (n:=2) rfl,?_⟩;refine (encode35 ts tb _ _ h109 (hcn.at hs (memP (P:=[_,_,_,_,_,_,_,_]))) (enc_pro hpn)).mono ?_;rintro _ h114 ⟨b3,rfl,hse⟩;have hs:=hs.step hse.ext;refine⟨b3,rfl,(cv_str hse encC_byte).mono ?_⟩;rintro _ _ ⟨rfl,rfl⟩;refine⟨_,rfl,?_⟩;have hkv:bs (toB (encC (v.S.set a x.t) ((v.B.set (bxI L.length a x) ⟨u,newL x q.l⟩).map Bx.l)))=kyC (vq nv).1:=by rw[hnv];rfl
   rw[hkv];have hkok:kokB (kyC (vq nv).1):=by rw[hnv];exact ky_ok (c:=(_,_)) hpn
   rw[drop_get gz,exI] at hgI;refine hs.mlook M92 (cv:=Value.bool) (l:=V.map kyP) (a:=kyC (vq nv).1) 5 rfl hsea.kok hsea.knd hkok false ?_;have hmm:=ky_mem (V:=V) (c:=(vq nv).1);cases hg:mget (V.map kyP) (kyC (vq nv).1) with
   | some y=>
    have hy:y=true:=by
     obtain⟨w,_,e⟩:=Yp.1 (mgetE_mem hg);exact (congrArg Prod.snd e).symm
    subst hy;rw[hg] at hmm;refine⟨true,rfl,sB_t rfl ?_⟩;rw[if_pos (by rw[<-hnq];exact hmm.2 (by simp))] at hgI;refine⟨_,(show X.length-(j+1)<X.length-j by omega),j+1,V,A,by rw[w64 (by omega) (by omega)];omega,rfl,by omega,hiV,hVl,gv,hgI,hsea,hE,hs.drop 2⟩
   | none=>
    rw[hg] at hmm;have hnm:(vq nv).1∉(V.map vq).map Prod.fst:=fun h=>hmm.1 h rfl;refine⟨false,rfl,sB_f rfl ?_⟩;rw[if_neg (by rw[<-hnq];exact hnm),Yc] at hgI;refine sBe (fun c7=>?_) (fun c7=>?_)
    ·rw[if_pos (by omega)] at hgI;rw[<-hgI] at hex;refine hs.put 7 rfl (o:=0) (vs:=[.int .i64 3,.slice none 0 0,.slice none 0 0,.int .i64 0,.slice none 0 0]) rfl (show 5<=5 by decide) fun h122 hs=>?_;refine⟨3,⟨none,0,0⟩,⟨none,0,0⟩,0,⟨none,0,0⟩,hs.at 7 rfl (o:=0) (n:=5) rfl,ExV.empty hs (.inr ⟨rfl,rfl⟩) ?_⟩;rw[hx,<-hex];rfl
    ·rw[if_neg (by omega)] at hgI;refine hs.mput M92 (cv:=Value.bool) (l:=V.map kyP) (a:=kyC (vq nv).1) 5 rfl hsea.kok hsea.knd hkok true fun h128 hs=>?_;rw[mset_none (mget_nomem hg)] at hs;refine⟨ts,tb,hs.at 0 rfl (o:=0) (n:=2) rfl,(a:Int),(b:Int),hs.at 1 rfl (o:=0) (n:=2) rfl,?_⟩;refine hs.app 6 (s:=queue2) (n:=5) (rows:=V.map Vs.cs) rfl app95 (m:=1) [nv.cs] (by rw[hnv];rfl) rfl (fun r hr=>by rw[Ye] at hr;rw[hr];rfl) rfl (by omega) (by simp only[maxLen];omega) fun q2 h135 nr hs=>?_;refine⟨_,(show X.length-(j+1)<X.length-j by omega),j+1,V++[nv],A,by rw[w64 (by omega) (by omega)];omega,rfl,by omega,by rw[Yh];omega,by rw[Yh,Yv];omega,by rw[Yyi hiV];exact gv,?_,hsea.snoc (p:=i) (u:=v) ?_ ?_ hnm gv ?_ ?_,hE,?_⟩
     ·rw[Ym,Yyl,List.map_nil,hnt];exact hgI
     ·rw[hnv];exact hcn
     ·rw[hnv];exact hpn
     ·rw[hnv]
     ·rw[hnv]
     ·have e1:(V++[nv]).map kyP=V.map kyP++[(kyC (vq nv).1,true)]:=by rw[Ym];rfl
      have e2:(V++[nv]).map Vs.cs=V.map Vs.cs++[nv.cs]:=by rw[Ym];rfl
      rw[e1,e2];exact hs.drop 2
  ·have hje:j=X.length:=by omega
   rw[hje,List.drop_length,exI] at hgI;rw[<-hgI] at hex;refine⟨f2,by omega,i+1,f2,V,K2,A,by rw[w64 (by omega) (by omega)];omega,rfl,by omega,by omega,hVl,hex,hsea,hK2,hE,?_⟩;exact St.picksA (P:=[_,_,_,_,_,_]) hs [0,3,4,5] (by decide) rfl
 ·have hiV:V.length<=i:=by omega
  obtain⟨f2,hf2⟩:∃f',f=f'+1:=⟨f-1,by omega⟩;rw[hf2,exO,Yl (by rw[Yc];exact hiV)] at hex;dsimp only at hex;have hsq:(s.n:Int)*(s.n:Int)=((L.length*L.length:Nat):Int):=by rw[hn];rfl
  obtain⟨nn,hnn⟩:∃nn,nn=L.length*L.length:=⟨_,rfl⟩;rw[hsq,<-hnn,w64 (n:=((nn:Nat):Int)) (by omega) (by omega),Ys,made3i];refine⟨⟨by omega,by omega,by omega⟩,?_⟩;refine hs.newb fun h138 hs=>?_;have hs:=hs.blkS nn 1 ((List.replicate nn (0:Int)).map inC) (inC_flat _) (inrows _) (by rw[Yc,Yg]) (by simp only[maxLen];omega);refine hs.newput (vs:=[.int .i64 1,.slice none 0 0,.slice (some ⟨h62.size,0,none⟩) nn nn,.int .i64 0,.slice none 0 0]) rfl rfl fun h140 hs=>?_;have hs:=hs.nil_ 50 2;obtain⟨mo,hmo⟩:∃mo:Sl,mo=⟨some ⟨h62.size,0,none⟩,nn,nn⟩:=⟨_,rfl⟩;have hs:St h h140 ([.sl ⟨none,0,0⟩ 50 2 (([]:List Cr).map Cr.cs),.blk h138.size (resA 1 ⟨none,0,0⟩ mo 0 ⟨none,0,0⟩) 32,.sl mo 3 1 ((List.replicate nn (0:Int)).map inC),.sl queue 94 5 (V.map Vs.cs),.blk h.size [.int .i64 0,.slice none 0 0,.slice none 0 0,.int .i64 0,.slice none 0 0] 32]++A):=
   St.picksA (P:=[_,_,_,_,_,_,_]) (by rw[hmo];exact hs) [0,1,2,5,6] (by decide) rfl
  have hm0:List.replicate nn (0:Int)=mostS L.length ((V.take 0).map fun v=>(vq v).1):=by rw[hnn];rfl
  rw[hm0] at hs;refine⟨fun x h' μ=>∃(i:Nat) (C:List Cr) (cf:Sl) (A:List It),x=(i:Int)/\μ=V.length-i/\i<=V.length/\C.map Cr.cf=(V.take i).map (fun v=>(vq v).1)/\(∀c∈C,CfN A c.c1 c.c2 c.S c.B)/\SeaV L k A V /\
   St h h' ([.sl cf 50 2 (C.map Cr.cs),.blk h138.size (resA 1 cf mo 0 ⟨none,0,0⟩) 32,.sl mo 3 1 ((mostS L.length ((V.take i).map fun v=>(vq v).1)).map inC),.sl queue 94 5 (V.map Vs.cs),.blk h.size [.int .i64 0,.slice none 0 0,.slice none 0 0,.int .i64 0,.slice none 0 0] 32]++A),⟨_,0,[],⟨none,0,0⟩,A,rfl,rfl,Nat.zero_le _,rfl,fun c hc=>(by cases hc),hsea,hs⟩,?_⟩
  clear hs hsea hE hm0;rintro-_ h145 μ2 ⟨i2,C,cf,A,rfl,rfl,hi2,hC,hCn,hsea,hs⟩;have hCl:C.length=i2:=by
   have:=congrArg List.length hC;rw[Yc,Yc,Yu] at this;omega
  refine sBi (fun c6=>?_) (fun c6=>?_)
  ·obtain⟨v,gv⟩:=get_some (l:=V) (i:=i2) (by omega);have hvm:=Yb gv;have hcv:=hsea.c v hvm;have hpv:=hsea.p v hvm;have hBl:v.B.length=nn:=by have:=hpv.p.b;rw[Yc,hlm] at this;rw[hnn];exact this
   have hSl:v.S.length=L.length:=by rw[hpv.p.s,hlm]
   refine (hs.rows 3 (s:=queue) (cs:=Vs.cs) rfl (by omega)).nbI (by omega) (by omega) fun b146 o147 v' gv' t=>?_;rw[Ys,gv] at gv';cases gv';refine⟨v.c1,v.c2,v.ah,(v.a:Int),(v.b:Int),t,?_⟩;refine hs.newput (vs:=v.cs) rfl rfl fun h154 hs=>?_;refine⟨cf,hs.rd 2 rfl (i:=1) rfl,v.c1,v.c2,hs.at 0 rfl (o:=0) (n:=2) rfl,?_⟩;refine (clone38 v.c1 v.c2 v.S v.B h154 (hcv.at hs (memP (P:=[_,_,_,_,_,_])))).mono ?_;rintro _ h161 ⟨ts,tb,T,rfl,hTB,hst⟩;have hTl:T.length=nn:=by
    have:=congrArg List.length hTB;rw[Yc,Yc] at this;omega
   refine⟨ts,tb,rfl,hst.ext.sm,?_⟩;have hs:=hs.join hst;refine hs.newbE fun h162 E162 hs=>⟨E162.sm,?_⟩;have hcn:CfN (A++([.sl ts 3 1 (v.S.map inC),.sl tb 25 1 (T.map Bx.cs)]++T.map Bx.it)) ts tb v.S T:=fun h0 hh A' hA hs=>by
    have m1:∀it∈([.sl ts 3 1 (v.S.map inC),.sl tb 25 1 (T.map Bx.cs)]++T.map Bx.it:List It),it∈A':=fun it h=>hA it (List.mem_append_right _ h);refine⟨hs.rlm (m1 _ Yx) (by omega) (by omega),hs.rlm (m1 _ (Yn _ Yx)) (by omega) (by omega),fun q hq=>?_⟩;refine hs.rlm (m1 _ (List.mem_append_right _ (List.mem_map_of_mem hq))) (by omega) ?_;have hq1:q.l∈v.B.map Bx.l:=by rw[<-hTB];exact List.mem_map_of_mem hq
    obtain⟨j,gj⟩:=Yf.1 hq1;have:=(hpv.p.bx j q.l gj).1;have:=hpv.c;omega
   have hs:St h h162 ([.blk h161.size [.slice ts.a ts.n ts.c,.slice tb.a tb.n tb.c] 50,.blk h145.size v.cs 94,.sl cf 50 2 (C.map Cr.cs),.blk h138.size (resA 1 cf mo 0 ⟨none,0,0⟩) 32,.sl mo 3 1 ((mostS L.length ((V.take i2).map fun v=>(vq v).1)).map inC),.sl queue 94 5 (V.map Vs.cs),.blk h.size [.int .i64 0,.slice none 0 0,.slice none 0 0,.int .i64 0,.slice none 0 0] 32]++(A++([.sl ts 3 1 (v.S.map inC),.sl tb 25 1 (T.map Bx.cs)]++T.map Bx.it))):=hs;replace hsea:=hsea.mono (A':=A++([.sl ts 3 1 (v.S.map inC),.sl tb 25 1 (T.map Bx.cs)]++T.map Bx.it)) fun i hi=>List.mem_append_left _ hi;replace hCn:∀c∈C,CfN (A++([.sl ts 3 1 (v.S.map inC),.sl tb 25 1 (T.map Bx.cs)]++T.map Bx.it)) c.c1 c.c2 c.S c.B:=fun c hc=>(hCn c hc).mono fun i hi=>List.mem_append_left _ hi;clear hst hcv t;generalize A++([.sl ts 3 1 (v.S.map inC),.sl tb 25 1 (T.map Bx.cs)]++T.map Bx.it)=A at *;have hcv:=hsea.c v hvm;have hcfn:=(hs.len 2 (s:=cf) rfl (by omega)).1;rw[Yc] at hcfn;refine hs.appended 2 (s:=cf) (n:=2) (rows:=C.map Cr.cs) rfl app29 (m:=1) (news:=[Cr.cs (⟨ts,tb,v.S,T⟩:Cr)]) (hs.at 0 rfl (n:=2) rfl) rfl (fun r hr=>by rw[Ye] at hr;rw[hr];rfl) rfl (by omega) (by simp only[maxLen];omega) fun r2 h164 nr hs=>?_;refine hs.put 3 rfl (o:=1) (vs:=[.slice r2.a r2.n r2.c]) rfl (show 2<=5 by decide) fun h165 hs=>?_;refine⟨v.c2,hs.rd 1 rfl (i:=1) rfl,?_⟩;have hbn:=(hcv.at hs (memP (P:=[_,_,_,_,_,_,_]))).b.ln;generalize hMM:mostS L.length ((V.take i2).map fun v=>(vq v).1)=M at *;have hMl:M.length=nn:=by rw[<-hMM,most_len,hnn]
   refine⟨fun x h' μ=>∃j:Nat,x=(j:Int)/\μ=v.B.length-j/\j<=v.B.length/\St h h' ([.blk h161.size [.slice ts.a ts.n ts.c,.slice tb.a tb.n tb.c] 50,.blk h145.size v.cs 94,.sl r2 50 2 ((C++[(⟨ts,tb,v.S,T⟩:Cr)]).map Cr.cs),.blk h138.size (resA 1 r2 mo 0 ⟨none,0,0⟩) 32,.sl mo 3 1 ((stepM (v.B.map Bx.l) j M).map inC),.sl queue 94 5 (V.map Vs.cs),.blk h.size [.int .i64 0,.slice none 0 0,.slice none 0 0,.int .i64 0,.slice none 0 0] 32]++A),⟨_,0,rfl,rfl,Nat.zero_le _,by rw[stepM_0,Ym];exact hs⟩,?_⟩;clear hs;rintro-_ h171 μ3 ⟨j,rfl,rfl,hj,hs⟩;have hmn:=(hs.rows 4 (s:=mo) (cs:=inC) rfl (by omega)).ln;rw[stepM_len] at hmn;refine sBi (fun c7=>?_) (fun c7=>?_)
   ·obtain⟨q,gq⟩:=get_some (l:=v.B) (i:=j) (by omega);obtain⟨y,gy⟩:=get_some (l:=M) (i:=j) (by omega);have hCf:=hcv.at hs (memP (P:=[_,_,_,_,_,_,_]));have hqi:=hCf.i q (Yb gq);have hqn:=hqi.ln;refine hCf.b.rw.nbI (by omega) (by omega) fun b172 o173 q' gq' t=>?_;rw[Ys,gq] at gq';cases gq';refine⟨q.s,t.hd,mo,hs.rd 3 rfl (i:=2) rfl,mo,hs.rd 3 rfl (i:=2) rfl,?_⟩;refine (hs.rows 4 (s:=mo) (cs:=inC) rfl (by omega)).nbI (by omega) (by omega) fun b177 o178 y' gy' t2=>?_;rw[Ys,stepM_get,gy] at gy';cases gy';refine⟨y,t2.hd,?_⟩;refine hs.set 4 (s:=mo) (cs:=inC) (x:=(j:Int)) rfl (by omega) (by omega) (by omega) (imax y (q.s.n:Int)) rfl rfl (fun b180 o181 h182 hs=>?_) rfl;rw[Ys] at hs;have hql:(v.B.map Bx.l).getD j []=q.l:=getD_map gq;have e1:=stepM_next (B:=v.B.map Bx.l) gy;rw[hql,<-hqn] at e1;refine⟨_,(show v.B.length-(j+1)<v.B.length-j by omega),j+1,by rw[w64 (by omega) (by omega)];omega,rfl,by omega,?_⟩;rw[<-e1];exact hs
   ·have hjB:j=v.B.length:=by omega
    have e1:(V.take (i2+1)).map (fun v=>(vq v).1)=(V.take i2).map (fun v=>(vq v).1)++[(vq v).1]:=by rw[take_snoc gv,Ym];rfl
    refine⟨_,(show V.length-(i2+1)<V.length-i2 by omega),i2+1,C++[(⟨ts,tb,v.S,T⟩:Cr)],r2,A,by rw[w64 (by omega) (by omega)];omega,rfl,by omega,?_,?_,hsea,?_⟩
    ·rw[e1,Ym,hC];congr 1;show [(v.S,T.map Bx.l)]=_;rw[hTB];rfl
    ·intro c hc;rcases Yk.1 hc with hc | hc
     ·exact hCn c hc
     ·rw[Ye.1 hc];exact hcn
    ·rw[e1,most_snoc,hMM];have e2:=stepM_end (B:=v.B.map Bx.l) (M:=M) (j:=j) (by omega);rw[e2] at hs;exact hs.drop 2
  ·have hie:i2=V.length:=by omega
   subst hie;rw[Yye] at hC hs;refine⟨1,cf,mo,0,⟨none,0,0⟩,hs.at 1 rfl (o:=0) (n:=5) rfl,?_⟩;refine hs.put 4 rfl (o:=0) (vs:=resA 1 cf mo 0 ⟨none,0,0⟩) rfl (show 5<=5 by decide) fun h190 hs=>?_;refine⟨1,cf,mo,0,⟨none,0,0⟩,hs.at 4 rfl (o:=0) (n:=5) rfl,cf,mo,⟨none,0,0⟩,_,?_,hs,fun h0 h2 A' hA hs'=>?_⟩
   ·rw[hx,<-hex];rfl
   ·have hr:(expV (L.map MR.m) k (lm:Int)).1=⟨1,(V.map vq).map Prod.fst,mostS (L.map MR.m).length ((V.map vq).map Prod.fst),0,[]⟩:=by rw[hx,<-hex];rfl
    have eV:(V.map vq).map Prod.fst=V.map fun v=>(vq v).1:=by rw[List.map_map];rfl
    rw[hr,eV,hlm];have hml:=most_len L.length (V.map fun v=>(vq v).1);exact⟨⟨C,hs'.rlm (hA _ Yx) (by omega) (by omega),fun c hc=>hCn c hc h0 h2 A' (fun i hi=>hA i (memP (P:=[_,_,_,_,_]) i hi)) hs',hC⟩,
     hs'.rlm (hA _ (Yn _ (Yn _ Yx))) (by omega) (Yys (Nat.le_of_eq hml) (by omega)),RL.nil0⟩
end Go.VC
end

section
namespace Go.VC
open Go.Proofs
variable {h:Heap} {R:Value->Heap->Prop}

def V14c (h58 h:Heap) (R:Value->Heap->Prop):Prop:=
 ∃x59 x60 x61 x62 x63,aL5 h58 (aS h 0) x59 x60 x61 x62 x63/\R (.tuple ⟨[.agg ⟨(L5 x59 x60 x61 x62 x63)⟩,vI 0]⟩) h58
def V14d (s117:Sl) (h118 h119:Heap) (traces_75:Sl) (m73:Nat) (I71:Sl->Sl->Int->Heap->Nat->Prop) (s107:Sl) (j_76:Int):Prop:=
 App Pz 37 37 (vS s117) (.slice (some (aS h118 0)) 1 1) h119 fun s120 h121=>Wn h121 [vS s120] 37 fun h122=>App Pz 102 102 (vS traces_75) (.slice (some (aS h121 0)) 1 1) h122 fun s123 h124=>∃m125,m125<m73/\I71 s107 s123 (IntKind.wrap .i64 (j_76+1)) h124 m125
def V14a (h90 h89:Heap) (x87 x88 l_74:Sl) (m73:Nat) (I71:Sl->Sl->Int->Heap->Nat->Prop) (traces_75:Sl) (j_76 p2:Int) (h:Heap) (R:Value->Heap->Prop) (i_46:Int) (x69:Sl):Prop:=
 Wp h90 (aS h89 0) 2 [vS x87,vS x88] fun h91=>∃(x92 x93:Sl),atC h91 (aS h89 0) [vS x92,vS x93]/\Fn Pz 44 #[vS l_74,.agg ⟨[vS x92,vS x93]⟩] h91 (fun v94 h96=>∃x95,iI v94 x95/\sB (decide (x95>=0)) (∃m97,m97<m73/\I71 l_74 traces_75 (IntKind.wrap .i64 (j_76+1)) h96 m97) (sB ((l_74.n:Int)==p2) (Wp h96 (aS h 0) 5 [vI 3,.slice none 0 0,.slice none 0 0,vI 0,.slice none 0 0] fun h98=>V14c h98 h R) (∃(x104 x105:Sl),atC h96 (aS h89 0) [vS x104,vS x105]/\Wn h96 [vS x104,vS x105] 28 fun h106=>App Pz 36 36 (vS l_74) (.slice (some (aS h96 0)) 1 1) h106 fun s107 h108=>NB traces_75.a fun b109 o110=>Ib i_46 traces_75.n/\∃x111,rS h108 ⟨b109,o110+Int.toNat i_46*1,none⟩ x111/\NB x69.a fun b112 o113=>Ib j_76 x69.n/\∃(x114 x115:Int),atC h108 ⟨b112,o113+Int.toNat j_76*2,none⟩ [vI x114,vI x115]/\(Wn h108 [] 53 fun h116=>Sm [⟨b112,o113+Int.toNat j_76*2,none⟩,⟨b109,o110+Int.toNat i_46*1,none⟩] h108 h116/\(App Pz 37 37 (.slice (some (aS h108 0)) 0 0) (vS x111) h116 fun s117 h118=>Sm [⟨b112,o113+Int.toNat j_76*2,none⟩] h116 h118/\Wn h118 [vI x114,vI x115] 53 fun h119=>Sm [⟨b109,o110+Int.toNat i_46*1,none⟩] h118 h119/\V14d s117 h118 h119 traces_75 m73 I71 s107 j_76)/\Wn h116 [vI x114,vI x115] 53 fun h126=>Sm [⟨b109,o110+Int.toNat i_46*1,none⟩] h116 h126/\App Pz 37 37 (.slice (some (aS h108 0)) 0 0) (vS x111) h126 fun s127 h128=>Sm [⟨b112,o113+Int.toNat j_76*2,none⟩] h126 h128/\V14d s127 h116 h128 traces_75 m73 I71 s107 j_76)/\Wn h108 [vI x114,vI x115] 53 fun h135=>Sm [⟨b109,o110+Int.toNat i_46*1,none⟩] h108 h135/\Wn h135 [] 53 fun h136=>Sm [⟨b112,o113+Int.toNat j_76*2,none⟩,⟨b109,o110+Int.toNat i_46*1,none⟩] h135 h136/\App Pz 37 37 (.slice (some (aS h135 0)) 0 0) (vS x111) h136 fun s137 h138=>Sm [⟨b112,o113+Int.toNat j_76*2,none⟩] h136 h138/\V14d s137 h108 h138 traces_75 m73 I71 s107 j_76)))
def V14b (h4 h:Heap) (R:Value->Heap->Prop):Prop:=
 Wp h4 (aS h 0) 5 [vI 0,.slice none 0 0,.slice none 0 0,vI 0,.slice none 0 0] fun h5=>∃x6 x7 x8 x9 x10,aL5 h5 (aS h 0) x6 x7 x8 x9 x10/\R (.tuple ⟨[.agg ⟨(L5 x6 x7 x8 x9 x10)⟩,vI 1]⟩) h5
def V14e (h4 h:Heap) (R:Value->Heap->Prop):Prop:=
 Wp h4 (aS h 0) 5 [vI 0,.slice none 0 0,.slice none 0 0,vI 0,.slice none 0 0] fun h23=>∃x24 x25 x26 x27 x28,aL5 h23 (aS h 0) x24 x25 x26 x27 x28/\R (.tuple ⟨[.agg ⟨(L5 x24 x25 x26 x27 x28)⟩,vI 2]⟩) h23
def W14 (p0:Sl) (p1 p2:Int):Prop:=
 Wn h [vI 0,.slice none 0 0,.slice none 0 0,vI 0,.slice none 0 0] 39 fun h1=>Fn Pz 39 #[vS p0] h1 (fun v2 h4=>∃x3,iB v2 x3/\sB (!x3) (V14b h4 h R) (sB (decide (p1<1)) (V14b h4 h R) (sB (decide (p1>4)) (V14b h4 h R) (sB (decide (p2<1)) (V14e h4 h R) (sB (decide (p2>20000)) (V14e h4 h R) (Fn Pz 40 #[vS p0] h4 (fun v35 h38=>∃(x36 x37:Sl),v35=.agg ⟨[vS x36,vS x37]⟩/\Wn h38 [vS x36,vS x37] 28 fun h39=>Wn h39 [.slice none 0 0] 37 fun h40=>QSSI ⟨(some (aS h38 0)),1,1⟩ ⟨(some (aS h39 0)),1,1⟩ 0 h40 fun I41 l_44 traces_45 i_46 h47 m43=>sB (decide (i_46<(l_44.n:Int))) (NB l_44.a fun b48 o49=>Ib i_46 l_44.n/\∃(x50 x51:Sl),atC h47 ⟨b48,o49+Int.toNat i_46*2,none⟩ [vS x50,vS x51]/\Fn Pz 41 #[vS p0,vI p1,.agg ⟨[vS x50,vS x51]⟩] h47 (fun v52 h54=>∃x53,iI v52 x53/\sB (decide (x53>0)) (NB traces_45.a fun b55 o56=>Ib i_46 traces_45.n/\∃x57,rS h54 ⟨b55,o56+Int.toNat i_46*1,none⟩ x57/\Wp h54 (aS h 0) 5 [vI 2,.slice none 0 0,.slice none 0 0,vI x53,vS x57] fun h58=>V14c h58 h R) (NB l_44.a fun b64 o65=>Ib i_46 l_44.n/\∃(x66 x67:Sl),atC h54 ⟨b64,o65+Int.toNat i_46*2,none⟩ [vS x66,vS x67]/\Fn Pz 42 #[vS p0,vI p1,.agg ⟨[vS x66,vS x67]⟩] h54 (fun v68 h70=>∃x69,iS v68 x69/\QSSI l_44 traces_45 0 h70 fun I71 l_74 traces_75 j_76 h77 m73=>sB (decide (j_76<(x69.n:Int))) (NB l_74.a fun b78 o79=>Ib i_46 l_74.n/\∃(x80 x81:Sl),atC h77 ⟨b78,o79+Int.toNat i_46*2,none⟩ [vS x80,vS x81]/\NB x69.a fun b82 o83=>Ib j_76 x69.n/\∃(x84 x85:Int),atC h77 ⟨b82,o83+Int.toNat j_76*2,none⟩ [vI x84,vI x85]/\(Fn Pz 43 #[vS p0,.agg ⟨[vS x80,vS x81]⟩,.agg ⟨[vI x84,vI x85]⟩] h77 (fun v86 h89=>∃(x87 x88:Sl),v86=.agg ⟨[vS x87,vS x88]⟩/\Wn h89 [.slice none 0 0,.slice none 0 0] 28 fun h90=>Sm [⟨b82,o83+Int.toNat j_76*2,none⟩,⟨b78,o79+Int.toNat i_46*2,none⟩] h89 h90/\V14a h90 h89 x87 x88 l_74 m73 I71 traces_75 j_76 p2 h R i_46 x69))/\Wn h77 [.slice none 0 0,.slice none 0 0] 28 fun h145=>Sm [⟨b82,o83+Int.toNat j_76*2,none⟩,⟨b78,o79+Int.toNat i_46*2,none⟩] h77 h145/\Fn Pz 43 #[vS p0,.agg ⟨[vS x80,vS x81]⟩,.agg ⟨[vI x84,vI x85]⟩] h145 (fun v146 h149=>∃(x147 x148:Sl),v146=.agg ⟨[vS x147,vS x148]⟩/\V14a h149 h77 x147 x148 l_74 m73 I71 traces_75 j_76 p2 h R i_46 x69)) (∃m204,m204<m43/\I41 l_74 traces_75 (IntKind.wrap .i64 (i_46+1)) h77 m204))))) (Fn Pz 45 #[vI (p0.n:Int),vS l_44] h47 (fun v205 h207=>∃x206,iS v205 x206/\Wp h207 (aS h 0) 5 [vI 1,vS l_44,vS x206,vI 0,.slice none 0 0] fun h208=>V14c h208 h R)))))))))
theorem vc14 (p0:Sl) (p1 p2:Int) (H:@W14 h R p0 p1 p2):Fn Pz 14 #[vS p0,vI p1,vI p2] h R:=fnI (A:=(.s .z (.s .z (.s .z (.s .z (.s .z (.s (.s .z (.b (.l [(8,.one (.slice)),(9,.one (.slice)),(10,.one (.int .i64))] (.s .z (.s (.b (.s .z (.s .z (.s .z (.b (.l [(8,.one (.slice)),(9,.one (.slice)),(13,.one (.int .i64))] .z)))))) .z))))) .z))))))) (by kernel_rfl) H

def W44 (p0 p1_1 p1_2:Sl):Prop:=
 Wn h [vS p1_1,vS p1_2] 28 fun h3=>
 QI 0 h3 fun I4 i_7 h8 m6=>
 sB (decide (i_7<(p0.n:Int)))
 (NB p0.a fun b9 o10=>Ib i_7 p0.n /\
 ∃(x11 x12:Sl),atC h8 ⟨b9,o10+Int.toNat i_7*2,none⟩ [vS x11,vS x12] /\
 ∃(x13 x14:Sl),atC h8 (aS h 0) [vS x13,vS x14] /\
 Fn Pz 21 #[.agg ⟨[vS x11,vS x12]⟩,.agg ⟨[vS x13,vS x14]⟩] h8
 (fun v15 h17=>∃x16,iB v15 x16 /\
 sB x16
 (R (vI i_7) h17)
 (∃m18,m18<m6/\I4 (IntKind.wrap .i64 (i_7+1)) h17 m18)))
 (R (vI (-1)) h8)
theorem vc44 (p0 p1_1 p1_2:Sl) (H:@W44 h R p0 p1_1 p1_2):Fn Pz 44 #[vS p0,.agg ⟨[vS p1_1,vS p1_2]⟩] h R:=fnI (A:=(.s .z (.s (.s .z (.b (.l [(5,.one (.int .i64))] .z))) .z))) (by kernel_rfl) H

def W45 (p0:Int) (p1:Sl):Prop:=
 ((0:Int)<=(IntKind.wrap .i64 (p0*p0))/\((IntKind.wrap .i64 (p0*p0)):Int)<=(IntKind.wrap .i64 (p0*p0))/\((8:Nat):Int)*(IntKind.wrap .i64 (p0*p0))<=140737488355328)/\Wn h (madeL Pz 3 (Int.toNat (IntKind.wrap .i64 (p0*p0)))) 3 fun h1=>
 QI 0 h1 fun I2 i_5 h6 m4=>
 sB (decide (i_5<(p1.n:Int)))
 (QI 0 h6 fun I7 k_10 h11 m9=>
 sB (decide (k_10<((Int.toNat (IntKind.wrap .i64 (p0*p0))):Int)))
 ((0<=(k_10:Int)/\(k_10:Int)<((Int.toNat (IntKind.wrap .i64 (p0*p0))):Nat)) /\
 ∃x12,rI h11 (aS h (0+Int.toNat k_10*1)) x12 /\
 NB p1.a fun b13 o14=>Ib i_5 p1.n /\
 ∃x15,rS h11 ⟨b13,o14+Int.toNat i_5*2+1,none⟩ x15 /\
 NB x15.a fun b16 o17=>Ib k_10 x15.n /\
 ∃x18,rS h11 ⟨b16,o17+Int.toNat k_10*1,none⟩ x18 /\
 (0<=(k_10:Int)/\(k_10:Int)<((Int.toNat (IntKind.wrap .i64 (p0*p0))):Nat)) /\
 Wp h11 (aS h (0+Int.toNat k_10*1)) 1 [vI (imax x12 (x18.n:Int))] fun h19=>
 ∃m20,m20<m9/\I7 (IntKind.wrap .i64 (k_10+1)) h19 m20)
 (∃m21,m21<m4/\I2 (IntKind.wrap .i64 (i_5+1)) h11 m21))
 (R (.slice (some (aS h 0)) (Int.toNat (IntKind.wrap .i64 (p0*p0))) (Int.toNat (IntKind.wrap .i64 (p0*p0)))) h6)
theorem vc45 (p0:Int) (p1:Sl) (H:@W45 h R p0 p1):Fn Pz 45 #[vI p0,vS p1] h R:=fnI (A:=(.s .z (.s .z (.s (.s .z (.b (.l [(6,.one (.int .i64))] (.s .z (.s (.b (.s .z (.b (.l [(7,.one (.int .i64))] .z)))) .z))))) .z)))) (by kernel_rfl) H

def W15 (p0_1:Int) (p0_2 p0_3:Sl) (p0_4:Int) (p0_5:Sl) (p1_6:Int) (p1_7 p1_8:Sl) (p1_9:Int) (p1_10:Sl):Prop:=
 Wn h (L5 p0_1 p0_2 p0_3 p0_4 p0_5) 32 fun h11=>
 Wn h11 (L5 p1_6 p1_7 p1_8 p1_9 p1_10) 39 fun h12=>
 ∃x13,rI h12 (aS h 0) x13 /\
 ∃x14,rI h12 (aS h11 0) x14 /\
 sB (x13 != x14)
 (R (.bool false) h12)
 (∃x15,rI h12 (aS h 3) x15 /\
 ∃x16,rI h12 (aS h11 3) x16 /\
 sB (x15 != x16)
 (R (.bool false) h12)
 (∃x17,rS h12 (aS h 1) x17 /\
 ∃x18,rS h12 (aS h11 1) x18 /\
 sB ((x17.n:Int) != (x18.n:Int))
 (R (.bool false) h12)
 (∃x19,rS h12 (aS h 2) x19 /\
 ∃x20,rS h12 (aS h11 2) x20 /\
 Fn Pz 17 #[vS x19,vS x20] h12
 (fun v21 h23=>∃x22,iB v21 x22 /\
 sB (!x22)
 (R (.bool false) h23)
 (∃x24,rS h23 (aS h 4) x24 /\
 ∃x25,rS h23 (aS h11 4) x25 /\
 sB ((x24.n:Int) != (x25.n:Int))
 (R (.bool false) h23)
 (∃x26,rS h23 (aS h 1) x26 /\
 QI 0 h23 fun I27 x_30 h31 m29=>
 sB (decide (x_30<(x26.n:Int)))
 (∃x32,rS h31 (aS h 1) x32 /\
 NB x32.a fun b33 o34=>Ib x_30 x32.n /\
 ∃(x35 x36:Sl),atC h31 ⟨b33,o34+Int.toNat x_30*2,none⟩ [vS x35,vS x36] /\
 ∃x37,rS h31 (aS h11 1) x37 /\
 NB x37.a fun b38 o39=>Ib x_30 x37.n /\
 ∃(x40 x41:Sl),atC h31 ⟨b38,o39+Int.toNat x_30*2,none⟩ [vS x40,vS x41] /\
 Fn Pz 21 #[.agg ⟨[vS x35,vS x36]⟩,.agg ⟨[vS x40,vS x41]⟩] h31
 (fun v42 h44=>∃x43,iB v42 x43 /\
 sB (!x43)
 (R (.bool false) h44)
 (∃m45,m45<m29/\I27 (IntKind.wrap .i64 (x_30+1)) h44 m45)))
 (∃x46,rS h31 (aS h 4) x46 /\
 QI 0 h31 fun I47 x_50 h51 m49=>
 sB (decide (x_50<(x46.n:Int)))
 (∃x52,rS h51 (aS h 4) x52 /\
 NB x52.a fun b53 o54=>Ib x_50 x52.n /\
 ∃(x55 x56:Int),atC h51 ⟨b53,o54+Int.toNat x_50*2,none⟩ [vI x55,vI x56] /\
 ∃x57,rS h51 (aS h11 4) x57 /\
 NB x57.a fun b58 o59=>Ib x_50 x57.n /\
 ∃(x60 x61:Int),atC h51 ⟨b58,o59+Int.toNat x_50*2,none⟩ [vI x60,vI x61] /\
 sB (!((x55==x60)&&((x56==x61)&&true)))
 (R (.bool false) h51)
 (∃m62,m62<m49/\I47 (IntKind.wrap .i64 (x_50+1)) h51 m62))
 (R (.bool true) h51))))))))
theorem vc15 (p0_1:Int) (p0_2 p0_3:Sl) (p0_4:Int) (p0_5:Sl) (p1_6:Int) (p1_7 p1_8:Sl) (p1_9:Int) (p1_10:Sl) (H:@W15 h R p0_1 p0_2 p0_3 p0_4 p0_5 p1_6 p1_7 p1_8 p1_9 p1_10):Fn Pz 15 #[.agg ⟨(L5 p0_1 p0_2 p0_3 p0_4 p0_5)⟩,.agg ⟨(L5 p1_6 p1_7 p1_8 p1_9 p1_10)⟩] h R:=fnI (A:=(.s .z (.s .z (.s (.s .z (.b (.l [(48,.one (.int .i64))] .z))) (.s (.s .z (.b (.l [(67,.one (.int .i64))] .z))) .z))))) (by kernel_rfl) H

end Go.VC
end

section
namespace Go.VC
open Go.Proofs Go.LexS
set_option maxHeartbeats 3200000 in
theorem refAllO (L:List MR) (s:Sl) (k:Int) (ss sb:Sl) (S:List Int) (B:List Bx) (h:Heap) (hS:SyI h s L) (hV:SysV (L.map MR.m)) (hC:CfI h ss sb S B) (hSl:S.length=L.length) (hBl:B.length=L.length*L.length) :
  Fn Pz 42 #[.slice s.a s.n s.c,.int .i64 k,.agg ⟨[.slice ss.a ss.n ss.c,.slice sb.a sb.n sb.c]⟩] h fun v h'=>∃r:Sl,v=.slice r.a r.n r.c/\St h h' [.sl r 53 2 ((stepsS (L.map MR.m) k S (B.map Bx.l)).map stpC)]:=by
 apply vc42 s k ss sb;unfold W42;have hn:=hS.r.ln;have hsn:=hC.s.ln;have hlm:(L.map MR.m).length=L.length:=Yc _;have hV6:=hV.n;rw[hlm] at hV6;have hpos:∀(r i:Int) (h:Heap),SyI h s L->CfI h ss sb S B->_:=fun r i h a b=>possible61 L s k ss sb S B r i h a hV b hSl hBl;generalize hBB:B.map Bx.l=BL at *;have hLL:stepsS (L.map MR.m) k S BL=(List.range L.length).flatMap (stepsR L.length k S BL (L.map MR.m)):=by unfold stepsS;rw[hlm]
 refine (St.refl h).newb fun h3 hs=>?_;have hs:=hs.nil_ 53 2;refine⟨fun out x h' μ=>∃i:Nat,x=(i:Int)/\μ=L.length-i/\i<=L.length/\St h h' [.sl out 53 2 (((List.range i).flatMap (stepsR L.length k S BL (L.map MR.m))).map stpC),.blk h.size [.slice ss.a ss.n ss.c,.slice sb.a sb.n sb.c] 28],⟨_,0,rfl,rfl,Nat.zero_le _,hs⟩,?_⟩;clear hs;rintro-out _ h9 μ ⟨i,rfl,rfl,hi,hs⟩;have hon:=(hs.rows 0 (s:=out) (cs:=stpC) rfl (by omega)).ln;have hol:=steps_len (n:=L.length) (k:=k) (S:=S) (BL:=BL) hV i;refine sBi (fun c1=>?_) (fun c1=>?_)
 ·obtain⟨y,gy⟩:=get_some (l:=L) (i:=i) (by omega);have gm:(L.map MR.m)[i]?=some y.m:=by rw[Yd,gy];rfl
  have hyi:=hS.i y (Yb gy);have hvm:=hV.m i y.m gm;have hml:=hvm.2.1.n.ml;refine (hS.r.rw.ext hs.ext).nbI (by omega) (by omega) fun b o y' gy' t=>?_;rw[Ys] at gy';replace gy':L[i]?=some y':=gy';rw[gy] at gy';cases gy';refine⟨_,_,_,_,_,_,t,ss,hs.rd 1 rfl rfl,?_⟩;refine (hC.s.rw.ext hs.ext).nbI (by omega) (by omega) fun b2 o2 z gz t2=>?_;rw[Ys] at gz;replace gz:S[i]?=some z:=gz;have hSg:S.getD i 0=z:=getD_some gz;refine⟨_,t2.hd,?_⟩;refine (refOut62S y.m y.f y.g y.l z h9 (hyi.ext hs.ext)).mono ?_;rintro _ h24 ⟨r,O,rfl,h1,hP,hSo⟩;have hs:=hs.join h1;have hO:O=mvS y.m z:=(mvS_eq hvm.2.1.d hP hSo).symm;have hOl:O.length<=y.m.mv.length:=by
   rw[hP.length_eq];unfold outIx;refine Yys (List.length_filter_le _ _) ?_;rw[Yyd];exact Yyt _
  refine⟨r,rfl,?_⟩;refine⟨fun out x h' μ=>∃j:Nat,x=(j:Int)/\μ=O.length-j/\j<=O.length/\St h h' [.sl out 53 2 ((((List.range i).flatMap (stepsR L.length k S BL (L.map MR.m)))++((O.take j).filter (posB L.length k S BL i y.m)).map fun q=>(i,q)).map stpC),.blk h.size [.slice ss.a ss.n ss.c,.slice sb.a sb.n sb.c] 28,.sl r 3 1 ((natI O).map inC)],⟨_,0,rfl,rfl,Nat.zero_le _,by rw[Yyk,List.filter_nil,List.map_nil,Yw];exact hs⟩,?_⟩;clear hs;rintro-out2 _ h30 μ ⟨j,rfl,rfl,hj,hs⟩;have hon2:=(hs.rows 0 (s:=out2) (cs:=stpC) rfl (by omega)).ln;have hrn:=(hs.rows 2 (s:=r) (cs:=inC) rfl (by omega)).ln;rw[show (natI O).length=O.length from Yc _] at hrn;have hfl:((O.take j).filter (posB L.length k S BL i y.m)).length<=j:=Yys (List.length_filter_le _ _) (by rw[Yu];omega);rw[Yh,Yc] at hon2;refine sBi (fun c2=>?_) (fun c2=>?_)
  ·obtain⟨q,gq⟩:=get_some (l:=O) (i:=j) (by omega);have hqm:q<y.m.mv.length:=by
    have:=hP.mem_iff.1 (Yb gq);obtain⟨x,hx,_⟩:=outIx_mem.1 this;exact (Ya.1 hx).1
   refine (hs.rows 2 (s:=r) (cs:=inC) rfl (by omega)).nbI (by omega) (by omega) fun b3 o3 q' gq' t3=>?_;rw[Ys] at gq';replace gq':(natI O)[j]?=some q':=gq';obtain⟨q2,gq2,rfl⟩:=natI_get gq';rw[gq] at gq2;cases gq2;refine⟨_,t3.hd,?_⟩;refine hs.newput (vs:=stC (i:Int) q) rfl rfl fun h35 hs=>?_;refine⟨ss,sb,hs.at 2 rfl (o:=0) (n:=2) rfl,_,_,hs.at 0 rfl (o:=0) (n:=2) rfl,?_⟩;refine (hpos (i:Int) (q:Int) h35 (hS.ext hs.ext) (hC.ext hs.ext)).mono ?_;rintro _ h42 ⟨rfl,E⟩;have hs:=hs.step E;obtain⟨x,gx⟩:=get_some hqm;have hmd:mvD y.m q=x:=mvD_of gx;have hpo:posS (L.map MR.m) k S BL (i:Int) (q:Int)=canS L.length k S BL i (mvD y.m q):=by
    unfold posS;rw[hlm,if_neg (by omega),Ys,gm];show (if (q:Int)<0\/(y.m.mv.length:Int)<=(q:Int) then 2 else match y.m.mv[(q:Int).toNat]? with | none=>2 | some x=>canS L.length k S BL i x)=_;rw[if_neg (by omega),Ys,gx,hmd]
   rw[hpo];refine⟨_,rfl,sBe (fun c3=>?_) (fun c3=>?_)⟩
   ·have hp:posB L.length k S BL i y.m q=true:=decide_eq_true c3;refine⟨_,_,hs.at 0 rfl (o:=0) (n:=2) rfl,?_⟩;refine hs.app 1 (s:=out2) (n:=2) (rows:=(((List.range i).flatMap (stepsR L.length k S BL (L.map MR.m)))++((O.take j).filter (posB L.length k S BL i y.m)).map fun q=>(i,q)).map stpC) rfl app39 (m:=1) [stC (i:Int) q] rfl rfl (fun r hr=>by rw[Ye] at hr;rw[hr];rfl) rfl (by omega) (by simp only[maxLen];omega) fun r2 h47 nr hs=>?_;refine⟨_,(show O.length-(j+1)<O.length-j by omega),j+1,by rw[w64 (by omega) (by omega)];omega,rfl,by omega,?_⟩;have e1:((O.take (j+1)).filter (posB L.length k S BL i y.m)).map (fun q=>(i,q))=((O.take j).filter (posB L.length k S BL i y.m)).map (fun q=>(i,q))++[(i,q)]:=by
     rw[take_snoc gq,List.filter_append,List.filter_cons_of_pos hp,List.filter_nil,Ym];rfl
    rw[e1,<-Yz,Ym];exact hs.drop 1
   ·have hp:posB L.length k S BL i y.m q=false:=decide_eq_false c3;refine⟨_,(show O.length-(j+1)<O.length-j by omega),j+1,by rw[w64 (by omega) (by omega)];omega,rfl,by omega,?_⟩;rw[take_snoc gq,List.filter_append,List.filter_cons_of_neg (by rw[hp];exact Bool.false_ne_true),List.filter_nil,Yw];exact hs.drop 1
  ·have hjl:j=O.length:=by omega
   subst hjl;refine⟨_,(show L.length-(i+1)<L.length-i by omega),i+1,by rw[w64 (by omega) (by omega)];omega,rfl,by omega,?_⟩;have e1:stepsR L.length k S BL (L.map MR.m) i=(O.filter (posB L.length k S BL i y.m)).map fun q=>(i,q):=by
    unfold stepsR;rw[gm];show ((stepsP L.length k S BL i y.m).map fun q=>(i,q))=_;unfold stepsP;rw[hSg,<-hO]
   rw[List.range_succ,List.flatMap_append,List.flatMap_cons,List.flatMap_nil,Yw,e1];rw[Yye] at hs;exact hs.sub (.cons_cons _ (.cons_cons _ (List.nil_sublist _)))
 ·have hil:i=L.length:=by omega
  subst hil;refine⟨out,rfl,?_⟩;rw[hLL];exact hs.sub (.cons_cons _ (List.nil_sublist _))
theorem App_copy {P:Program} {t e size bytes:Nat} (hT:appB P t e size bytes=true) {h0 h:Heap} {L:List It} {b:Nat} (hs:St h0 h (.blk b [] e::L)) {y:Sl} {rows:List (List Value)} (hy:Rw h size y rows) (hr:∀r∈rows,r.length=size) (hna:y.a=none->y.n=0/\y.c=0) (h00:rows=[]->y.a=none)
  (h1:rows.flatten.all oneB=true) (hbytes:y.n*bytes<=140737488355328) (h63:y.n<=maxLen) {K:Sl->Heap->Prop} (hK:∀(r:Sl) (h':Heap),Ext h h'->r.n=y.n->St h0 h' (.sl r e size rows::L)->K r h') :
  App P t t (.slice (some ⟨b,0,none⟩) 0 0) (.slice y.a y.n y.c) h K:=by
 have hn:=hy.1;have hs0:=hs.blkS 0 size [] rfl (fun r hr=>by cases hr) rfl (Nat.zero_le _);cases hya:y.a with
 | none=>
  obtain⟨h2,h3⟩:=hna hya;have hr0:rows=[]:=List.length_eq_zero_iff.1 (by omega);subst hr0;rw[h2,h3];exact App_none hT (s:=⟨some ⟨b,0,none⟩,0,0⟩) (hs0.get (k:=0) rfl).1 (hK _ h .rfl' h2.symm hs0)
 | some x=>
  have hpos:0<rows.length:=Nat.pos_of_ne_zero fun h=>by
   have:=h00 (List.length_eq_zero_iff.1 h);rw[hya] at this;cases this
  have hx:atC h x rows.flatten:=by
   obtain⟨b',o,ha,hall⟩:=hy.2 hpos;rw[hya] at ha;cases ha;exact atC_flat rows o hr hall
  refine App_full hT (y:=⟨some ⟨b,0,none⟩,0,0⟩) (rows:=[]) ⟨rfl,fun hp=>absurd hp (by simp)⟩ (fun r hr=>by cases hr) rfl (fun e=>by cases e) hx (by rw[flatten_len rows hr,hn]) (by omega) h1 (by show (0+y.n)*bytes<=_;rw[Nat.zero_add];exact hbytes) (by show 0+y.n<=_;rw[Nat.zero_add];exact h63) fun r h' hrn hor E=>?_;refine hK r h' E (by rw[hrn];show 0+y.n=_;omega) ?_;refine (hs.drop 1).gift E ?_ hr;simpa using hor
theorem find44 (C:List Cr) (s ss sb:Sl) (S:List Int) (B:List Bx) (h:Heap) (hr:Rw h 2 s (C.map Cr.cs)) (hl:C.length<=1048576) (hi:∀c∈C,CfI h c.c1 c.c2 c.S c.B) (hC:CfI h ss sb S B) :
  Fn Pz 44 #[.slice s.a s.n s.c,.agg ⟨[.slice ss.a ss.n ss.c,.slice sb.a sb.n sb.c]⟩] h fun v h'=>(∃k:Int,v=.int .i64 k/\(0<=k ↔ ((S,B.map Bx.l):Cf)∈C.map Cr.cf))/\Ext h h':=by
 apply vc44 s ss sb;unfold W44;have hn:=hr.ln;refine (St.refl h).newb fun h3 hs=>?_;refine up_loopS (n:=s.n) hs (fun i=>∀(j:Nat) c,j<i->C[j]?=some c->c.cf≠(S,B.map Bx.l)) (fun j c hj=>by omega) ?_;rintro-i h8 hi' ⟨hs,hq⟩;refine sB_intro (fun c=>?_) (fun c=>?_)
 ·replace c:=lt_t c;refine (hr.ext hs.ext).nbI (by omega) (by omega) fun b9 o10 d gd t=>?_;replace gd:C[i]?=some d:=gd;have hdm:=Yb gd;refine⟨d.c1,d.c2,t,ss,sb,hs.at 0 rfl (o:=0) (n:=2) rfl,?_⟩;refine (sameC19 d.c1 d.c2 ss sb d.S S d.B B h8 ((hi d hdm).ext hs.ext) (hC.ext hs.ext)).mono ?_;rintro _ h17 ⟨⟨b,rfl,hb⟩,E⟩;have hs:=hs.step E;refine⟨b,rfl,sB_intro (fun c2=>?_) (fun c2=>?_)⟩
  ·have he:=hb.1 c2;refine⟨⟨_,rfl,iff_of_true (by omega) ?_⟩,hs.ext⟩;rw[<-he.1,<-he.2];exact List.mem_map_of_mem hdm
  ·refine Up.next c (by omega) ⟨hs,fun j y hj hy=>?_⟩;by_cases e:j=i
   ·subst e;rw[gd] at hy;cases hy;intro he;refine iff_f hb c2 ⟨congrArg Prod.fst he,congrArg Prod.snd he⟩
   ·exact hq j y (by omega) hy
 ·replace c:=lt_f c;refine⟨⟨_,rfl,iff_of_false (by omega) fun hm=>?_⟩,hs.ext⟩;obtain⟨d,hd,he⟩:=Yp.1 hm;obtain⟨j,hj⟩:=Yf.1 hd;exact hq j d (by have:=(Ya.1 hj).1;omega) hj he
set_option maxHeartbeats 1600000 in
theorem most45 (n:Nat) (C:List Cr) (s:Sl) (h:Heap) (h6:n<=6) (hr:Rw h 2 s (C.map Cr.cs)) (hl:C.length<=1048576) (hi:∀c∈C,CfI h c.c1 c.c2 c.S c.B/\c.B.length=n*n) :
  Fn Pz 45 #[.int .i64 (n:Int),.slice s.a s.n s.c] h fun v h'=>∃mo:Sl,v=.slice mo.a mo.n mo.c/\St h h' [.sl mo 3 1 ((mostS n (C.map Cr.cf)).map inC)]:=by
 apply vc45 (n:Int) s;unfold W45;have hn:=hr.ln;have h36:=sq6 h6;obtain⟨nn,hnn⟩:∃nn,nn=n*n:=⟨_,rfl⟩;rw[<-Int.natCast_mul,<-hnn,w64 (n:=((nn:Nat):Int)) (by omega) (by omega),Ys,made3i];refine⟨⟨by omega,by omega,by omega⟩,?_⟩;refine (St.refl h).newb fun h1 hs=>?_;have hs:=hs.blkS nn 1 ((List.replicate nn (0:Int)).map inC) (inC_flat _) (inrows _) (by rw[Yc,Yg]) (by simp only[maxLen];omega);refine⟨fun x h' μ=>∃i:Nat,x=(i:Int)/\μ=C.length-i/\i<=C.length/\St h h' [.sl ⟨some ⟨h.size,0,none⟩,nn,nn⟩ 3 1 ((mostS n ((C.take i).map Cr.cf)).map inC)],⟨_,0,rfl,rfl,Nat.zero_le _,by rw[hnn] at hs ⊢;exact hs⟩,?_⟩;clear hs;rintro-_ h6 μ ⟨i,rfl,rfl,hi',hs⟩;refine sBi (fun c1=>?_) (fun c1=>?_)
 ·obtain⟨d,gd⟩:=get_some (l:=C) (i:=i) (by omega);obtain⟨hd,hdl⟩:=hi d (Yb gd);have hbn:=hd.b.ln;generalize hMM:mostS n ((C.take i).map Cr.cf)=M at *;have hMl:M.length=nn:=by rw[<-hMM,most_len,hnn]
  refine⟨fun x h' μ=>∃j:Nat,x=(j:Int)/\μ=nn-j/\j<=nn/\St h h' [.sl ⟨some ⟨h.size,0,none⟩,nn,nn⟩ 3 1 ((stepM (d.B.map Bx.l) j M).map inC)],⟨_,0,rfl,rfl,Nat.zero_le _,by rw[stepM_0];exact hs⟩,?_⟩;clear hs;rintro-_ h11 μ2 ⟨j,rfl,rfl,hj,hs⟩;refine sBi (fun c2=>?_) (fun c2=>?_)
  ·obtain⟨q,gq⟩:=get_some (l:=d.B) (i:=j) (by omega);obtain⟨y,gy⟩:=get_some (l:=M) (i:=j) (by omega);refine⟨⟨by omega,by omega⟩,y,Rw.one (l:=stepM (d.B.map Bx.l) j M) (cs:=inC) (hs.rows 0 rfl (by omega)) (by omega) (by omega) (d:=y) (by rw[Ys,stepM_get];exact gy) rfl,?_⟩;refine (hr.ext hs.ext).nbI (by omega) (by omega) fun b13 o14 d' gd' t=>?_;rw[Ys] at gd';replace gd':C[i]?=some d':=gd';rw[gd] at gd';cases gd';refine⟨d.c2,t.nth 1 rfl,?_⟩;refine (hd.b.rw.ext hs.ext).nbI (by omega) (by omega) fun b16 o17 q' gq' t2=>?_;rw[Ys,gq] at gq';cases gq';have hqn:=(hd.i q (Yb gq)).ln;refine⟨q.s,t2.hd,⟨by omega,by omega⟩,?_⟩;refine hs.set0 0 (cs:=inC) (l:=stepM (d.B.map Bx.l) j M) rfl (by omega) (by omega) (imax y (q.s.n:Int)) rfl rfl rfl fun h19 hs=>?_;rw[Ys] at hs;have hql:(d.B.map Bx.l).getD j []=q.l:=getD_map gq;have e1:=stepM_next (B:=d.B.map Bx.l) gy;rw[hql,<-hqn] at e1;refine⟨_,(show nn-(j+1)<nn-j by omega),j+1,by rw[w64 (by omega) (by omega)];omega,rfl,by omega,?_⟩;rw[<-e1];exact hs
  ·have e2:=stepM_end (B:=d.B.map Bx.l) (M:=M) (j:=j) (by omega);refine⟨_,(show C.length-(i+1)<C.length-i by omega),i+1,by rw[w64 (by omega) (by omega)];omega,rfl,by omega,?_⟩;have e1:(C.take (i+1)).map Cr.cf=(C.take i).map Cr.cf++[d.cf]:=by rw[take_snoc gd,Ym];rfl
   rw[e1,most_snoc,hMM];rw[e2] at hs;exact hs
 ·have hie:i=C.length:=by omega
  subst hie;rw[Yye] at hs;exact⟨⟨some ⟨h.size,0,none⟩,nn,nn⟩,rfl,hs⟩
structure Vr where
 c:Cr
 t:Sl
 tr:List (Nat × Nat)
def Vr.cs (v:Vr):List Value:=v.c.cs
def Vr.ts (v:Vr):List Value:=[.slice v.t.a v.t.n v.t.c]
def vrq (v:Vr):Qe:=(v.c.cf,v.tr)
structure SeaR (L:List MR) (k:Int) (A:List It) (V:List Vr):Prop where
 c:∀v∈V,CfN A v.c.c1 v.c.c2 v.c.S v.c.B
 p:∀v∈V,ProS (L.map MR.m) k v.c.S (v.c.B.map Bx.l)
 t:∀v∈V,Sta A fun h=>RL h 2 v.t stpC v.tr
 n:∀v∈V,v.tr=[]->v.t.a=none
 l:∀(j:Nat) v,V[j]?=some v->v.tr.length<=j
theorem SeaR.mono {L:List MR} {k:Int} {A A':List It} {V:List Vr} (h:SeaR L k A V) (hA:∀i∈A,i∈A'):SeaR L k A' V:=⟨fun v hv=>(h.c v hv).mono hA,h.p,fun v hv=>(h.t v hv).mono hA,h.n,h.l⟩
theorem SeaR.snoc {L:List MR} {k:Int} {A:List It} {V:List Vr} (h:SeaR L k A V) {v:Vr} (hc:CfN A v.c.c1 v.c.c2 v.c.S v.c.B) (hp:ProS (L.map MR.m) k v.c.S (v.c.B.map Bx.l)) (ht:Sta A fun h=>RL h 2 v.t stpC v.tr) (hn:v.tr≠[]) (hl:v.tr.length<=V.length):SeaR L k A (V++[v]):=by
 have key:∀ {P:Vr->Prop},(∀w∈V,P w)->P v->∀w∈V++[v],P w:=fun h1 h2 w hw=>by
  rcases Yk.1 hw with hw | hw
  ·exact h1 w hw
  ·rw[Ye.1 hw];exact h2
 refine⟨key h.c hc,key h.p hp,key h.t ht,key h.n fun e=>absurd e hn,fun j w hw=>?_⟩;by_cases hj:j<V.length
 ·rw[Yyi hj] at hw;exact h.l j w hw
 ·rw[Yyc (by omega)] at hw;have hj0:j-V.length=0:=by
   have:=(Ya.1 hw).1;simpa using this
  rw[hj0] at hw;cases hw;omega
theorem app36r:appB Pz 36 28 2 48=true:=by kernel_rfl
theorem app37r:appB Pz 37 53 2 16=true:=by kernel_rfl
theorem app102:appB Pz 102 37 1 24=true:=by kernel_rfl
theorem badS_pos {L:List Mch} {k:Int} {S:List Int} {BL:List (List Int)}:badS L k S BL>0 ↔ badS L k S BL≠0:=by
 unfold badS;split
 ·omega
 ·split<;>omega
theorem ExV.emptyS {h h':Heap} {A:List It} (hs:St h h' A) {v k e:Int} {tr:Sl} {t:List (Nat × Nat)} (ht:Sta A fun h=>RL h 2 tr stpC t) {o:RV × Int} (ho:o=(⟨v,[],[],k,t⟩,e)) :
  ExV o h (.tuple ⟨[.agg ⟨resA v ⟨none,0,0⟩ ⟨none,0,0⟩ k tr⟩,.int .i64 e]⟩) h':=by
 subst ho;exact⟨⟨none,0,0⟩,⟨none,0,0⟩,tr,A,rfl,hs,fun h0 h2 A' hA hs'=>⟨⟨[],RL.nil0,(fun c hc=>by cases hc),rfl⟩,RL.nil0,ht h0 h2 A' hA hs'⟩⟩
theorem vr_mem {V:List Vr} {c:Cf}:c∈(V.map vrq).map Prod.fst ↔ c∈(V.map Vr.c).map Cr.cf:=by rw[List.map_map,List.map_map];rfl
theorem next_cfn {A:List It} {ss sb ts tb u:Sl} {S S':List Int} {B:List Bx} {j:Nat} {l:List Int} (hC:CfN A ss sb S B) (hS':S'.length<=1048576) (hB:B.length<=1048576) (hl:l.length<=1048576) :
  CfN (A++[.sl ts 3 1 (S'.map inC),.sl tb 25 1 ((B.set j ⟨u,l⟩).map Bx.cs),.sl u 3 1 (l.map inC)]) ts tb S' (B.set j ⟨u,l⟩):=by
 intro h0 h A' hA hs;have hC:=hC h0 h A' (fun i hi=>hA i (List.mem_append_left _ hi)) hs;have m1:∀it∈([.sl ts 3 1 (S'.map inC),.sl tb 25 1 ((B.set j ⟨u,l⟩).map Bx.cs),.sl u 3 1 (l.map inC)]:List It),it∈A':=fun it h=>hA it (List.mem_append_right _ h);refine⟨hs.rlm (m1 _ Yx) (by omega) hS',hs.rlm (m1 _ (Yn _ Yx)) (by omega) (by rw[Yyh];exact hB),fun z hz=>?_⟩;rcases List.mem_or_eq_of_mem_set hz with hz | rfl
 ·exact hC.i z hz
 ·exact hs.rlm (m1 _ (Yn _ (Yn _ Yx))) (by omega) hl
set_option maxHeartbeats 12800000 in
theorem explore14 (L:List MR) (s:Sl) (k lim:Int) (h:Heap) (hS:SyI h s L) :
  Fn Pz 14 #[.slice s.a s.n s.c,.int .i64 k,.int .i64 lim] h (ExV (expV (L.map MR.m) k lim) h):=by
 apply vc14 s k lim;unfold W14 V14e V14b V14a V14d V14c;have hn:=hS.r.ln;have hsm:=hS.r.sm;have hlm:(L.map MR.m).length=L.length:=Yc _;refine (St.refl h).newb fun h1 hs=>?_;refine (refSys23 L s h1 (hS.ext hs.ext)).mono ?_;rintro _ h4 ⟨⟨bv,rfl,hbv⟩,E4⟩;have hs:=hs.step E4;have fin:∀(e':Int),expV (L.map MR.m) k lim=(rv0,e')->okAt h4 ⟨h.size,0,none⟩ 5/\∀h9:Heap,h9=hputs h4 ⟨h.size,0,none⟩ 0 [.int .i64 0,.slice none 0 0,.slice none 0 0,.int .i64 0,.slice none 0 0] -> 
  (∃x10:Int,∃x11:Sl,∃x12:Sl,∃x13:Int,∃x14:Sl,atC h9 ⟨h.size,0,none⟩ [.int .i64 x10,.slice x11.a x11.n x11.c,.slice x12.a x12.n x12.c,.int .i64 x13,.slice x14.a x14.n x14.c] /\ 
  ExV (expV (L.map MR.m) k lim) h (.tuple ⟨[.agg ⟨[.int .i64 x10,.slice x11.a x11.n x11.c,.slice x12.a x12.n x12.c,.int .i64 x13,.slice x14.a x14.n x14.c]⟩,.int .i64 e']⟩) h9):=fun e' he=>by
  refine hs.put 0 rfl (o:=0) (vs:=[.int .i64 0,.slice none 0 0,.slice none 0 0,.int .i64 0,.slice none 0 0]) rfl (show 5<=5 by decide) fun h9 hs=>?_;exact⟨0,⟨none,0,0⟩,⟨none,0,0⟩,0,⟨none,0,0⟩,hs.at 0 rfl (o:=0) (n:=5) rfl,ExV.empty hs (.inr ⟨rfl,rfl⟩) he⟩
 refine⟨bv,rfl,sB_intro (fun c0=>?_) (fun c0=>?_)⟩
 ·have hn:¬SysV (L.map MR.m):=fun hp=>by rw[hbv.2 hp] at c0;cases c0
  exact fin 1 (if_pos (.inl hn))
 have hV:=hbv.1 (by cases bv with | true=>rfl | false=>cases c0);refine sBi (fun c1=>fin 1 (if_pos (.inr (.inl c1)))) (fun c1=>?_);refine sBi (fun c2=>fin 1 (if_pos (.inr (.inr c2)))) (fun c2=>?_);have hno:¬(¬SysV (L.map MR.m)\/k<1\/4<k):=fun h=>by
  rcases h with h | h | h
  ·exact h hV
  ·omega
  ·omega
 refine sBi (fun c3=>fin 2 ((if_neg hno).trans (if_pos (.inl c3)))) (fun c3=>?_);refine sBi (fun c4=>fin 2 ((if_neg hno).trans (if_pos (.inr c4)))) (fun c4=>?_);have hx:expV (L.map MR.m) k lim=((exS (L.map MR.m) k lim.toNat).rv (L.map MR.m).length,0):=(if_neg hno).trans (if_neg (by omega));clear fin;have hV6:=hV.n;rw[hlm] at hV6;have h36:=sq6 hV6.2;obtain⟨lm,hlim⟩:∃lm:Nat,lim=(lm:Int):=⟨lim.toNat,by omega⟩;subst hlim;rw[Ys] at hx;have hP0:ProS (L.map MR.m) k (startS (L.map MR.m)) ((List.replicate (L.length*L.length) bx0).map Bx.l):=by have:=xpro_start (k:=k) hV (by omega);rw[hlm] at this;exact this
 generalize hBB:List.replicate (L.length*L.length) bx0=B0 at *;refine (first46 L s h4 (hS.ext hs.ext) hV6.2).mono ?_;rintro _ h38 ⟨ss,sb,A,rfl,hs1,hM⟩;rw[hBB] at hM;have hs:=hs.join hs1;refine⟨ss,sb,rfl,?_⟩;have hA1:CfN A ss sb (startS (L.map MR.m)) B0:=fun h0 hh A' hA hs=>(hM.mono hA).cfi hs;refine hs.newb fun h39 hs=>?_;obtain⟨v0,hv0⟩:∃v0:Vr,v0=⟨⟨ss,sb,startS (L.map MR.m),B0⟩,⟨none,0,0⟩,[]⟩:=⟨_,rfl⟩;have hs:=hs.blkS 1 2 ([v0].map Vr.cs) (by rw[hv0];rfl) (fun r hr=>by rw[Yyl,List.map_nil,Ye] at hr;rw[hr];rfl) rfl (by decide);refine hs.newb fun h40 hs=>?_;have hs:=hs.blkS 1 1 ([v0].map Vr.ts) (by rw[hv0];rfl) (fun r hr=>by rw[Yyl,List.map_nil,Ye] at hr;rw[hr];rfl) rfl (by decide);have hs:St h h40 ([.sl ⟨some ⟨h38.size,0,none⟩,1,1⟩ 28 2 ([v0].map Vr.cs),.sl ⟨some ⟨h39.size,0,none⟩,1,1⟩ 37 1 ([v0].map Vr.ts),.blk h.size [.int .i64 0,.slice none 0 0,.slice none 0 0,.int .i64 0,.slice none 0 0] 39]++A):=
  St.picksA (P:=[_,_,_]) hs [1,0,2] (by decide) rfl
 have hsea:SeaR L k A [v0]:=by
  refine⟨fun v hv=>?_,fun v hv=>?_,fun v hv=>?_,fun v hv _=>?_,fun j v hj=>?_⟩
  ·rw[Ye.1 hv,hv0];exact hA1
  ·rw[Ye.1 hv,hv0];exact hP0
  ·rw[Ye.1 hv,hv0];exact fun _ _ _ _ _=>RL.nil0
  ·rw[Ye.1 hv,hv0]
  ·rw[Ye.1 (Yb hj),hv0];exact Nat.zero_le _
 have hex:exO (L.map MR.m) k lm (lm+1) 0 ([v0].map vrq)=exS (L.map MR.m) k lm:=by
  unfold exS q0;congr 1;rw[hv0];unfold vrq Cr.cf startB;rw[Yyl,List.map_nil,<-hBB,bxs0,hlm]
 refine⟨fun l tra x h' μ=>∃(i f:Nat) (V:List Vr) (A:List It),x=(i:Int)/\μ=f/\f+i=lm+1/\i<=V.length/\V.length<=lm/\exO (L.map MR.m) k lm f i (V.map vrq)=exS (L.map MR.m) k lm/\SeaR L k A V /\
  St h h' ([.sl l 28 2 (V.map Vr.cs),.sl tra 37 1 (V.map Vr.ts),.blk h.size [.int .i64 0,.slice none 0 0,.slice none 0 0,.int .i64 0,.slice none 0 0] 39]++A),⟨_,0,lm+1,[v0],A,rfl,rfl,rfl,Nat.zero_le _,by show 1<=lm;omega,hex,hsea,hs⟩,?_⟩
 clear hs hex hsea hv0 hA1 hs1 hM;rintro-l2 tra _ h47 μ ⟨i,f,V,A,rfl,hμ,hfi,hi,hVl,hex,hsea,hs⟩;have hqn:=(hs.rows 0 (s:=l2) (cs:=Vr.cs) rfl (by omega)).ln;have htn:=(hs.rows 1 (s:=tra) (cs:=Vr.ts) rfl (by omega)).ln;obtain⟨f2,hf2⟩:∃f',f=f'+1:=⟨f-1,by omega⟩;refine sBi (fun c5=>?_) (fun c5=>?_)
 ·obtain⟨v,gv⟩:=get_some (l:=V) (i:=i) (by omega);have hvm:=Yb gv;have hcv:=hsea.c v hvm;have hpv:=hsea.p v hvm;have hBl:v.c.B.length=L.length*L.length:=by have:=hpv.p.b;rw[Yc,hlm] at this;exact this
  have hSl:v.c.S.length=L.length:=by rw[hpv.p.s,hlm]
  refine (hs.rows 0 (s:=l2) (cs:=Vr.cs) rfl (by omega)).nbI (by omega) (by omega) fun b63 o64 v' gv' t=>?_;rw[Ys,gv] at gv';cases gv';refine⟨v.c.c1,v.c.c2,t,?_⟩;refine (kind70 L s k v.c.c1 v.c.c2 v.c.S v.c.B h47 (hS.ext hs.ext) (hcv.at hs (memP (P:=[_,_,_]))) hpv).mono ?_;rintro _ h54 ⟨E54,rfl⟩;have hs:=hs.step E54;have gvq:(V.map vrq)[i]?=some (vrq v):=by rw[Yd,gv];rfl
  rw[hf2,exO,gvq] at hex;dsimp only at hex;obtain⟨X,hX⟩:∃X,X=stepsS (L.map MR.m) k v.c.S (v.c.B.map Bx.l):=⟨_,rfl⟩;have hbadE:badS (L.map MR.m) k (vrq v).1.1 (vrq v).1.2=badS (L.map MR.m) k v.c.S (v.c.B.map Bx.l):=rfl;have hstE:stepsS (L.map MR.m) k (vrq v).1.1 (vrq v).1.2=X:=hX.symm;rw[hbadE,hstE] at hex;have hpos:=badS_pos (L:=L.map MR.m) (k:=k) (S:=v.c.S) (BL:=v.c.B.map Bx.l);refine⟨_,rfl,?_⟩;generalize badS (L.map MR.m) k v.c.S (v.c.B.map Bx.l)=bd at *;refine sBi (fun c6=>?_) (fun c6=>?_)
  ·rw[if_pos (hpos.1 c6)] at hex;refine (hs.rows 1 (s:=tra) (cs:=Vr.ts) rfl (by omega)).nbI (by omega) (by omega) fun b55 o56 v' gv' t2=>?_;rw[Ys,gv] at gv';cases gv';refine⟨v.t,t2.hd,?_⟩;refine hs.put 2 rfl (o:=0) (vs:=[.int .i64 2,.slice none 0 0,.slice none 0 0,.int .i64 bd,.slice v.t.a v.t.n v.t.c]) rfl (show 5<=5 by decide) fun h82 hs=>?_;refine⟨2,⟨none,0,0⟩,⟨none,0,0⟩,bd,v.t,hs.at 2 rfl (o:=0) (n:=5) rfl,ExV.emptyS hs ((hsea.t v hvm).mono (memP (P:=[_,_,_]))) ?_⟩;rw[hx,<-hex];rfl
  have hbd:bd=0:=Classical.byContradiction fun h=>c6 (hpos.2 h);rw[if_neg (fun h=>h hbd)] at hex;obtain⟨g,hg⟩:∃g,g=exI (L.map MR.m) lm (vrq v) X (V.map vrq):=⟨_,rfl⟩;rw[<-hg] at hex;have hXs:∀z∈X,∃m x,(L.map MR.m)[z.1]?=some m/\m.mv[z.2]?=some x/\canS (L.map MR.m).length k v.c.S (v.c.B.map Bx.l) z.1 x=0:=fun z hz=>by
   obtain⟨a,b⟩:=z;rw[hX] at hz;exact steps_mem hz
  have hXl:X.length<=2400:=by
   have:=steps_len (n:=(L.map MR.m).length) (k:=k) (S:=v.c.S) (BL:=v.c.B.map Bx.l) hV (L.map MR.m).length;rw[hX];unfold stepsS;omega
  refine (hs.rows 0 (s:=l2) (cs:=Vr.cs) rfl (by omega)).nbI (by omega) (by omega) fun b64 o65 v' gv' t3=>?_;rw[Ys,gv] at gv';cases gv';refine⟨v.c.c1,v.c.c2,t3,?_⟩;refine (refAllO L s k v.c.c1 v.c.c2 v.c.S v.c.B h54 (hS.ext hs.ext) hV (hcv.at hs (memP (P:=[_,_,_]))) hSl hBl).mono ?_;rintro _ h70 ⟨r,rfl,hsr⟩;rw[<-hX] at hsr;have hs:St h h70 ([.sl r 53 2 (X.map stpC),.sl l2 28 2 (V.map Vr.cs),.sl tra 37 1 (V.map Vr.ts),.blk h.size [.int .i64 0,.slice none 0 0,.slice none 0 0,.int .i64 0,.slice none 0 0] 39]++A):=(hs.join hsr).perm List.perm_append_comm;refine⟨r,rfl,?_⟩;have hrn:=(hs.rows 0 (s:=r) (cs:=stpC) rfl (by omega)).ln;refine⟨fun l tra x h' μ=>∃(j:Nat) (V:List Vr) (A:List It),x=(j:Int)/\μ=X.length-j/\j<=X.length/\i<V.length/\V.length<=lm/\V[i]?=some v/\exI (L.map MR.m) lm (vrq v) (X.drop j) (V.map vrq)=g/\SeaR L k A V /\
   St h h' ([.sl r 53 2 (X.map stpC),.sl l 28 2 (V.map Vr.cs),.sl tra 37 1 (V.map Vr.ts),.blk h.size [.int .i64 0,.slice none 0 0,.slice none 0 0,.int .i64 0,.slice none 0 0] 39]++A),⟨_,0,V,A,rfl,rfl,Nat.zero_le _,by omega,hVl,gv,by rw[List.drop_zero];exact hg.symm,hsea,hs⟩,?_⟩
  clear hs hsea hcv gv hVl hqn htn c5 hg hi gvq hvm hsr t t3;rintro-l2 tra _ h77 μ2 ⟨j,V,A,rfl,rfl,hj,hiV,hVl,gv,hgI,hsea,hs⟩;have hqn:=(hs.rows 1 (s:=l2) (cs:=Vr.cs) rfl (by omega)).ln;have htn:=(hs.rows 2 (s:=tra) (cs:=Vr.ts) rfl (by omega)).ln;have hvm:=Yb gv;have hcv:=hsea.c v hvm;refine sBi (fun c6=>?_) (fun c6=>?_)
  ·obtain⟨⟨a,b⟩,gz⟩:=get_some (l:=X) (i:=j) (by omega);obtain⟨m,x,gm,gx,hc⟩:=hXs _ (Yb gz);dsimp only at gm gx hc;have hxm:=Yb gx;have hvmm:=hpv.v.m a m gm;have ha:a<(L.map MR.m).length:=(Ya.1 gm).1;have hx0:=(hvmm.2.1.n.mv x hxm).2.2.2.2.1;have hx1:=hvmm.2.2 x hxm;rw[hlm] at hc hx1 ha;obtain⟨q,gq⟩:=get_some (l:=v.c.B) (i:=bxI L.length a x) (by rw[hBl];exact bxI_lt ha hx0 hx1);have hql:(v.c.B.map Bx.l)[bxI L.length a x]?=some q.l:=by rw[Yd,gq];rfl
   have hqd:(v.c.B.map Bx.l).getD (bxI L.length a x) []=q.l:=getD_map gq;have hq4:q.l.length<=4:=by have:=(hpv.p.bx _ q.l hql).1;omega
   have hq1:x.send=false->1<=q.l.length:=fun d=>by
    obtain⟨r,hr⟩:=(can_parts.1 hc).2.2 d;rw[hqd] at hr;rw[hr,Yyj];omega
   obtain⟨l,hl⟩:∃l,l=newL x q.l:=⟨_,rfl⟩;have hll:l.length<=5:=by
    rw[hl];unfold newL;split
    ·rw[Yh,Yv];omega
    ·rw[List.length_tail];omega
   obtain⟨y,gy,rfl⟩:∃y,L[a]?=some y/\y.m=m:=by
    rw[Yd] at gm;cases gy:L[a]? with
    | none=>rw[gy] at gm;cases gm
    | some y=>rw[gy] at gm;cases gm;exact⟨y,rfl,rfl⟩
   have hSS:(v.c.S.set a x.t).length<=1048576:=by rw[Yyh];omega
   have hpn:∀u:Sl,ProS (L.map MR.m) k (v.c.S.set a x.t) ((v.c.B.set (bxI L.length a x) ⟨u,l⟩).map Bx.l):=fun u=>by
    have hBn:(v.c.B.set (bxI L.length a x) ⟨u,newL x q.l⟩).map Bx.l=doB (L.map MR.m).length a x (v.c.B.map Bx.l):=by rw[hlm];exact doB_newL gq
    rw[hl,hBn];exact pro_do hpv gm hxm (by rw[hlm];exact hc)
   have hnx:∀u:Sl,((v.c.S.set a x.t,(v.c.B.set (bxI L.length a x) ⟨u,l⟩).map Bx.l):Cf)=nxS (L.map MR.m) (vrq v).1 (a,b):=fun u=>by
    have hBn:(v.c.B.set (bxI L.length a x) ⟨u,newL x q.l⟩).map Bx.l=doB (L.map MR.m).length a x (v.c.B.map Bx.l):=by rw[hlm];exact doB_newL gq
    rw[nxS_of gm gx,hl,hBn];rfl
   have hnext:=fun h' (E:Ext h77 h')=>next56 L L.length s v.c.c1 v.c.c2 v.c.S v.c.B a b y x q l h' (hS.ext (hs.ext.trans E)) ((hcv.at hs (memP (P:=[_,_,_,_]))).ext E) rfl hV6.2 gy gx hx0 hx1 hSl hBl gq hq4 hl hq1;refine (hs.rows 1 (s:=l2) (cs:=Vr.cs) rfl (by omega)).nbI (by omega) (by omega) fun b78 o79 v' gv' t=>?_;rw[Ys,gv] at gv';cases gv';refine⟨v.c.c1,v.c.c2,t,?_⟩;refine (hs.rows 0 (s:=r) (cs:=stpC) rfl (by omega)).nbI (by omega) (by omega) fun b82 o83 z gz' t=>?_;rw[Ys,gz] at gz';cases gz';refine⟨(a:Int),(b:Int),t,?_⟩;refine And.intro ?_ ?_;refine (hnext h77 .rfl').mono ?_;rintro _ h89 ⟨ts,tb,u,rfl,hs3⟩;have hnx:=hnx u;have hpn:=hpn u;have hs:St h h89 ([.sl r 53 2 (X.map stpC),.sl l2 28 2 (V.map Vr.cs),.sl tra 37 1 (V.map Vr.ts),.blk h.size [.int .i64 0,.slice none 0 0,.slice none 0 0,.int .i64 0,.slice none 0 0] 39]++(A++[.sl ts 3 1 ((v.c.S.set a x.t).map inC),.sl tb 25 1 ((v.c.B.set (bxI L.length a x) ⟨u,l⟩).map Bx.cs),.sl u 3 1 (l.map inC)])):=hs.join hs3;have hcn:CfN (A++[.sl ts 3 1 ((v.c.S.set a x.t).map inC),.sl tb 25 1 ((v.c.B.set (bxI L.length a x) ⟨u,l⟩).map Bx.cs),.sl u 3 1 (l.map inC)]) ts tb (v.c.S.set a x.t) (v.c.B.set (bxI L.length a x) ⟨u,l⟩):=next_cfn hcv hSS (by omega) (by omega);replace hsea:SeaR L k (A++[.sl ts 3 1 ((v.c.S.set a x.t).map inC),.sl tb 25 1 ((v.c.B.set (bxI L.length a x) ⟨u,l⟩).map Bx.cs),.sl u 3 1 (l.map inC)]) V:=hsea.mono fun i hi=>List.mem_append_left _ hi;clear hs3 hcv hnext t;generalize A++[.sl ts 3 1 ((v.c.S.set a x.t).map inC),.sl tb 25 1 ((v.c.B.set (bxI L.length a x) ⟨u,l⟩).map Bx.cs),.sl u 3 1 (l.map inC)]=A at *;refine⟨ts,tb,rfl,?_⟩;refine hs.newbE fun h90 E90 hs=>⟨E90.sm,?_⟩;refine hs.put 0 rfl (o:=0) (vs:=[.slice ts.a ts.n ts.c,.slice tb.a tb.n tb.c]) rfl (show 2<=2 by decide) fun h91 hs=>?_;refine⟨ts,tb,hs.at 0 rfl (o:=0) (n:=2) rfl,?_⟩;refine (find44 (V.map Vr.c) l2 ts tb _ _ h91 (by have:=hs.rows 2 (s:=l2) (cs:=Vr.cs) rfl (by omega);rw[List.map_map];exact this) (by rw[Yc];omega) (fun c hc=>by
    obtain⟨w,hw,rfl⟩:=Yp.1 hc;exact (hsea.c w hw).at hs (memP (P:=[_,_,_,_,_]))) (hcn.at hs (memP (P:=[_,_,_,_,_])))).mono ?_
   rintro _ h96 ⟨⟨kf,rfl,hkf⟩,E96⟩;have hs:=hs.step E96;rw[<-vr_mem,hnx] at hkf;rw[drop_get gz,exI] at hgI;refine⟨kf,rfl,sBi (fun c7=>?_) (fun c7=>?_)⟩
   ·rw[if_pos (hkf.1 (by omega))] at hgI;exact⟨_,(show X.length-(j+1)<X.length-j by omega),j+1,V,A,by rw[w64 (by omega) (by omega)];omega,rfl,by omega,hiV,hVl,gv,hgI,hsea,hs.drop 1⟩
   have hnm:nxS (L.map MR.m) (vrq v).1 (a,b)∉(V.map vrq).map Prod.fst:=fun h=>by have:=hkf.2 h;omega
   rw[if_neg hnm,Yc] at hgI;refine sBe (fun c8=>?_) (fun c8=>?_)
   ·rw[if_pos (by omega)] at hgI;rw[<-hgI] at hex;refine hs.put 4 rfl (o:=0) (vs:=[.int .i64 3,.slice none 0 0,.slice none 0 0,.int .i64 0,.slice none 0 0]) rfl (show 5<=5 by decide) fun h98 hs=>?_;refine⟨3,⟨none,0,0⟩,⟨none,0,0⟩,0,⟨none,0,0⟩,hs.at 4 rfl (o:=0) (n:=5) rfl,ExV.empty hs (.inr ⟨rfl,rfl⟩) ?_⟩;rw[hx,<-hex];rfl
   rw[if_neg (by omega)] at hgI;refine⟨ts,tb,hs.at 0 rfl (o:=0) (n:=2) rfl,?_⟩;refine hs.app 2 (s:=l2) (n:=2) (rows:=V.map Vr.cs) rfl app36r (m:=1) [Cr.cs ⟨ts,tb,v.c.S.set a x.t,v.c.B.set (bxI L.length a x) ⟨u,l⟩⟩] rfl rfl (fun r hr=>by rw[Ye] at hr;rw[hr];rfl) rfl (by omega) (by simp only[maxLen];omega) fun l3 h108 nr hs=>?_;refine (hs.rows 3 (s:=tra) (cs:=Vr.ts) rfl (by omega)).nbI (by omega) (by omega) fun b109 o110 v' gv' t2=>?_;rw[Ys,gv] at gv';cases gv';refine⟨v.t,t2.hd,?_⟩;refine (hs.rows 1 (s:=r) (cs:=stpC) rfl (by omega)).nbI (by omega) (by omega) fun b112 o113 z gz' t3=>?_;rw[Ys,gz] at gz';cases gz';refine⟨(a:Int),(b:Int),t3,?_⟩;have hvt:=hsea.t v hvm;have hvn:=hsea.n v hvm;have hvl:=hsea.l i v gv;have hs:St h h108 ([.blk h89.size [.slice ts.a ts.n ts.c,.slice tb.a tb.n tb.c] 28,.sl r 53 2 (X.map stpC),.sl l3 28 2 (V.map Vr.cs++[Cr.cs ⟨ts,tb,v.c.S.set a x.t,v.c.B.set (bxI L.length a x) ⟨u,l⟩⟩]),.sl tra 37 1 (V.map Vr.ts),.blk h.size [.int .i64 0,.slice none 0 0,.slice none 0 0,.int .i64 0,.slice none 0 0] 39]++A):=hs;rotate_left;refine hs.newbE fun h145 E145 hs=>⟨E145.sm,?_⟩;refine (hnext h145 E145).mono ?_;rintro _ h149 ⟨ts,tb,u,rfl,hs3⟩;have hnx:=hnx u;have hpn:=hpn u;have hs:St h h149 ([.blk h77.size [.slice none 0 0,.slice none 0 0] 28,.sl r 53 2 (X.map stpC),.sl l2 28 2 (V.map Vr.cs),.sl tra 37 1 (V.map Vr.ts),.blk h.size [.int .i64 0,.slice none 0 0,.slice none 0 0,.int .i64 0,.slice none 0 0] 39]++(A++[.sl ts 3 1 ((v.c.S.set a x.t).map inC),.sl tb 25 1 ((v.c.B.set (bxI L.length a x) ⟨u,l⟩).map Bx.cs),.sl u 3 1 (l.map inC)])):=hs.join hs3;have hcn:CfN (A++[.sl ts 3 1 ((v.c.S.set a x.t).map inC),.sl tb 25 1 ((v.c.B.set (bxI L.length a x) ⟨u,l⟩).map Bx.cs),.sl u 3 1 (l.map inC)]) ts tb (v.c.S.set a x.t) (v.c.B.set (bxI L.length a x) ⟨u,l⟩):=next_cfn hcv hSS (by omega) (by omega);replace hsea:SeaR L k (A++[.sl ts 3 1 ((v.c.S.set a x.t).map inC),.sl tb 25 1 ((v.c.B.set (bxI L.length a x) ⟨u,l⟩).map Bx.cs),.sl u 3 1 (l.map inC)]) V:=hsea.mono fun i hi=>List.mem_append_left _ hi;clear hs3 hcv hnext t;generalize A++[.sl ts 3 1 ((v.c.S.set a x.t).map inC),.sl tb 25 1 ((v.c.B.set (bxI L.length a x) ⟨u,l⟩).map Bx.cs),.sl u 3 1 (l.map inC)]=A at *;refine⟨ts,tb,rfl,?_⟩;refine hs.put 0 rfl (o:=0) (vs:=[.slice ts.a ts.n ts.c,.slice tb.a tb.n tb.c]) rfl (show 2<=2 by decide) fun h150 hs=>?_;refine⟨ts,tb,hs.at 0 rfl (o:=0) (n:=2) rfl,?_⟩;refine (find44 (V.map Vr.c) l2 ts tb _ _ h150 (by have:=hs.rows 2 (s:=l2) (cs:=Vr.cs) rfl (by omega);rw[List.map_map];exact this) (by rw[Yc];omega) (fun c hc=>by
    obtain⟨w,hw,rfl⟩:=Yp.1 hc;exact (hsea.c w hw).at hs (memP (P:=[_,_,_,_,_]))) (hcn.at hs (memP (P:=[_,_,_,_,_])))).mono ?_
   rintro _ h96 ⟨⟨kf,rfl,hkf⟩,E96⟩;have hs:=hs.step E96;rw[<-vr_mem,hnx] at hkf;rw[drop_get gz,exI] at hgI;refine⟨kf,rfl,sBi (fun c7=>?_) (fun c7=>?_)⟩
   ·rw[if_pos (hkf.1 (by omega))] at hgI;exact⟨_,(show X.length-(j+1)<X.length-j by omega),j+1,V,A,by rw[w64 (by omega) (by omega)];omega,rfl,by omega,hiV,hVl,gv,hgI,hsea,hs.drop 1⟩
   have hnm:nxS (L.map MR.m) (vrq v).1 (a,b)∉(V.map vrq).map Prod.fst:=fun h=>by have:=hkf.2 h;omega
   rw[if_neg hnm,Yc] at hgI;refine sBe (fun c8=>?_) (fun c8=>?_)
   ·rw[if_pos (by omega)] at hgI;rw[<-hgI] at hex;refine hs.put 4 rfl (o:=0) (vs:=[.int .i64 3,.slice none 0 0,.slice none 0 0,.int .i64 0,.slice none 0 0]) rfl (show 5<=5 by decide) fun h98 hs=>?_;refine⟨3,⟨none,0,0⟩,⟨none,0,0⟩,0,⟨none,0,0⟩,hs.at 4 rfl (o:=0) (n:=5) rfl,ExV.empty hs (.inr ⟨rfl,rfl⟩) ?_⟩;rw[hx,<-hex];rfl
   rw[if_neg (by omega)] at hgI;refine⟨ts,tb,hs.at 0 rfl (o:=0) (n:=2) rfl,?_⟩;refine hs.app 2 (s:=l2) (n:=2) (rows:=V.map Vr.cs) rfl app36r (m:=1) [Cr.cs ⟨ts,tb,v.c.S.set a x.t,v.c.B.set (bxI L.length a x) ⟨u,l⟩⟩] rfl rfl (fun r hr=>by rw[Ye] at hr;rw[hr];rfl) rfl (by omega) (by simp only[maxLen];omega) fun l3 h108 nr hs=>?_;refine (hs.rows 3 (s:=tra) (cs:=Vr.ts) rfl (by omega)).nbI (by omega) (by omega) fun b109 o110 v' gv' t2=>?_;rw[Ys,gv] at gv';cases gv';refine⟨v.t,t2.hd,?_⟩;refine (hs.rows 1 (s:=r) (cs:=stpC) rfl (by omega)).nbI (by omega) (by omega) fun b112 o113 z gz' t3=>?_;rw[Ys,gz] at gz';cases gz';refine⟨(a:Int),(b:Int),t3,?_⟩;have hvt:=hsea.t v hvm;have hvn:=hsea.n v hvm;have hvl:=hsea.l i v gv;have hs:St h h108 ([.blk h77.size [.slice ts.a ts.n ts.c,.slice tb.a tb.n tb.c] 28,.sl r 53 2 (X.map stpC),.sl l3 28 2 (V.map Vr.cs++[Cr.cs ⟨ts,tb,v.c.S.set a x.t,v.c.B.set (bxI L.length a x) ⟨u,l⟩⟩]),.sl tra 37 1 (V.map Vr.ts),.blk h.size [.int .i64 0,.slice none 0 0,.slice none 0 0,.int .i64 0,.slice none 0 0] 39]++A):=hs;all_goals
    have hnt2:vrq ⟨⟨ts,tb,v.c.S.set a x.t,v.c.B.set (bxI L.length a x) ⟨u,l⟩⟩,v.t,v.tr++[(a,b)]⟩=(nxS (L.map MR.m) (vrq v).1 (a,b),(vrq v).2++[(a,b)]):=Prod.ext hnx rfl;have cp:=fun {h3:Heap} {L3:List It} {b3:Nat} {K:Sl->Heap->Prop} (hs3:St h h3 (.blk b3 [] 53::L3)) (hR:RL h3 2 v.t stpC v.tr) (hK:∀(r:Sl) (h':Heap),Ext h3 h'->r.n=v.t.n->St h h' (.sl r 53 2 (v.tr.map stpC)::L3)->K r h')=>App_copy app37r hs3 (y:=v.t) (rows:=v.tr.map stpC) hR.rw (stprows _) hR.nil (fun e=>hvn (List.map_eq_nil_iff.1 e)) (flat_oneB (fun _=>rfl) _) (by have:=hR.ln;omega) (by have:=hR.ln;simp only[maxLen];omega) hK;refine And.intro ?_ ?_
    ·refine hs.newbE fun h116 E116 hs=>⟨E116.sm,?_⟩;refine And.intro ?_ ?_
     ·have hR:=hvt.at hs (memP (P:=[_,_,_,_,_,_]));have hRn:=hR.ln;refine cp hs hR fun sp h118 E118 hrn hs=>⟨E118.sm,?_⟩;refine hs.newbE fun h119 E119 hs=>⟨E119.sm,?_⟩;refine hs.appended 1 (s:=sp) (n:=2) (rows:=v.tr.map stpC) rfl app37r (m:=1) (news:=[stpC (a,b)]) (hs.at 0 rfl (n:=2) rfl) rfl (fun r hr=>by rw[Ye] at hr;rw[hr];rfl) rfl (by omega) (by simp only[maxLen];omega) fun sq h121 nr2 hs=>?_;refine hs.app 5 (s:=tra) (n:=1) (rows:=V.map Vr.ts) rfl app102 (m:=1) [[.slice sq.a sq.n sq.c]] rfl rfl (fun r hr=>by rw[Ye] at hr;rw[hr];rfl) rfl (by omega) (by simp only[maxLen];omega) fun tr2 h124 nr3 hs=>?_;refine⟨_,(show X.length-(j+1)<X.length-j by omega),j+1,V++[⟨⟨ts,tb,v.c.S.set a x.t,v.c.B.set (bxI L.length a x) ⟨u,l⟩⟩,sq,v.tr++[(a,b)]⟩],.sl sq 53 2 ((v.tr++[(a,b)]).map stpC)::A,by rw[w64 (by omega) (by omega)];omega,rfl,by omega,by rw[Yh];omega,by rw[Yh,Yv];omega,by rw[Yyi hiV];exact gv,?_,(hsea.mono mem1).snoc (v:=⟨⟨ts,tb,v.c.S.set a x.t,v.c.B.set (bxI L.length a x) ⟨u,l⟩⟩,sq,v.tr++[(a,b)]⟩) (hcn.mono mem1) hpn ?_ (by simp) ?_,?_⟩
      ·rw[Ym,Yyl,List.map_nil];exact (congrArg (fun q=>exI (L.map MR.m) lm (vrq v) (X.drop (j+1)) (V.map vrq++[q])) hnt2).trans hgI
      ·exact fun h0 h2 A' hA hs'=>hs'.rlm (hA _ Yx) (by omega) (by rw[Yh,Yv];omega)
      ·show (v.tr++[(a,b)]).length<=_;rw[Yh,Yv];omega
      ·rw[Ym,Ym,Ym];exact St.picksA (P:=[_,_,_,_,_,_,_]) (P':=[_,_,_,_,_]) hs [3,4,5,6,1] (by decide) rfl
     ·refine hs.newbE fun h126 E126 hs=>⟨E126.sm,?_⟩;have hR:=hvt.at hs (memP (P:=[_,_,_,_,_,_,_]));have hRn:=hR.ln;refine cp (hs.perm (List.Perm.swap _ _ _)) hR fun sp h128 E128 hrn hs=>⟨E128.sm,?_⟩;refine hs.appended 0 (s:=sp) (n:=2) (rows:=v.tr.map stpC) rfl app37r (m:=1) (news:=[stpC (a,b)]) (hs.at 1 rfl (n:=2) rfl) rfl (fun r hr=>by rw[Ye] at hr;rw[hr];rfl) rfl (by omega) (by simp only[maxLen];omega) fun sq h130 nr2 hs=>?_;refine hs.app 5 (s:=tra) (n:=1) (rows:=V.map Vr.ts) rfl app102 (m:=1) [[.slice sq.a sq.n sq.c]] rfl rfl (fun r hr=>by rw[Ye] at hr;rw[hr];rfl) rfl (by omega) (by simp only[maxLen];omega) fun tr2 h124 nr3 hs=>?_;refine⟨_,(show X.length-(j+1)<X.length-j by omega),j+1,V++[⟨⟨ts,tb,v.c.S.set a x.t,v.c.B.set (bxI L.length a x) ⟨u,l⟩⟩,sq,v.tr++[(a,b)]⟩],.sl sq 53 2 ((v.tr++[(a,b)]).map stpC)::A,by rw[w64 (by omega) (by omega)];omega,rfl,by omega,by rw[Yh];omega,by rw[Yh,Yv];omega,by rw[Yyi hiV];exact gv,?_,(hsea.mono mem1).snoc (v:=⟨⟨ts,tb,v.c.S.set a x.t,v.c.B.set (bxI L.length a x) ⟨u,l⟩⟩,sq,v.tr++[(a,b)]⟩) (hcn.mono mem1) hpn ?_ (by simp) ?_,?_⟩
      ·rw[Ym,Yyl,List.map_nil];exact (congrArg (fun q=>exI (L.map MR.m) lm (vrq v) (X.drop (j+1)) (V.map vrq++[q])) hnt2).trans hgI
      ·exact fun h0 h2 A' hA hs'=>hs'.rlm (hA _ Yx) (by omega) (by rw[Yh,Yv];omega)
      ·show (v.tr++[(a,b)]).length<=_;rw[Yh,Yv];omega
      ·rw[Ym,Ym,Ym];exact St.picksA (P:=[_,_,_,_,_,_,_]) (P':=[_,_,_,_,_]) hs [3,4,5,6,0] (by decide) rfl
    ·refine hs.newbE fun h135 E135 hs=>⟨E135.sm,?_⟩;refine hs.newbE fun h136 E136 hs=>⟨E136.sm,?_⟩;have hR:=hvt.at hs (memP (P:=[_,_,_,_,_,_,_]));have hRn:=hR.ln;refine cp hs hR fun sp h138 E138 hrn hs=>⟨E138.sm,?_⟩;refine hs.appended 0 (s:=sp) (n:=2) (rows:=v.tr.map stpC) rfl app37r (m:=1) (news:=[stpC (a,b)]) (hs.at 1 rfl (n:=2) rfl) rfl (fun r hr=>by rw[Ye] at hr;rw[hr];rfl) rfl (by omega) (by simp only[maxLen];omega) fun sq h140 nr2 hs=>?_;refine hs.app 5 (s:=tra) (n:=1) (rows:=V.map Vr.ts) rfl app102 (m:=1) [[.slice sq.a sq.n sq.c]] rfl rfl (fun r hr=>by rw[Ye] at hr;rw[hr];rfl) rfl (by omega) (by simp only[maxLen];omega) fun tr2 h124 nr3 hs=>?_;refine⟨_,(show X.length-(j+1)<X.length-j by omega),j+1,V++[⟨⟨ts,tb,v.c.S.set a x.t,v.c.B.set (bxI L.length a x) ⟨u,l⟩⟩,sq,v.tr++[(a,b)]⟩],.sl sq 53 2 ((v.tr++[(a,b)]).map stpC)::A,by rw[w64 (by omega) (by omega)];omega,rfl,by omega,by rw[Yh];omega,by rw[Yh,Yv];omega,by rw[Yyi hiV];exact gv,?_,(hsea.mono mem1).snoc (v:=⟨⟨ts,tb,v.c.S.set a x.t,v.c.B.set (bxI L.length a x) ⟨u,l⟩⟩,sq,v.tr++[(a,b)]⟩) (hcn.mono mem1) hpn ?_ (by simp) ?_,?_⟩
     ·rw[Ym,Yyl,List.map_nil];exact (congrArg (fun q=>exI (L.map MR.m) lm (vrq v) (X.drop (j+1)) (V.map vrq++[q])) hnt2).trans hgI
     ·exact fun h0 h2 A' hA hs'=>hs'.rlm (hA _ Yx) (by omega) (by rw[Yh,Yv];omega)
     ·show (v.tr++[(a,b)]).length<=_;rw[Yh,Yv];omega
     ·rw[Ym,Ym,Ym];exact St.picksA (P:=[_,_,_,_,_,_,_]) (P':=[_,_,_,_,_]) hs [3,4,5,6,0] (by decide) rfl
  ·have hje:j=X.length:=by omega
   rw[hje,List.drop_length,exI] at hgI;rw[<-hgI] at hex;refine⟨f2,by omega,i+1,f2,V,A,by rw[w64 (by omega) (by omega)];omega,rfl,by omega,by omega,hVl,hex,hsea,hs.drop 1⟩
 ·have hiV:V.length<=i:=by omega
  rw[hf2,exO,Yl (by rw[Yc];exact hiV)] at hex;dsimp only at hex;have hr:(expV (L.map MR.m) k (lm:Int))=(⟨1,(V.map vrq).map Prod.fst,mostS (L.map MR.m).length ((V.map vrq).map Prod.fst),0,[]⟩,0):=by rw[hx,<-hex];rfl
  have eV:(V.map vrq).map Prod.fst=(V.map Vr.c).map Cr.cf:=by rw[List.map_map,List.map_map];rfl
  rw[hn];refine (most45 L.length (V.map Vr.c) l2 h47 hV6.2 (by have:=hs.rows 0 (s:=l2) (cs:=Vr.cs) rfl (by omega);rw[List.map_map];exact this) (by rw[Yc];omega) (fun c hc=>by
   obtain⟨w,hw,rfl⟩:=Yp.1 hc;refine⟨(hsea.c w hw).at hs (memP (P:=[_,_,_])),?_⟩;have:=(hsea.p w hw).p.b;rw[Yc,hlm] at this;exact this)).mono ?_
  rintro _ h207 ⟨mo,rfl,hsm⟩;have hs:=(hs.join hsm).perm List.perm_append_comm;refine⟨mo,rfl,?_⟩;refine hs.put 3 rfl (o:=0) (vs:=resA 1 l2 mo 0 ⟨none,0,0⟩) rfl (show 5<=5 by decide) fun h208 hs=>?_;refine⟨1,l2,mo,0,⟨none,0,0⟩,hs.at 3 rfl (o:=0) (n:=5) rfl,l2,mo,⟨none,0,0⟩,_,?_,hs,fun h0 h2 A' hA hs'=>?_⟩
  ·rw[hr];rfl
  ·rw[hr,eV,hlm];have hml:=most_len L.length ((V.map Vr.c).map Cr.cf);exact⟨⟨V.map Vr.c,hs'.rlm (e:=28) (by rw[List.map_map];exact hA _ (Yn _ Yx)) (by omega) (by rw[Yc];omega),fun c hc=>by
     obtain⟨w,hw,rfl⟩:=Yp.1 hc;exact (hsea.c w hw) h0 h2 A' (fun i hi=>hA i (memP (P:=[_,_,_,_]) i hi)) hs',rfl⟩,
    hs'.rlm (hA _ Yx) (by omega) (Yys (Nat.le_of_eq hml) (by omega)),RL.nil0⟩
end Go.VC
end

section
namespace Go.VC
open Go.Proofs
variable {h:Heap} {R:Value->Heap->Prop}

def V3a (p0:Sl) (p1 p2:Int) (h6:Heap) (R:Value->Heap->Prop):Prop:=
 Fn Pz 13 #[vS p0,vI p1,vI p2] h6 (fun v7 h14=>∃(x8:Int) (x9 x10:Sl) (x11:Int) (x12:Sl) (x13:Int),v7=.tuple ⟨[.agg ⟨(L5 x8 x9 x10 x11 x12)⟩,vI x13]⟩/\Wn h14 [vI 0,.slice none 0 0,.slice none 0 0,vI 0,.slice none 0 0] 32 fun h15=>Wp h15 (aS h14 0) 5 (L5 x8 x9 x10 x11 x12) fun h16=>Fn Pz 14 #[vS p0,vI p1,vI p2] h16 (fun v17 h24=>∃(x18:Int) (x19 x20:Sl) (x21:Int) (x22:Sl) (x23:Int),v17=.tuple ⟨[.agg ⟨(L5 x18 x19 x20 x21 x22)⟩,vI x23]⟩/\Wn h24 [vI 0,.slice none 0 0,.slice none 0 0,vI 0,.slice none 0 0] 39 fun h25=>Wp h25 (aS h24 0) 5 (L5 x18 x19 x20 x21 x22) fun h26=>sB (x13==x23) (∃x27 x28 x29 x30 x31,aL5 h26 (aS h14 0) x27 x28 x29 x30 x31/\∃x32 x33 x34 x35 x36,aL5 h26 (aS h24 0) x32 x33 x34 x35 x36/\Fn Pz 15 #[.agg ⟨(L5 x27 x28 x29 x30 x31)⟩,.agg ⟨(L5 x32 x33 x34 x35 x36)⟩] h26 (fun v37 h39=>∃x38,iB v37 x38/\R (.bool x38) h39)) (R (.bool false) h26)))
def W3 (p0:Sl) (p1 p2:Int):Prop:=
 Fn Pz 11 #[] h (fun v1 h3=>∃x2,iB v1 x2/\sB (!x2) (R (.bool false) h3) (Fn Pz 12 #[vS p0,.agg ⟨[.slice none 0 0,.slice none 0 0]⟩] h3 (fun v4 h6=>∃x5,iB v4 x5/\sB (!x5) (R (.bool true) h6) (sB (decide (p2>150)) (sB (decide (p2<=20000)) (R (.bool true) h6) (V3a p0 p1 p2 h6 R)) (V3a p0 p1 p2 h6 R)))))
theorem vc3 (p0:Sl) (p1 p2:Int) (H:@W3 h R p0 p1 p2):Fn Pz 3 #[vS p0,vI p1,vI p2] h R:=fnI (A:=.z) (by kernel_rfl) H

def W11 :Prop:=
 Fn Pz 30 #[.bool true] h
 (fun v1 h10=>∃(x2:ByteArray) (x3 x4:Sl) (x5 x6 x7:Int) (x8 x9:Sl),v1=.agg ⟨(L2 x2 x3 x4 x5 x6 x7 x8 x9)⟩ /\
 Fn Pz 29 #[.agg ⟨(L2 x2 x3 x4 x5 x6 x7 x8 x9)⟩] h10
 (fun v11 h14=>∃(x12:Sl) (x13:Int),v11=.tuple ⟨[vS x12,vI x13]⟩ /\
 Fn Pz 13 #[vS x12,vI 1,vI 1000] h14
 (fun v15 h22=>∃(x16:Int) (x17 x18:Sl) (x19:Int) (x20:Sl) (x21:Int),v15=.tuple ⟨[.agg ⟨(L5 x16 x17 x18 x19 x20)⟩,vI x21]⟩ /\
 Wn h22 [vI 0,.slice none 0 0,.slice none 0 0,vI 0,.slice none 0 0] 32 fun h23=>
 Wp h23 (aS h22 0) 5 (L5 x16 x17 x18 x19 x20) fun h24=>
 sB (x13==0)
 (sB (x21==0)
 (∃x25,rI h24 (aS h22 0) x25 /\
 sB (x25==1)
 (∃x26,rS h24 (aS h22 1) x26 /\
 sB (decide ((x26.n:Int)>5))
 (∃x27,rS h24 (aS h22 2) x27 /\
 sB ((x27.n:Int)==9)
 (∃x28,rS h24 (aS h22 2) x28 /\
 NB x28.a fun b29 o30=>Ib 1 x28.n /\
 ∃x31,rI h24 ⟨b29,o30+Int.toNat 1*1,none⟩ x31 /\
 R (.bool (x31==1)) h24)
 (R (.bool false) h24))
 (R (.bool false) h24))
 (R (.bool false) h24))
 (R (.bool false) h24))
 (R (.bool false) h24))))
theorem vc11  (H:@W11 h R ):Fn Pz 11 #[] h R:=fnI (A:=.z) (by kernel_rfl) H

end Go.VC
end
