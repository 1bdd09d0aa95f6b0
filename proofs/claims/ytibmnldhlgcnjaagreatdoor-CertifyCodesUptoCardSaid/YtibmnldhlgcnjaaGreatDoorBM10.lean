/- FkR FkS FkT FkU FkV FkZ FkZa FkZb FkG FkH FkZc FkArgs. -/
import Derived.Test.YtibmnldhlgcnjaaGreatDoorBM09
import Derived.Test.YtibmnldhlgcnjaaGreatDoorRows
set_option linter.all false
set_option maxRecDepth 100000
set_option maxHeartbeats 8000000

section
namespace Go.VC
open Go.Proofs Go.LexS Go.RowKit
abbrev rdC (s:Sl) (k:Nat) (f:Bool):List Value:=[.slice s.a s.n s.c,.int .i64 (k:Int),.bool f]
def Rds (h0 h:Heap) (ty r:Nat) (s:Sl) (B:List Int) (o:Option (List Int)) (L:List It):Prop:=∃k:Nat,k<=B.length/\St h0 h (.blk r (rdC s k o.isNone) ty::L)/\∀l,o=some l->B.drop k=l
def RdV (h0:Heap) (ty r:Nat) (s:Sl) (B:List Int) (L:List It) (x:Option (Int × List Int)) (v:Value) (h':Heap):Prop:=∃n:Int,v=.int .i64 n/\Rds h0 h' ty r s B (x.map Prod.snd) L/\∀q,x=some q->n=q.1
theorem Rds.bad {h0 h:Heap} {ty r:Nat} {s:Sl} {B:List Int} {o:Option (List Int)} {L:List It} {k:Nat} (hk:k<=B.length) (hs:St h0 h (.blk r (rdC s k true) ty::L)) (ho:o=none):Rds h0 h ty r s B o L:=⟨k,hk,by rw[ho];exact hs,fun l hl=>by rw[ho] at hl;cases hl⟩
theorem Rds.ok {h0 h:Heap} {ty r:Nat} {s:Sl} {B:List Int} {o:Option (List Int)} {L:List It} {k:Nat} (hk:k<=B.length) (hs:St h0 h (.blk r (rdC s k false) ty::L)) (ho:o=some (B.drop k)):Rds h0 h ty r s B o L:=⟨k,hk,by rw[ho];exact hs,fun l hl=>by rw[ho] at hl;injection hl⟩
theorem dropG {B:List Int} {k:Nat} {x:Int} (h:B[k]?=some x):B.drop k=x::B.drop (k+1):=by
 obtain⟨h1,h2⟩:=Ya.1 h;rw[List.drop_eq_getElem_cons h1,h2]
theorem new72 (p:Sl) (B:List Int) (h:Heap) (hB:RL h 1 p u8C B):Fn Pz 72 #[.slice p.a p.n p.c] h fun v h'=>∃(s:Sl) (h1:Heap),v=.pointer (some ⟨h1.size,0,none⟩)/\Ext h h1/\RL h1 1 s u8C B/\St h1 h' [.blk h1.size (rdC s 0 false) 212]:=by
 apply vc72 p;unfold W72;have hn:=hB.ln;have hsm:=hB.sm;refine ((St.refl h).nil_ 5 1).appRw 0 rfl app48 hB.rw (u8rows _) hB.nil (oneU _) (by show (0+p.n)*1<=_;omega) (by show 0+p.n<=_;simp only[maxLen];omega) fun s1 h2 _ hs=>?_;have hR:RL h2 1 s1 u8C B:=hs.rl 0 rfl (by decide) hsm;have hE:=hs.ext;refine (St.refl h2).newb fun h3 hs=>?_;exact⟨s1,h2,rfl,hE,hR,hs⟩
theorem next167 (r:Nat) (s:Sl) (B:List Int) (k:Nat) (h0 h:Heap) (L:List It) (hB:RL h0 1 s u8C B) (hk:k<=B.length) (hs:St h0 h (.blk r (rdC s k false) 212::L)) :
  Fn Pz 167 #[.pointer (some ⟨r,0,none⟩),.int .i64 1] h fun v h'=>(∃x,B[k]?=some x/\∃s':Sl,v=.slice s'.a s'.n s'.c/\RL h0 1 s' u8C [x]/\St h0 h' (.blk r (rdC s (k+1) false) 212::L))\/(k=B.length/\∃s':Sl,v=.slice s'.a s'.n s'.c/\St h0 h' (.blk r (rdC s k true) 212::L)):=by
 apply vc167 ⟨r,0,none⟩ 1;unfold W167;have hn:=hB.ln;have hsm:=hB.sm;have hcap:=hB.cap;refine⟨false,hs.rd 0 rfl (i:=2) rfl,?_⟩;refine⟨s,hs.rd 0 rfl (i:=0) rfl,(k:Int),hs.rd 0 rfl (i:=1) rfl,?_⟩;rw[w64 (n:=(s.n:Int)-(k:Int)) (by omega) (by omega)];refine sBi (fun c=>?_) (fun c=>?_)
 .refine hs.put 0 rfl (o:=2) (vs:=[.bool true]) rfl (Yyt 3) fun h5 hs=>?_;exact .inr ⟨by omega,⟨none,0,0⟩,rfl,hs⟩
 .refine⟨(k:Int),hs.rd 0 rfl (i:=1) rfl,?_⟩;rw[w64 (n:=(k:Int)+1) (by omega) (by omega)];refine hs.put 0 rfl (o:=1) (vs:=[.int .i64 ((k:Int)+1)]) rfl (by show 2<=3;decide) fun h7 hs=>?_;replace hs:St h0 h7 (.blk r (rdC s (k+1) false) 212::L):=hs;refine⟨s,hs.rd 0 rfl (i:=0) rfl,((k+1:Nat):Int),hs.rd 0 rfl (i:=1) rfl,((k+1:Nat):Int),hs.rd 0 rfl (i:=1) rfl,?_⟩;rw[show ((k+1:Nat):Int)-1=(k:Int) by omega,w64 (n:=(k:Int)) (by omega) (by omega)];refine⟨⟨by omega,by omega,by omega⟩,?_⟩;obtain⟨x,gx⟩:∃x,B[k]?=some x:=⟨B[k],Yi (by omega)⟩;have hF:=(hB.from (i:=k) (by omega)).take (i:=1) (by show 1<=s.n-k;omega);rw[dropG gx] at hF;change RL h0 1 ⟨subA (subA s.a k s.c 1) 0 (s.c-k) 1,1,s.c-k⟩ u8C [x] at hF;rw[subA_zero] at hF;refine .inl ⟨x,gx,⟨subA s.a k s.c 1,1,s.c-k⟩,?_,hF,hs⟩;rw[show Int.toNat ((k+1:Nat):Int)-Int.toNat (k:Int)=1 by omega];rfl
theorem rdU_cons (j:Nat) (f:Bool) (c:Int) (l:List Int):rdU (j+1) f (c::l)=if c<128 then (if (c=0/\f=false)\/(j=0/\1<c) then none else some (c.toNat,l)) else (rdU j false l).map fun q=>(c.toNat-128+128*q.1,q.2):=rfl
theorem rdU_nil (j:Nat) (f:Bool):rdU j f []=none:=by cases j<;>rfl
theorem integer131 (r:Nat) (s:Sl) (B:List Int) (k:Nat) (h0 h:Heap) (L:List It) (hB:RL h0 1 s u8C B) (hb:Byt B) (hk0:k<=B.length) (hs:St h0 h (.blk r (rdC s k false) 212::L)) :
  Fn Pz 131 #[.pointer (some ⟨r,0,none⟩)] h (RdV h0 212 r s B L (rIq (B.drop k))):=by
 apply vc131 _;unfold W131 V131b V131a;have hn:=hB.ln;have hsm:=hB.sm;have fail:∀ {h':Heap} {m:Nat} (n:Int),m<=B.length->rdU 10 true (B.drop k)=none->St h0 h' (.blk r (rdC s m true) 212::L)->RdV h0 212 r s B L (rIq (B.drop k)) (.int .i64 n) h':=fun {h' m} n hm hr hs=>by
  have e:rIq (B.drop k)=none:=by unfold rIq;rw[hr];rfl
  exact⟨n,rfl,Rds.bad hm hs (by rw[e];rfl),fun q hq=>by rw[e] at hq;cases hq⟩
 have suc:∀ {h':Heap} {m:Nat} {n:Int} (u:Nat),n=zag u->m<=B.length->rdU 10 true (B.drop k)=some (u,B.drop m)->St h0 h' (.blk r (rdC s m false) 212::L)->RdV h0 212 r s B L (rIq (B.drop k)) (.int .i64 n) h':=fun {h' m n} u hz hm hr hs=>by
  have e:rIq (B.drop k)=some (zag u,B.drop m):=by unfold rIq;rw[hr];rfl
  exact⟨n,rfl,Rds.ok hm hs (by rw[e];rfl),fun q hq=>by rw[e] at hq;injection hq with hq;rw[<-hq];exact hz⟩
 refine⟨fun u x h' μ=>∃i:Nat,x=(i:Int)/\μ=10-i/\i<=10/\k+i<=B.length/\St h0 h' (.blk r (rdC s (k+i) false) 212::L) /\
  ((i<=9/\∃a:Nat,u=(a:Int)/\a<128^i/\rdU 10 true (B.drop k)=(rdU (10-i) (decide (i=0)) (B.drop (k+i))).map fun q=>(a+128^i*q.1,q.2))\/(i=10/\rdU 10 true (B.drop k)=none)),
  ⟨_,0,rfl,rfl,by omega,by omega,hs,.inl ⟨by omega,0,rfl,by decide,?_⟩⟩,?_⟩
 .show rdU 10 true (B.drop k)=Option.map _ (rdU 10 true (B.drop k));cases rdU 10 true (B.drop k) with
  | none=>rfl
  | some q=>simp
 clear hs;rintro-u _ h6 μ ⟨i,rfl,rfl,hi,hk,hs,hI⟩;refine sBi (fun c=>?_) (fun c=>?_);rotate_left
 .rcases hI with ⟨h9,_⟩ | ⟨_,hr⟩
  .omega
  .refine hs.put 0 rfl (o:=2) (vs:=[.bool true]) rfl (Yyt 3) fun h32 hs=>?_;exact fail 0 hk hr hs
 rcases hI with ⟨h9,a,rfl,ha,hr⟩ | ⟨h10,_⟩;rotate_left
 .omega
 obtain⟨j,hj⟩:∃j,10-i=j+1:=⟨9-i,by omega⟩;rw[hj] at hr;refine (next167 r s B (k+i) h0 h6 L hB hk hs).mono ?_;rintro _ h9' (⟨x,gx,s8,rfl,hR,hs⟩ | ⟨he,s8,rfl,hs⟩);rotate_left
 .refine⟨s8,rfl,true,hs.rd 0 rfl (i:=2) rfl,?_⟩;rw[he,List.drop_length,rdU_nil] at hr;exact fail 0 hk hr hs
 refine⟨s8,rfl,false,hs.rd 0 rfl (i:=2) rfl,?_⟩;have hR:=hR.rw.ext hs.ext;have hx:=hb x (Yb gx);have hkl:k+i+1<=B.length:=(Ya.1 gx).1;rw[dropG gx,rdU_cons] at hr;obtain⟨m,rfl⟩:∃m:Nat,x=(m:Int):=⟨x.toNat,by omega⟩;have get:∀ {F:Nat->Nat->Prop},(∀b o,(∃y:Int,hc h9' ⟨b,o+Int.toNat 0*1,none⟩=some (.int .u8 y)/\y=(m:Int))->F b o)->NB s8.a fun b o=>(0<=(0:Int)/\(0:Int)<(s8.n:Nat))/\F b o:=fun {F} hF=>by
  refine hR.nbI (x:=0) (by decide) (by rw[hR.ln];show (0:Int)<1;decide) fun b o d gd t=>hF b o ⟨d,t.hd,?_⟩;injection gd with gd;exact gd.symm
 refine get fun b11 o12 ⟨y,t,ey⟩=>⟨y,t,?_⟩;subst ey;refine⟨by rw[w64 (by omega) (by omega)];omega,?_⟩;refine get fun b14 o15 ⟨y,t2,ey⟩=>⟨y,t2,?_⟩;subst ey;have bits:=fun h=>acc_bits (a:=a) (i:=i) (c:=m) h9 (by omega) ha h;refine sBi (fun c1=>?_) (fun c1=>?_)
 .rw[if_pos c1] at hr;have hmm:m%128=m:=Nat.mod_eq_of_lt (by omega);have good:¬(((m:Int)=0/\decide (i=0)=false)\/(j=0/\1<(m:Int)))->∀ {h':Heap},St h0 h' (.blk r (rdC s (k+i+1) false) 212::L) ->
    RdV h0 212 r s B L (rIq (B.drop k)) (.int .i64 (xorI .i64 (IntKind.wrap .i64 (shrI .u64 (orI .u64 (a:Int) (shlI .u64 (IntKind.wrap .u64 (andI .u8 (m:Int) 127)) (IntKind.wrap .i64 (7*(i:Int))))) 1)) (IntKind.wrap .i64 (0-(IntKind.wrap .i64 (andI .u64 (orI .u64 (a:Int) (shlI .u64 (IntKind.wrap .u64 (andI .u8 (m:Int) 127)) (IntKind.wrap .i64 (7*(i:Int))))) 1)))))) h':=fun hg {h'} hs=>by
   obtain⟨b1,b2⟩:=bits (fun e=>by
    by_cases h:1<m
    .exact absurd (Or.inr ⟨by omega,by omega⟩) hg
    .omega)
   rw[hmm] at b1 b2;rw[b1];rw[if_neg hg] at hr;refine suc (a+128^i*m) (zag_bits ?_) hkl hr hs;refine Nat.lt_of_lt_of_le b2 ?_;split
   .exact Yyt _
   .have:128^(i+1)<=128^9:=Nat.pow_le_pow_right (by decide) (by omega);have e:128^9=9223372036854775808:=by decide
    omega
  refine get fun b17 o18 ⟨y,t3,ey⟩=>⟨y,t3,?_⟩;subst ey;have nine:∀ {K:Heap->Prop},(∀h',St h0 h' (.blk r (rdC s (k+i+1) (decide ((m:Int)>1))) 212::L)->K h')->NB s8.a fun b o=>(0<=(0:Int)/\(0:Int)<(s8.n:Nat))/\∃y:Int,hc h9' ⟨b,o+Int.toNat 0*1,none⟩=some (.int .u8 y)/\(okAt h9' ⟨r,0+2,none⟩ 1/\∀h24:Heap,h24=hputs h9' ⟨r,0+2,none⟩ 0 [.bool (decide (y>1))]->K h24):=fun {K} hK=>by
   refine get fun b21 o22 ⟨y,t4,ey⟩=>⟨y,t4,?_⟩;subst ey;exact hs.put 0 rfl (o:=2) (vs:=[.bool (decide ((m:Int)>1))]) rfl (Yyt 3) fun h24 hs=>hK h24 hs
  have mid:¬((m:Int)=0/\decide (i=0)=false)->sB ((i:Int)==9) (NB s8.a fun b o=>(0<=(0:Int)/\(0:Int)<(s8.n:Nat))/\∃y:Int,hc h9' ⟨b,o+Int.toNat 0*1,none⟩=some (.int .u8 y)/\(okAt h9' ⟨r,0+2,none⟩ 1/\∀h24:Heap,h24=hputs h9' ⟨r,0+2,none⟩ 0 [.bool (decide (y>1))]->0<=(1:Int)/\RdV h0 212 r s B L (rIq (B.drop k)) (.int .i64 (xorI .i64 (IntKind.wrap .i64 (shrI .u64 (orI .u64 (a:Int) (shlI .u64 (IntKind.wrap .u64 (andI .u8 (m:Int) 127)) (IntKind.wrap .i64 (7*(i:Int))))) 1)) (IntKind.wrap .i64 (0-(IntKind.wrap .i64 (andI .u64 (orI .u64 (a:Int) (shlI .u64 (IntKind.wrap .u64 (andI .u8 (m:Int) 127)) (IntKind.wrap .i64 (7*(i:Int))))) 1)))))) h24))
    (okAt h9' ⟨r,0+2,none⟩ 1/\∀h25:Heap,h25=hputs h9' ⟨r,0+2,none⟩ 0 [.bool false]->0<=(1:Int)/\RdV h0 212 r s B L (rIq (B.drop k)) (.int .i64 (xorI .i64 (IntKind.wrap .i64 (shrI .u64 (orI .u64 (a:Int) (shlI .u64 (IntKind.wrap .u64 (andI .u8 (m:Int) 127)) (IntKind.wrap .i64 (7*(i:Int))))) 1)) (IntKind.wrap .i64 (0-(IntKind.wrap .i64 (andI .u64 (orI .u64 (a:Int) (shlI .u64 (IntKind.wrap .u64 (andI .u8 (m:Int) 127)) (IntKind.wrap .i64 (7*(i:Int))))) 1)))))) h25):=fun hz=>by
   refine sBe (fun c3=>?_) (fun c3=>?_)
   .refine nine fun h24 hs=>⟨by decide,?_⟩;by_cases h1:(m:Int)>1
    .rw[decide_eq_true h1] at hs;exact fail _ hkl (by rw[hr,if_pos (Or.inr ⟨by omega,h1⟩)];rfl) hs
    .rw[decide_eq_false h1] at hs;exact good (by rintro (h | h);exact hz h;exact h1 h.2) hs
   .refine hs.put 0 rfl (o:=2) (vs:=[.bool false]) rfl (Yyt 3) fun h25 hs=>⟨by decide,?_⟩;exact good (by rintro (h | h);exact hz h;omega) hs
  refine sBe (fun c2=>?_) (fun c2=>?_)
  .refine sBi (fun c3=>?_) (fun c3=>?_)
   .refine hs.put 0 rfl (o:=2) (vs:=[.bool true]) rfl (Yyt 3) fun h20 hs=>⟨by decide,?_⟩;exact fail _ hkl (by rw[hr,if_pos (Or.inl ⟨c2,decide_eq_false (by omega)⟩)];rfl) hs
   .exact mid (by rintro⟨_,h⟩;have:=Yyo h;omega)
  .exact mid (fun h=>c2 h.1)
 .rw[if_neg c1] at hr;refine⟨_,(show 10-(i+1)<10-i by omega),i+1,by rw[w64 (by omega) (by omega)];omega,rfl,by omega,by omega,hs,?_⟩;have hmm:m%128=m-128:=by omega
  by_cases h9i:i=9
  .refine .inr ⟨by omega,?_⟩;rw[hr,show j=0 by omega];rfl
  .obtain⟨b1,b2⟩:=bits (fun e=>absurd e h9i);rw[if_neg h9i] at b2;refine .inl ⟨by omega,_,b1,b2,?_⟩;rw[hr,show 10-(i+1)=j by omega,show decide (i+1=0)=false from rfl,Option.map_map,<-Nat.add_assoc,hmm];congr 1
   funext q
   simp only[Function.comp,Prod.mk.injEq,and_true,Ys];rw[Nat.mul_add,Nat.pow_succ,<-Nat.mul_assoc,Nat.add_assoc]
theorem Rds.sub {h0 h:Heap} {ty r:Nat} {s:Sl} {B:List Int} {o:Option (List Int)} {L L':List It} (hr:Rds h0 h ty r s B o L) (hl:L'.Sublist L):Rds h0 h ty r s B o L':=by
 obtain⟨k,hk,hs,ho⟩:=hr;exact⟨k,hk,hs.sub (.cons_cons _ hl),ho⟩
def RdZ (h0:Heap) (ty r:Nat) (s:Sl) (B:List Int) (L:List It) (x:Option (Int × List Int)) (v:Value) (h':Heap):Prop:=v=.int .i64 ((x.map Prod.fst).getD 0)/\Rds h0 h' ty r s B (x.map Prod.snd) L
theorem part130 {g:FuncId} {fa fc:Array Value} (hg:callable Pz g=true) (x:List Int->Option (Int × List Int)) (r:Nat) (s:Sl) (B:List Int) (h0 h:Heap) (o:Option (List Int)) (L:List It) (hr:Rds h0 h 212 r s B o L)
  (hread:∀k,k<=B.length->St h0 h (.blk r (rdC s k false) 212::L)->Fn Pz g (fa ++ #[]++fc) h (RdV h0 212 r s B L (x (B.drop k)))) :
  Fn Pz 130 #[.pointer (some ⟨r,0,none⟩),.func (.func g) fa fc] h (RdZ h0 212 r s B L (o.bind x)):=by
 apply vc130 _ _;unfold W130 V130a;obtain⟨k,hk,hs,ho⟩:=hr;refine⟨o.isNone,hs.rd 0 rfl (i:=2) rfl,?_⟩;cases o with
 | none=>exact⟨rfl,k,hk,hs,fun l hl=>by cases hl⟩
 | some l=>
  refine⟨(k:Int),hs.rd 0 rfl (i:=1) rfl,?_⟩;have el:=ho l rfl;subst el;simp only[hg,cond];refine (hread k hk hs).mono ?_;rintro _ h8 ⟨n,rfl,⟨k',hk',hs,ho'⟩,hv⟩;refine⟨n,rfl,_,hs.rd 0 rfl (i:=2) rfl,?_⟩;show sB (Option.map Prod.snd (x (B.drop k))).isNone _ _;show sB _ (okAt h8 ⟨r,0+1,none⟩ 1/\∀h10:Heap,h10=hputs h8 ⟨r,0+1,none⟩ 0 [.int .i64 (k:Int)]->RdZ h0 212 r s B L (x (B.drop k)) (.int .i64 0) h10) (RdZ h0 212 r s B L (x (B.drop k)) (.int .i64 n) h8);cases hx:x (B.drop k) with
  | none=>
   rw[hx] at hs;refine hs.put 0 rfl (o:=1) (vs:=[.int .i64 (k:Int)]) rfl (show 2<=3 by decide) fun h10 hs=>?_;exact⟨rfl,Rds.bad hk hs rfl⟩
  | some q=>
   rw[hx] at hs ho';exact⟨by rw[hv q hx];rfl,k',hk',hs,ho'⟩
theorem call131:callable Pz 131=true:=by kernel_rfl
theorem call132:callable Pz 132=true:=by kernel_rfl
theorem call135:callable Pz 135=true:=by kernel_rfl
theorem int73 (r:Nat) (s:Sl) (B:List Int) (h0 h:Heap) (o:Option (List Int)) (L:List It) (hB:RL h0 1 s u8C B) (hb:Byt B) (hr:Rds h0 h 212 r s B o L) :
  Fn Pz 73 #[.pointer (some ⟨r,0,none⟩)] h (RdZ h0 212 r s B L (o.bind rIq)):=by
 apply vc73 _;unfold W73;refine (part130 (fa:=#[.pointer (some ⟨r,0,none⟩)]) (fc:=#[]) call131 rIq r s B h0 h o L hr fun k hk hs=>integer131 r s B k h0 h L hB hb hk hs).mono ?_;rintro _ h' ⟨rfl,hz⟩;exact⟨_,rfl,rfl,hz⟩
theorem bounded133 (hi:Int) (r:Nat) (s:Sl) (B:List Int) (k:Nat) (h0 h:Heap) (L:List It) (hB:RL h0 1 s u8C B) (hb:Byt B) (hk:k<=B.length) (hs:St h0 h (.blk r (rdC s k false) 212::L)) :
  Fn Pz 133 #[.pointer (some ⟨r,0,none⟩),.int .i64 0,.int .i64 hi] h (RdV h0 212 r s B L (rBq hi (B.drop k))):=by
 apply vc133 _ 0 hi;unfold W133;refine (integer131 r s B k h0 h L hB hb hk hs).mono ?_;rintro _ h3 ⟨n,rfl,⟨k',hk',hs,ho⟩,hv⟩;refine⟨n,rfl,_,hs.rd 0 rfl (i:=2) rfl,?_⟩;have bad:∀ {h5:Heap},rBq hi (B.drop k)=none->St h0 h5 (.blk r (rdC s k' true) 212::L)->RdV h0 212 r s B L (rBq hi (B.drop k)) (.int .i64 n) h5:=fun {h5} e hs=>⟨n,rfl,Rds.bad hk' hs (by rw[e];rfl),fun q hq=>by rw[e] at hq;cases hq⟩;cases hx:rIq (B.drop k) with
 | none=>
  refine hs.put 0 rfl (o:=2) (vs:=[.bool true]) rfl (Yyt 3) fun h5 hs=>?_;exact bad (by unfold rBq;rw[hx];rfl) hs
 | some q=>
  have en:=hv q hx;rw[hx] at ho;have e:rBq hi (B.drop k)=if 0<=q.1/\q.1<=hi then some q else none:=by unfold rBq;rw[hx];rfl
  refine sBi (fun c=>?_) (fun c=>?_)
  .refine hs.put 0 rfl (o:=2) (vs:=[.bool true]) rfl (Yyt 3) fun h6 hs=>?_;exact bad (by rw[e,if_neg (by omega)]) hs
  .refine hs.put 0 rfl (o:=2) (vs:=[.bool (decide (n>hi))]) rfl (Yyt 3) fun h7 hs=>?_;by_cases c2:n>hi
   .refine bad (by rw[e,if_neg (by omega)]) ?_;rw[decide_eq_true c2] at hs;exact hs
   .rw[decide_eq_false c2] at hs;rw[if_pos (by omega)] at e;exact⟨n,rfl,Rds.ok hk' hs (by rw[e];exact congrArg some (ho _ rfl).symm),fun q' hq=>by rw[e] at hq;injection hq with hq;rw[<-hq];exact en⟩
theorem bounded74 (hi:Int) (r:Nat) (s:Sl) (B:List Int) (h0 h:Heap) (o:Option (List Int)) (L:List It) (hB:RL h0 1 s u8C B) (hb:Byt B) (hr:Rds h0 h 212 r s B o L) :
  Fn Pz 74 #[.pointer (some ⟨r,0,none⟩),.int .i64 0,.int .i64 hi] h (RdZ h0 212 r s B L (o.bind (rBq hi))):=by
 apply vc74 _ 0 hi;unfold W74;obtain⟨k,hk,hs,ho⟩:=hr;refine hs.newb fun h1 hs=>?_;refine hs.newb fun h2 hs=>?_;refine hs.newb fun h3 hs=>?_;refine⟨_,hs.rd 2 rfl (i:=0) rfl,?_⟩;have hs:=hs.pick 3 rfl;refine (part130 (fa:=#[]) (fc:=#[.pointer (some ⟨h.size,0,none⟩),.pointer (some ⟨h1.size,0,none⟩),.pointer (some ⟨h2.size,0,none⟩)]) call132 (rBq hi) r s B h0 h3 o _ ⟨k,hk,hs,ho⟩ fun k hk hs=>?_).mono ?_
 .show Fn Pz 132 #[.pointer (some ⟨h.size,0,none⟩),.pointer (some ⟨h1.size,0,none⟩),.pointer (some ⟨h2.size,0,none⟩)] h3 _;apply vc132;unfold W132;refine⟨_,hs.rd 3 rfl (i:=0) rfl,_,hs.rd 2 rfl (i:=0) rfl,_,hs.rd 1 rfl (i:=0) rfl,?_⟩;refine (bounded133 hi r s B k h0 h3 _ hB hb hk hs).mono ?_;rintro _ h6 ⟨n,rfl,hz⟩;exact⟨n,rfl,n,rfl,hz⟩
 .rintro _ h7 ⟨rfl,hz⟩;exact⟨_,rfl,rfl,hz.sub (.cons _ (.cons _ (.cons _ (List.Sublist.refl _))))⟩
theorem left75 (ty r:Nat) (s:Sl) (B:List Int) (h0 h:Heap) (o:Option (List Int)) (L:List It) (hB:RL h0 1 s u8C B) (hr:Rds h0 h ty r s B o L) :
  Fn Pz 75 #[.pointer (some ⟨r,0,none⟩)] h fun v h'=>∃n:Nat,v=.int .i64 (n:Int)/\h'=h/\∀l,o=some l->n=l.length:=by
 apply vc75 _;unfold W75;obtain⟨k,hk,hs,ho⟩:=hr;have hn:=hB.ln;have hsm:=hB.sm;refine⟨s,hs.rd 0 rfl (i:=0) rfl,_,hs.rd 0 rfl (i:=1) rfl,B.length-k,?_,rfl,fun l hl=>?_⟩
 .rw[w64 (by omega) (by omega)];congr 1;omega
 .rw[<-ho l hl,List.length_drop]
def endE (o:Option (List Int)):Int:=if o=some [] then 0 else 4
theorem end77 (r:Nat) (s:Sl) (B:List Int) (h0 h:Heap) (o:Option (List Int)) (L:List It) (hB:RL h0 1 s u8C B) (hr:Rds h0 h 212 r s B o L) :
  Fn Pz 77 #[.pointer (some ⟨r,0,none⟩)] h fun v h'=>v=.int .i64 (endE o)/\h'=h:=by
 apply vc77 _;unfold W77;have hl:=left75 212 r s B h0 h o L hB hr;obtain⟨k,hk,hs,ho⟩:=hr;refine⟨_,hs.rd 0 rfl (i:=2) rfl,?_⟩;cases o with
 | none=>exact⟨rfl,rfl⟩
 | some l=>
  refine sB_f rfl (hl.mono ?_);rintro _ _ ⟨n,rfl,rfl,hn⟩;have hn:=hn l rfl;refine⟨n,rfl,sBi (fun c=>?_) (fun c=>?_)⟩
  .refine⟨?_,rfl⟩;unfold endE;rw[if_neg (fun e=>by injection e with e;rw[e] at hn;simp at hn;omega)]
  .refine⟨?_,rfl⟩;unfold endE;rw[if_pos (by rw[List.length_eq_zero_iff.1 (show l.length=0 by omega)])]
def LsV (h0:Heap) (ty r:Nat) (s:Sl) (B:List Int) (L:List It) (x:Option (List Int × List Int)) (v:Value) (h':Heap):Prop:=
 ∃(s':Sl) (X:List Int),v=.slice s'.a s'.n s'.c/\Rds h0 h' ty r s B (x.map Prod.snd) (.sl s' 3 1 (X.map inC)::L)/\∀q,x=some q->X=q.1
def LsZ (h0:Heap) (ty r:Nat) (s:Sl) (B:List Int) (L:List It) (x:Option (List Int × List Int)) (v:Value) (h':Heap):Prop:=
 ∃s':Sl,v=.slice s'.a s'.n s'.c/\Rds h0 h' ty r s B (x.map Prod.snd) (.sl s' 3 1 (((x.map Prod.fst).getD []).map inC)::L)
theorem rL_lng {most:Int} {l:List Int} {q:List Int × List Int} (h:rL most l=some q):(q.1.length:Int)<=most:=by
 unfold rL rBq at h;rcases hr:rIq l with _ | ⟨n,l'⟩
 .rw[hr] at h;cases h
 .rw[hr] at h;simp only[Option.bind_some] at h;split at h
  .rename_i hc;have h:rMany rIq n.toNat l'=some q:=h;obtain⟨X,t⟩:=q;rw[rMany_lng h];show ((n.toNat:Nat):Int)<=most;have h1:0<=n:=hc.1;have h2:n<=most:=hc.2;omega
  .cases h
theorem St.swap {h0 h:Heap} {a b:It} {L:List It} (hs:St h0 h (a::b::L)):St h0 h (b::a::L):=hs.perm (List.Perm.swap b a L)
theorem list136 (most:Int) (hm:0<=most/\most<=1000) (r:Nat) (s:Sl) (B:List Int) (k:Nat) (h0 h:Heap) (L:List It) (hB:RL h0 1 s u8C B) (hb:Byt B) (hk:k<=B.length) (hs:St h0 h (.blk r (rdC s k false) 212::L)) :
  Fn Pz 136 #[.pointer (some ⟨r,0,none⟩),.int .i64 most,.func (.func 131) #[.pointer (some ⟨r,0,none⟩)] #[]] h (LsV h0 212 r s B L (rL most (B.drop k))):=by
 apply vc136 _ most _;unfold W136 V136a;refine (bounded133 most r s B k h0 h L hB hb hk hs).mono ?_;clear hs;rintro _ h3 ⟨n,rfl,⟨k',hk',hs,ho⟩,hv⟩;generalize hy:rBq most (B.drop k)=y at *;have eL:rL most (B.drop k)=y.bind fun q=>rMany rIq q.1.toNat q.2:=by unfold rL;rw[hy]
 have hyb:∀q,y=some q->0<=q.1/\q.1<=most:=fun q hq=>by
  rw[hq] at hy;unfold rBq at hy;rcases hr:rIq (B.drop k) with _ | t
  .rw[hr] at hy;cases hy
  .rw[hr] at hy;simp only[Option.bind_some] at hy;split at hy
   .rename_i hc;injection hy with hy;rw[<-hy];exact hc
   .cases hy
 refine⟨n,rfl,?_⟩;refine⟨fun so x h' μ=>∃(i:Nat) (X:List Int),x=(i:Int)/\μ=1000-i/\X.length=i/\i<=1000/\Rds h0 h' 212 r s B ((y.bind fun q=>rMany rIq i q.2).map Prod.snd) (.sl so 3 1 (X.map inC)::L) /\
   (∀q,y=some q->(i:Int)<=q.1/\∀p,rMany rIq i q.2=some p->X=p.1)/\(y=none->i=0),
  ⟨_,0,[],rfl,rfl,rfl,by omega,⟨k',hk',?_,?_⟩,fun q hq=>⟨(hyb q hq).1,fun p hp=>by injection hp with hp;rw[<-hp]⟩,fun _=>rfl⟩,?_⟩
 .have e:((y.bind fun q=>rMany rIq 0 q.2).map Prod.snd).isNone=(y.map Prod.snd).isNone:=by cases y<;>rfl
  rw[e];exact (hs.nil_ 3 1).swap
 .intro l hl;refine ho l ?_;cases y with
  | none=>cases hl
  | some q=>exact hl
 clear hs ho;rintro-so _ h9 μ ⟨i,X,rfl,rfl,hX,hi,⟨k2,hk2,hs,ho⟩,hq,hN⟩;refine sBi (fun c=>?_) (fun c=>?_)
 .refine⟨_,hs.rd 0 rfl (i:=2) rfl,?_⟩;cases hst:(y.bind fun q=>rMany rIq i q.2).map Prod.snd with
  | none=>
   rw[hst] at hs;refine⟨so,X,rfl,?_,fun q hq2=>?_⟩
   .refine Rds.bad hk2 hs ?_;rw[eL];cases hy2:y with
    | none=>rfl
    | some q=>
     rw[hy2] at hst;simp only[Option.bind_some,Option.map_eq_none_iff] at hst;simp only[Option.bind_some,Option.map_eq_none_iff];exact rMany_none hst _ (by have:=(hq q hy2).1;omega)
   .exfalso;rw[eL] at hq2;cases hy2:y with
    | none=>rw[hy2] at hq2;cases hq2
    | some q'=>
     rw[hy2] at hst hq2;simp only[Option.bind_some,Option.map_eq_none_iff] at hst hq2;rw[rMany_none hst _ (by have:=(hq q' hy2).1;omega)] at hq2;cases hq2
  | some l=>
   rw[hst] at hs;obtain⟨q,hy2⟩:∃q,y=some q:=by
    cases y with
    | none=>cases hst
    | some q=>exact⟨q,rfl⟩
   obtain⟨p,hp⟩:∃p,rMany rIq i q.2=some p:=by
    rw[hy2] at hst;cases hp:rMany rIq i q.2 with
    | none=>simp[hp] at hst
    | some p=>exact⟨p,rfl⟩
   have hl:B.drop k2=p.2:=by
    refine ho _ ?_;rw[hy2];simp[hp]
   have hXp:=(hq q hy2).2 p hp;have hnq:n=q.1:=hv q hy2;have hqb:=hyb q hy2;refine sB_t rfl ?_;simp only[call131,cond];refine (integer131 r s B k2 h0 h9 _ hB hb hk2 hs).mono ?_;rintro _ h16 ⟨z,rfl,⟨k3,hk3,hs,ho3⟩,hz⟩;refine⟨z,rfl,?_⟩;have hl1:=(hs.len 1 rfl (by decide)).1;rw[Yc] at hl1;refine hs.app 1 (s:=so) (rows:=X.map inC) rfl app42 (m:=1) [inC z] rfl rfl (by intro r hr;rw[Ye.1 hr];rfl) rfl (by omega) (by simp only[maxLen];omega) fun s18 h19 ns hs=>?_;refine⟨_,(show 1000-(i+1)<1000-i by omega),i+1,X++[z],by rw[w64 (by omega) (by omega)];omega,rfl,by rw[Yh];simp only[Yv];omega,by omega,⟨k3,hk3,?_,?_⟩,fun q' hq'=>?_,fun hn=>by rw[hy2] at hn;cases hn⟩
   .have e:((y.bind fun q=>rMany rIq (i+1) q.2).map Prod.snd).isNone=((rIq (B.drop k2)).map Prod.snd).isNone:=by
     rw[hy2];show ((rMany rIq (i+1) q.2).map Prod.snd).isNone=_;unfold rMany;rw[hp,hl];simp only[Option.bind_some];cases rIq p.2<;>rfl
    rw[e,Ym];exact hs
   .intro l' hl';refine ho3 l' ?_;rw[hy2] at hl';simp only[Option.bind_some] at hl';unfold rMany at hl';rw[hp] at hl';simp only[Option.bind_some] at hl';rw[hl];cases hr2:rIq p.2 with
    | none=>rw[hr2] at hl';cases hl'
    | some t=>rw[hr2] at hl';exact hl'
   .rw[hy2] at hq';injection hq' with hq';subst hq';refine⟨by omega,fun p' hp'=>?_⟩;unfold rMany at hp';rw[hp] at hp';simp only[Option.bind_some] at hp';cases hr2:rIq p.2 with
    | none=>rw[hr2] at hp';cases hp'
    | some t=>
     rw[hr2] at hp';simp only[Option.map_some,Option.some.injEq] at hp';rw[<-hp',hXp,hz t (by rw[hl];exact hr2)]
 .refine⟨so,X,rfl,⟨k2,hk2,?_,?_⟩,?_⟩;all_goals
   rw[eL]
  .cases hy2:y with
   | none=>rw[hy2] at hs;exact hs
   | some q=>
    rw[hy2] at hs;have:=(hq q hy2).1;have hnq:n=q.1:=hv q hy2;rw[show i=q.1.toNat by omega] at hs;exact hs
  .intro l hl;refine ho l ?_;cases hy2:y with
   | none=>rw[hy2] at hl;exact hl
   | some q=>
    rw[hy2] at hl;have:=(hq q hy2).1;have hnq:n=q.1:=hv q hy2;rw[show i=q.1.toNat by omega];exact hl
  .intro p hp;cases hy2:y with
   | none=>rw[hy2] at hp;cases hp
   | some q=>
    rw[hy2] at hp;have:=(hq q hy2).1;have hnq:n=q.1:=hv q hy2;exact (hq q hy2).2 p (by rw[show i=q.1.toNat by omega];exact hp)
theorem part134 {g:FuncId} {fa fc:Array Value} (hg:callable Pz g=true) (x:List Int->Option (List Int × List Int)) (r:Nat) (s:Sl) (B:List Int) (h0 h:Heap) (o:Option (List Int)) (L:List It) (hr:Rds h0 h 212 r s B o L)
  (hread:∀k,k<=B.length->St h0 h (.blk r (rdC s k false) 212::L)->Fn Pz g (fa ++ #[]++fc) h (LsV h0 212 r s B L (x (B.drop k)))) :
  Fn Pz 134 #[.pointer (some ⟨r,0,none⟩),.func (.func g) fa fc] h (LsZ h0 212 r s B L (o.bind x)):=by
 apply vc134 _ _;unfold W134 V134a;obtain⟨k,hk,hs,ho⟩:=hr;refine⟨o.isNone,hs.rd 0 rfl (i:=2) rfl,?_⟩;cases o with
 | none=>exact⟨⟨none,0,0⟩,rfl,k,hk,(hs.nil_ 3 1).swap,fun l hl=>by cases hl⟩
 | some l=>
  refine⟨(k:Int),hs.rd 0 rfl (i:=1) rfl,?_⟩;have el:=ho l rfl;subst el;simp only[hg,cond];refine (hread k hk hs).mono ?_;rintro _ h8 ⟨s7,X,rfl,⟨k',hk',hs,ho'⟩,hv⟩;refine⟨s7,rfl,_,hs.rd 0 rfl (i:=2) rfl,?_⟩;show sB (Option.map Prod.snd (x (B.drop k))).isNone (okAt h8 ⟨r,0+1,none⟩ 1/\∀h10:Heap,h10=hputs h8 ⟨r,0+1,none⟩ 0 [.int .i64 (k:Int)]->LsZ h0 212 r s B L (x (B.drop k)) (.slice none 0 0) h10) (LsZ h0 212 r s B L (x (B.drop k)) (.slice s7.a s7.n s7.c) h8);cases hx:x (B.drop k) with
  | none=>
   rw[hx] at hs;refine hs.put 0 rfl (o:=1) (vs:=[.int .i64 (k:Int)]) rfl (show 2<=3 by decide) fun h10 hs=>?_;exact⟨⟨none,0,0⟩,rfl,Rds.bad hk (((hs.eras 1).nil_ 3 1).swap) rfl⟩
  | some q=>
   rw[hx] at hs ho';exact⟨s7,rfl,k',hk',by rw[hv q hx] at hs;exact hs,ho'⟩
theorem ints76 (most:Int) (hm:0<=most/\most<=1000) (r:Nat) (s:Sl) (B:List Int) (h0 h:Heap) (o:Option (List Int)) (L:List It) (hB:RL h0 1 s u8C B) (hb:Byt B) (hr:Rds h0 h 212 r s B o L) :
  Fn Pz 76 #[.pointer (some ⟨r,0,none⟩),.int .i64 most] h (LsZ h0 212 r s B L (o.bind (rL most))):=by
 apply vc76 _ most;unfold W76;obtain⟨k,hk,hs,ho⟩:=hr;refine hs.newb fun h1 hs=>?_;refine hs.newb fun h2 hs=>?_;refine⟨_,hs.rd 1 rfl (i:=0) rfl,?_⟩;have hs:=hs.pick 2 rfl;refine (part134 (fa:=#[]) (fc:=#[.pointer (some ⟨h.size,0,none⟩),.pointer (some ⟨h1.size,0,none⟩)]) call135 (rL most) r s B h0 h2 o _ ⟨k,hk,hs,ho⟩ fun k hk hs=>?_).mono ?_
 .show Fn Pz 135 #[.pointer (some ⟨h.size,0,none⟩),.pointer (some ⟨h1.size,0,none⟩)] h2 _;apply vc135;unfold W135;refine⟨_,hs.rd 2 rfl (i:=0) rfl,_,hs.rd 1 rfl (i:=0) rfl,_,hs.rd 2 rfl (i:=0) rfl,?_⟩;refine (list136 most hm r s B k h0 h2 _ hB hb hk hs).mono ?_;rintro _ h6 ⟨s5,X,rfl,hz⟩;exact⟨s5,rfl,s5,X,rfl,hz⟩
 .rintro _ h7 ⟨s5,rfl,hz⟩;exact⟨s5,rfl,s5,rfl,hz.sub (.cons_cons _ (.cons _ (.cons _ (List.Sublist.refl _))))⟩
theorem fail139 (r:Nat) (s:Sl) (k k':Nat) (f:Bool) (h0 h:Heap) (L:List It) (hs:St h0 h (.blk r (rdC s k' f) 153::L)) :
  Fn Pz 139 #[.pointer (some ⟨r,0,none⟩),.int .i64 (k:Int)] h fun v h'=>v=.tuple ⟨[]⟩/\St h0 h' (.blk r (rdC s k true) 153::L):=by
 apply vc139 _ _;unfold W139;refine hs.put 0 rfl (o:=1) (vs:=[.int .i64 (k:Int)]) rfl (show 2<=3 by decide) fun h1 hs=>?_;refine hs.put 0 rfl (o:=2) (vs:=[.bool true]) rfl (Yyt 3) fun h2 hs=>?_;exact⟨rfl,hs⟩
theorem zag_ref {u:Nat} (hu:u<18446744073709551616) {F:Value->Prop} (hF:F (.int .i64 (zag u))) :
  (2:Int)≠0/\sB ((Int.tmod (u:Int) 2)==1) ((2:Int)≠0/\F (.int .i64 (IntKind.wrap .i64 ((IntKind.wrap .i64 (0-(IntKind.wrap .i64 (IntKind.wrap .u64 (Int.tdiv (u:Int) 2)))))-1)))) ((2:Int)≠0/\F (.int .i64 (IntKind.wrap .i64 (IntKind.wrap .u64 (Int.tdiv (u:Int) 2))))):=by
 have e1:Int.tdiv (u:Int) 2=((u/2:Nat):Int):=rfl;have e2:Int.tmod (u:Int) 2=((u%2:Nat):Int):=rfl;refine⟨by decide,?_⟩;rw[e1,e2,wu64 (n:=((u/2:Nat):Int)) (by omega) (by omega),w64 (n:=((u/2:Nat):Int)) (by omega) (by omega),w64 (n:=0-((u/2:Nat):Int)) (by omega) (by omega),w64 (n:=0-((u/2:Nat):Int)-1) (by omega) (by omega)];unfold zag at hF;refine sBe (fun c=>?_) (fun c=>?_)
 .rw[if_neg (by omega)] at hF;refine⟨by decide,?_⟩;rw[show 0-((u/2:Nat):Int)-1=-((u/2:Nat):Int)-1 by omega];exact hF
 .rw[if_pos (by omega)] at hF;exact⟨by decide,hF⟩
theorem acc_ref {a i c:Nat} (hi:i<=9) (ha:a<128^i) (h9:i=9->c%128<=1) :
  IntKind.wrap .u64 ((a:Int)+(IntKind.wrap .u64 (((c%128:Nat):Int)*((128^i:Nat):Int))))=((a+128^i*(c%128):Nat):Int)/\a+128^i*(c%128)<(if i=9 then 18446744073709551616 else 128^(i+1)):=by
 have hb:a+128^i*(c%128)<(if i=9 then 18446744073709551616 else 128^(i+1)):=by
  split
  .rename_i h;subst h;have:=h9 rfl;have e:128^9=9223372036854775808:=by decide
   rw[e] at ha ⊢;omega
  .rw[Nat.pow_succ];have h1:c%128<=127:=by omega
   have h2:=Nat.mul_le_mul_left (128^i) h1;omega
 have hlt:a+128^i*(c%128)<18446744073709551616:=by
  refine Nat.lt_of_lt_of_le hb ?_;split
  .exact Yyt _
  .have:128^(i+1)<=128^9:=Nat.pow_le_pow_right (by decide) (by omega);have e:128^9=9223372036854775808:=by decide
   omega
 refine⟨?_,hb⟩;have e:((c%128:Nat):Int)*((128^i:Nat):Int)=((128^i*(c%128):Nat):Int):=by rw[<-Int.natCast_mul,Nat.mul_comm]
 rw[e];generalize 128^i*(c%128)=z at *;rw[wu64 (n:=(z:Int)) (by omega) (by omega),wu64 (by omega) (by omega)];omega
theorem integer79 (r:Nat) (s:Sl) (B:List Int) (h0 h:Heap) (o:Option (List Int)) (L:List It) (hB:RL h0 1 s u8C B) (hb:Byt B) (hr:Rds h0 h 153 r s B o L) :
  Fn Pz 79 #[.pointer (some ⟨r,0,none⟩)] h (RdZ h0 153 r s B L (o.bind rIq)):=by
 apply vc79 _;unfold W79 V79a V79b;have hn:=hB.ln;have hsm:=hB.sm;obtain⟨k,hk0,hs,ho⟩:=hr;have fail:∀ {h':Heap} {f:Bool},o.bind rIq=none->St h0 h' (.blk r (rdC s k f) 153::L)->okAt h' ⟨r,0+2,none⟩ 1/\∀h36:Heap,h36=hputs h' ⟨r,0+2,none⟩ 0 [.bool true]->RdZ h0 153 r s B L (o.bind rIq) (.int .i64 0) h36:=fun {h' f} e hs=>by
  refine hs.put 0 rfl (o:=2) (vs:=[.bool true]) rfl (Yyt 3) fun h36 hs=>?_;exact⟨by rw[e];rfl,Rds.bad hk0 hs (by rw[e];rfl)⟩
 have no:o=none->o.bind rIq=none:=fun e=>by rw[e];rfl
 have nr:rdU 10 true (B.drop k)=none->o.bind rIq=none:=fun e=>by
  cases ho':o with
  | none=>rfl
  | some l=>rw[<-ho l ho'];show rIq (B.drop k)=none;unfold rIq;rw[e];rfl
 refine⟨(k:Int),hs.rd 0 rfl (i:=1) rfl,?_⟩;refine⟨fun u w x h' μ=>∃i:Nat,x=((k+i:Nat):Int)/\μ=10-i/\i<=10/\k+i<=B.length/\St h0 h' (.blk r (rdC s k o.isNone) 153::L) /\
  ((i<=9/\∃a:Nat,u=(a:Int)/\w=((128^i:Nat):Int)/\a<128^i/\rdU 10 true (B.drop k)=(rdU (10-i) (decide (i=0)) (B.drop (k+i))).map fun q=>(a+128^i*q.1,q.2))\/(i=10/\rdU 10 true (B.drop k)=none)),
  ⟨_,0,rfl,rfl,by omega,by omega,hs,.inl ⟨by omega,0,rfl,rfl,by decide,?_⟩⟩,?_⟩
 .show rdU 10 true (B.drop k)=Option.map _ (rdU 10 true (B.drop k));cases rdU 10 true (B.drop k) with
  | none=>rfl
  | some q=>simp
 clear hs;rintro-u w _ h8 μ ⟨i,rfl,rfl,hi,hk,hs,hI⟩;refine⟨s,hs.rd 0 rfl (i:=0) rfl,?_⟩;refine sBi (fun c=>?_) (fun c=>?_);rotate_left
 .refine fail ?_ hs;rcases hI with ⟨_,a,_,_,_,hr⟩ | ⟨_,hr⟩
  .refine nr ?_;rw[hr,List.drop_eq_nil_of_le (by omega),rdU_nil];rfl
  .exact nr hr
 refine⟨(k:Int),hs.rd 0 rfl (i:=1) rfl,?_⟩;rw[w64 (n:=(k:Int)+10) (by omega) (by omega)];refine sBi (fun c2=>?_) (fun c2=>?_);rotate_left
 .refine fail ?_ hs;rcases hI with ⟨_,_⟩ | ⟨_,hr⟩
  .omega
  .exact nr hr
 rcases hI with ⟨h9,a,rfl,rfl,ha,hr⟩ | ⟨h10,_⟩;rotate_left
 .omega
 refine⟨_,hs.rd 0 rfl (i:=2) rfl,?_⟩;cases ho1:o with
 | none=>
  rw[ho1] at fail no hs;exact fail rfl hs
 | some l=>
 rw[ho1] at fail hs no nr;have el:=ho l ho1;subst el;refine sB_t rfl ?_;obtain⟨j,hj⟩:∃j,10-i=j+1:=⟨9-i,by omega⟩;rw[hj] at hr;obtain⟨x,gx⟩:∃x,B[k+i]?=some x:=⟨B[k+i],Yi (by omega)⟩;have hx:=hb x (Yb gx);have hkl:k+i+1<=B.length:=(Ya.1 gx).1;rw[dropG gx,rdU_cons] at hr;obtain⟨m,rfl⟩:∃m:Nat,x=(m:Int):=⟨x.toNat,by omega⟩;have hR:=hB.rw.ext hs.ext;have get:∀ {F:Nat->Nat->Prop},(∀b o,(∃y:Int,hc h8 ⟨b,o+Int.toNat ((k+i:Nat):Int)*1,none⟩=some (.int .u8 y)/\y=(m:Int))->F b o)->NB s.a fun b o=>(0<=((k+i:Nat):Int)/\((k+i:Nat):Int)<(s.n:Nat))/\F b o:=fun {F} hF=>by
  refine hR.nbI (x:=((k+i:Nat):Int)) (by omega) (by omega) fun b o d gd t=>hF b o ⟨d,t.hd,?_⟩;replace gd:B[k+i]?=some d:=gd;rw[gx] at gd;injection gd with gd;exact gd.symm
 refine⟨s,hs.rd 0 rfl (i:=0) rfl,get fun b13 o14 hy=>?_⟩;obtain⟨y,t,ey⟩:=hy;refine⟨y,t,by decide,(k:Int),hs.rd 0 rfl (i:=1) rfl,?_⟩;subst ey;have e2:Int.tmod (m:Int) 128=((m%128:Nat):Int):=rfl;rw[w64 (n:=(k:Int)+9) (by omega) (by omega),e2,wu64 (n:=((m%128:Nat):Int)) (by omega) (by omega),w64 (n:=((k+i:Nat):Int)+1) (by omega) (by omega)];have bits:=fun h=>acc_ref (a:=a) (i:=i) (c:=m) h9 ha h;have u64:∀ {z:Nat},z<(if i=9 then 18446744073709551616 else 128^(i+1))->z<18446744073709551616:=fun {z} hz=>by
  refine Nat.lt_of_lt_of_le hz ?_;split
  .exact Yyt _
  .have:128^(i+1)<=128^9:=Nat.pow_le_pow_right (by decide) (by omega);have e:128^9=9223372036854775808:=by decide
   omega
 have good:(i=9->m%128<=1)->(m:Int)<128->¬((m:Int)=0/\decide (i=0)=false)->okAt h8 ⟨r,0+1,none⟩ 1/\∀h25:Heap,h25=hputs h8 ⟨r,0+1,none⟩ 0 [.int .i64 (((k+i:Nat):Int)+1)] ->
   ((2:Int)≠0/\sB ((Int.tmod (IntKind.wrap .u64 ((a:Int)+(IntKind.wrap .u64 (((m%128:Nat):Int)*((128^i:Nat):Int))))) 2)==1)
    ((2:Int)≠0/\RdZ h0 153 r s B L (Option.bind (some (B.drop k)) rIq) (.int .i64 (IntKind.wrap .i64 ((IntKind.wrap .i64 (0-(IntKind.wrap .i64 (IntKind.wrap .u64 (Int.tdiv (IntKind.wrap .u64 ((a:Int)+(IntKind.wrap .u64 (((m%128:Nat):Int)*((128^i:Nat):Int))))) 2)))))-1))) h25)
    ((2:Int)≠0/\RdZ h0 153 r s B L (Option.bind (some (B.drop k)) rIq) (.int .i64 (IntKind.wrap .i64 (IntKind.wrap .u64 (Int.tdiv (IntKind.wrap .u64 ((a:Int)+(IntKind.wrap .u64 (((m%128:Nat):Int)*((128^i:Nat):Int))))) 2)))) h25)):=fun hd hm hz=>by
  obtain⟨b1,b2⟩:=bits hd;have hmm:m%128=m:=Nat.mod_eq_of_lt (by omega);rw[b1];refine hs.put 0 rfl (o:=1) (vs:=[.int .i64 (((k+i:Nat):Int)+1)]) rfl (show 2<=3 by decide) fun h25 hs=>?_;replace hs:St h0 h25 (.blk r (rdC s (k+i+1) false) 153::L):=hs;refine zag_ref (F:=fun v=>RdZ h0 153 r s B L (Option.bind (some (B.drop k)) rIq) v h25) (u64 b2) ?_;rw[if_pos hm,if_neg (by rintro (h | h);exact hz h;exact absurd h.2 (by have:=hd (by omega);omega))] at hr;have er:rIq (B.drop k)=some (zag (a+128^i*(m%128)),B.drop (k+i+1)):=by unfold rIq;rw[hr,hmm];rfl
  exact⟨by show _=Value.int .i64 (Option.getD (Option.map Prod.fst (rIq (B.drop k))) 0);rw[er];rfl,Rds.ok hkl hs (by show Option.map Prod.snd (rIq (B.drop k))=_;rw[er];rfl)⟩
 have next:(i=9->m%128<=1)->¬(m:Int)<128->∃m22,m22<10-i/\∃i':Nat,((k+i:Nat):Int)+1=((k+i':Nat):Int)/\m22=10-i'/\i'<=10/\k+i'<=B.length/\St h0 h8 (.blk r (rdC s k false) 153::L) /\
   ((i'<=9/\∃a':Nat,IntKind.wrap .u64 ((a:Int)+(IntKind.wrap .u64 (((m%128:Nat):Int)*((128^i:Nat):Int))))=(a':Int)/\IntKind.wrap .u64 (((128^i:Nat):Int)*128)=((128^i':Nat):Int)/\a'<128^i'/\rdU 10 true (B.drop k)=(rdU (10-i') (decide (i'=0)) (B.drop (k+i'))).map fun q=>(a'+128^i'*q.1,q.2))\/(i'=10/\rdU 10 true (B.drop k)=none)):=fun hd c1=>by
  rw[if_neg c1] at hr;refine⟨_,(show 10-(i+1)<10-i by omega),i+1,by omega,rfl,by omega,by omega,hs,?_⟩;by_cases h9i:i=9
  .refine .inr ⟨by omega,?_⟩;rw[hr,show j=0 by omega];rfl
  .obtain⟨b1,b2⟩:=bits hd;rw[if_neg h9i] at b2;have hp:128^(i+1)<=128^9:=Nat.pow_le_pow_right (by decide) (by omega);have ep:128^9=9223372036854775808:=by decide
   refine .inl ⟨by omega,_,b1,?_,b2,?_⟩
   .have e:((128^i:Nat):Int)*128=((128^(i+1):Nat):Int):=by rw[Nat.pow_succ,Int.natCast_mul];rfl
    rw[e];generalize 128^(i+1)=z at *;exact wu64 (by omega) (by omega)
   .have hmm:m%128=m-128:=by omega
    rw[hr,show 10-(i+1)=j by omega,show decide (i+1=0)=false from rfl,Option.map_map,<-Nat.add_assoc,hmm];congr 1
    funext q
    simp only[Function.comp,Prod.mk.injEq,and_true,Ys];rw[Nat.mul_add,Nat.pow_succ,<-Nat.mul_assoc,Nat.add_assoc]
 have bad:(m:Int)<128->((m:Int)=0/\decide (i=0)=false)\/(j=0/\1<(m:Int))->Option.bind (some (B.drop k)) rIq=none:=fun h1 h2=>nr (by rw[hr,if_pos h1,if_pos h2];rfl);refine sBe (fun c3=>?_) (fun c3=>?_)
 .refine sBi (fun c4=>?_) (fun c4=>?_)
  .refine fail ?_ hs;by_cases h1:(m:Int)<128
   .exact bad h1 (.inr ⟨by clear next good;omega,by clear next good;omega⟩)
   .exact nr (by rw[hr,if_neg h1,show j=0 by clear next good;omega];rfl)
  .refine⟨s,hs.rd 0 rfl (i:=0) rfl,get fun b19 o20 hy=>?_⟩;obtain⟨y,t2,ey⟩:=hy;refine⟨y,t2,?_⟩;subst ey;refine sBi (fun c5=>next (fun _=>by omega) (by omega)) (fun c5=>?_);refine sBe (fun c6=>?_) (fun c6=>good (fun _=>by omega) (by omega) (by omega));refine⟨(k:Int),hs.rd 0 rfl (i:=1) rfl,sBi (fun c7=>?_) (fun c7=>absurd c7 (by omega))⟩;exact fail (bad (by omega) (.inl ⟨by omega,decide_eq_false (by omega)⟩)) hs
 .refine⟨s,hs.rd 0 rfl (i:=0) rfl,get fun b19 o20 hy=>?_⟩;obtain⟨y,t2,ey⟩:=hy;refine⟨y,t2,?_⟩;subst ey;refine sBi (fun c5=>next (fun _=>by omega) (by omega)) (fun c5=>?_);refine sBe (fun c6=>?_) (fun c6=>good (fun _=>by omega) (by omega) (by omega));refine⟨(k:Int),hs.rd 0 rfl (i:=1) rfl,sBi (fun c7=>?_) (fun c7=>good (fun _=>by omega) (by omega) (by rintro⟨_,h⟩;have:=Yyo h;omega))⟩;exact fail (bad (by omega) (.inl ⟨by omega,decide_eq_false (by omega)⟩)) hs
theorem bounded80 (hi:Int) (r:Nat) (s:Sl) (B:List Int) (h0 h:Heap) (o:Option (List Int)) (L:List It) (hB:RL h0 1 s u8C B) (hb:Byt B) (hr:Rds h0 h 153 r s B o L) :
  Fn Pz 80 #[.pointer (some ⟨r,0,none⟩),.int .i64 0,.int .i64 hi] h (RdZ h0 153 r s B L (o.bind (rBq hi))):=by
 apply vc80 _ 0 hi;unfold W80;have hi79:=integer79 r s B h0 h o L hB hb hr;obtain⟨k,hk,hs,ho⟩:=hr;refine⟨(k:Int),hs.rd 0 rfl (i:=1) rfl,?_⟩;refine hi79.mono ?_;rintro _ h4 ⟨rfl,⟨k',hk',hs,ho'⟩⟩;have bd:∀q,o.bind rIq=some q->o.bind (rBq hi)=if 0<=q.1/\q.1<=hi then some q else none:=fun q hq=>by
  cases o with
  | none=>cases hq
  | some l=>show rBq hi l=_;unfold rBq;rw[show rIq l=some q from hq];rfl
 have bad:o.bind (rBq hi)=none->∀ {f:Bool},St h0 h4 (.blk r (rdC s k' f) 153::L)->Fn Pz 139 #[.pointer (some ⟨r,0,none⟩),.int .i64 (k:Int)] h4 fun v h'=>v=.tuple ⟨[]⟩/\RdZ h0 153 r s B L (o.bind (rBq hi)) (.int .i64 0) h':=fun e {f} hs=>by
  refine (fail139 r s k k' f h0 h4 L hs).mono ?_;rintro _ h' ⟨rfl,hs⟩;exact⟨rfl,by rw[e];rfl,Rds.bad hk hs (by rw[e];rfl)⟩
 refine⟨_,rfl,_,hs.rd 0 rfl (i:=2) rfl,?_⟩;cases hx:o.bind rIq with
 | none=>
  rw[hx] at hs;have e:o.bind (rBq hi)=none:=by
   cases o with
   | none=>rfl
   | some l=>show rBq hi l=none;unfold rBq;rw[show rIq l=none from hx];rfl
  exact⟨by rw[e];rfl,Rds.bad hk' hs (by rw[e];rfl)⟩
 | some q=>
  rw[hx] at hs ho';have e:=bd q hx;refine sB_f rfl (sBi (fun c=>?_) (fun c=>?_))
  .exact bad (by rw[e,if_neg (by have:q.1<0:=c;omega)]) hs
  .refine sBi (fun c2=>?_) (fun c2=>?_)
   .exact bad (by rw[e,if_neg (by have:q.1>hi:=c2;omega)]) hs
   .rw[if_pos (by have h1:¬q.1<0:=c;have h2:¬q.1>hi:=c2;omega)] at e;rw[e];exact⟨rfl,k',hk',hs,ho'⟩
theorem end82 (r:Nat) (s:Sl) (B:List Int) (h0 h:Heap) (o:Option (List Int)) (L:List It) (hB:RL h0 1 s u8C B) (hr:Rds h0 h 153 r s B o L) :
  Fn Pz 82 #[.pointer (some ⟨r,0,none⟩)] h fun v h'=>v=.int .i64 (endE o)/\h'=h:=by
 apply vc82 _;unfold W82;have hn:=hB.ln;obtain⟨k,hk,hs,ho⟩:=hr;refine⟨_,hs.rd 0 rfl (i:=2) rfl,?_⟩;cases o with
 | none=>exact⟨rfl,rfl⟩
 | some l=>
  have el:=ho l rfl;have hl:l.length=B.length-k:=by rw[<-el,List.length_drop]
  refine sB_f rfl ⟨_,hs.rd 0 rfl (i:=1) rfl,s,hs.rd 0 rfl (i:=0) rfl,sBn (fun c=>?_) (fun c=>?_)⟩
  .refine⟨?_,rfl⟩;unfold endE;rw[if_neg (fun e=>by injection e with e;rw[e] at hl;simp at hl;omega)]
  .refine⟨?_,rfl⟩;unfold endE;rw[if_pos (by rw[List.length_eq_zero_iff.1 (show l.length=0 by omega)])]
theorem ints81 (most:Int) (hm:0<=most/\most<=1000) (r:Nat) (s:Sl) (B:List Int) (h0 h:Heap) (o:Option (List Int)) (L:List It) (hB:RL h0 1 s u8C B) (hb:Byt B) (hr:Rds h0 h 153 r s B o L) :
  Fn Pz 81 #[.pointer (some ⟨r,0,none⟩),.int .i64 most] h (LsZ h0 153 r s B L (o.bind (rL most))):=by
 apply vc81 _ most;unfold W81 V81a;have h80:=bounded80 most r s B h0 h o L hB hb hr;obtain⟨k,hk,hs,ho⟩:=hr;refine⟨(k:Int),hs.rd 0 rfl (i:=1) rfl,?_⟩;refine h80.mono ?_;clear hs;rintro _ h4 ⟨rfl,⟨k',hk',hs,ho'⟩⟩;generalize hy:o.bind (rBq most)=y at *;have eL:o.bind (rL most)=y.bind fun q=>rMany rIq q.1.toNat q.2:=by
  rw[<-hy];cases o<;>rfl
 have hyb:∀q,y=some q->0<=q.1/\q.1<=most:=fun q hq=>by
  rw[hq] at hy;cases o with
  | none=>cases hy
  | some l=>
   have hy:rBq most l=some q:=hy;unfold rBq at hy;rcases hr:rIq l with _ | t
   .rw[hr] at hy;cases hy
   .rw[hr] at hy;simp only[Option.bind_some] at hy;split at hy
    .rename_i hc;injection hy with hy;rw[<-hy];exact hc
    .cases hy
 have bad:o.bind (rL most)=none->∀ {hz:Heap} {k2:Nat} {f:Bool} {so:Sl} {X:List Int},St h0 hz (.blk r (rdC s k2 f) 153 :: .sl so 3 1 (X.map inC)::L)->Fn Pz 139 #[.pointer (some ⟨r,0,none⟩),.int .i64 (k:Int)] hz fun v h'=>v=.tuple ⟨[]⟩/\LsZ h0 153 r s B L (o.bind (rL most)) (.slice none 0 0) h':=fun e {hz k2 f so X} hs=>by
  refine (fail139 r s k k2 f h0 hz _ hs).mono ?_;rintro _ h' ⟨rfl,hs⟩;exact⟨rfl,⟨none,0,0⟩,rfl,by rw[e];exact Rds.bad hk (((hs.eras 1).nil_ 3 1).swap) rfl⟩
 have fin:∀ {hz:Heap} {k2:Nat} {so:Sl} {X:List Int},k2<=B.length->St h0 hz (.blk r (rdC s k2 ((o.bind (rL most)).map Prod.snd).isNone) 153 :: .sl so 3 1 (X.map inC)::L)->(∀l,(o.bind (rL most)).map Prod.snd=some l->B.drop k2=l)->(∀q,o.bind (rL most)=some q->X=q.1) ->
   ∃x19:Bool,hc hz ⟨r,0+2,none⟩=some (.bool x19)/\sB x19 (Fn Pz 139 #[.pointer (some ⟨r,0,none⟩),.int .i64 (k:Int)] hz (fun v20 h21=>v20=.tuple ⟨[]⟩/\LsZ h0 153 r s B L (o.bind (rL most)) (.slice none 0 0) h21)) (LsZ h0 153 r s B L (o.bind (rL most)) (.slice so.a so.n so.c) hz):=fun {hz k2 so X} hk2 hs hd hX=>by
  refine⟨_,hs.rd 0 rfl (i:=2) rfl,?_⟩;cases he:o.bind (rL most) with
  | none=>rw[he] at bad;exact sB_t rfl (bad rfl hs)
  | some q=>
   rw[he] at hs hd hX;refine sB_f rfl ⟨so,rfl,k2,hk2,?_,hd⟩;rw[hX q rfl] at hs;exact hs
 refine⟨_,rfl,?_⟩;generalize hnn:(Option.map Prod.fst y).getD 0=n at *;have hv:∀q,y=some q->n=q.1:=fun q hq=>by rw[<-hnn,hq];rfl
 refine⟨fun so x h' μ=>∃(i:Nat) (X:List Int),x=(i:Int)/\μ=1000-i/\X.length=i/\i<=1000/\Rds h0 h' 153 r s B ((y.bind fun q=>rMany rIq i q.2).map Prod.snd) (.sl so 3 1 (X.map inC)::L) /\
   (∀q,y=some q->(i:Int)<=q.1/\∀p,rMany rIq i q.2=some p->X=p.1)/\(y=none->i=0),
  ⟨_,0,[],rfl,rfl,rfl,by omega,⟨k',hk',?_,?_⟩,fun q hq=>⟨(hyb q hq).1,fun p hp=>by injection hp with hp;rw[<-hp]⟩,fun _=>rfl⟩,?_⟩
 .have e:((y.bind fun q=>rMany rIq 0 q.2).map Prod.snd).isNone=(y.map Prod.snd).isNone:=by cases y<;>rfl
  rw[e];exact (hs.nil_ 3 1).swap
 .intro l hl;refine ho' l ?_;cases y with
  | none=>cases hl
  | some q=>exact hl
 clear hs ho';rintro-so _ h9 μ ⟨i,X,rfl,rfl,hX,hi,⟨k2,hk2,hs,ho2⟩,hq,hN⟩;have stop:(∀q,y=some q->i=q.1.toNat\/rMany rIq i q.2=none)->∃x19:Bool,hc h9 ⟨r,0+2,none⟩=some (.bool x19)/\sB x19 (Fn Pz 139 #[.pointer (some ⟨r,0,none⟩),.int .i64 (k:Int)] h9 (fun v20 h21=>v20=.tuple ⟨[]⟩/\LsZ h0 153 r s B L (o.bind (rL most)) (.slice none 0 0) h21)) (LsZ h0 153 r s B L (o.bind (rL most)) (.slice so.a so.n so.c) h9):=fun hst=>by
  have ex:y.bind (fun q=>rMany rIq i q.2)=o.bind (rL most):=by
   rw[eL];cases hy2:y with
   | none=>rfl
   | some q=>
    rcases hst q hy2 with h | h
    .show rMany rIq i q.2=rMany rIq q.1.toNat q.2;rw[<-h]
    .show rMany rIq i q.2=rMany rIq q.1.toNat q.2;rw[h,rMany_none h _ (by have:=(hq q hy2).1;omega)]
  rw[ex] at hs ho2;refine fin hk2 hs ho2 fun p hp=>?_;rw[<-ex] at hp;cases hy2:y with
  | none=>rw[hy2] at hp;cases hp
  | some q=>rw[hy2] at hp;exact (hq q hy2).2 p hp
 refine sBi (fun c=>?_) (fun c=>?_)
 .cases hst:(y.bind fun q=>rMany rIq i q.2).map Prod.snd with
  | none=>
   have hs':=hs;rw[hst] at hs';refine⟨true,hs'.rd 0 rfl (i:=2) rfl,?_⟩;refine sB_f rfl (stop fun q hy2=>.inr ?_);rw[hy2] at hst;simpa using hst
  | some l=>
   have hs':=hs;rw[hst] at hs';obtain⟨q,hy2⟩:∃q,y=some q:=by
    cases y with
    | none=>cases hst
    | some q=>exact⟨q,rfl⟩
   obtain⟨p,hp⟩:∃p,rMany rIq i q.2=some p:=by
    rw[hy2] at hst;cases hp:rMany rIq i q.2 with
    | none=>simp[hp] at hst
    | some p=>exact⟨p,rfl⟩
   have hl:B.drop k2=p.2:=by
    refine ho2 _ ?_;rw[hy2];simp[hp]
   have hXp:=(hq q hy2).2 p hp;have hnq:n=q.1:=hv q hy2;have hqb:=hyb q hy2;refine⟨false,hs'.rd 0 rfl (i:=2) rfl,?_⟩;refine sB_t rfl ?_;refine (integer79 r s B h0 h9 (some p.2) _ hB hb ⟨k2,hk2,hs',fun l' hl'=>by injection hl' with hl';rw[<-hl'];exact hl⟩).mono ?_;rintro _ h14 ⟨rfl,⟨k3,hk3,hs,ho3⟩⟩;refine⟨_,rfl,?_⟩;have hl1:=(hs.len 1 rfl (by decide)).1;rw[Yc] at hl1;refine hs.app 1 (s:=so) (rows:=X.map inC) rfl app42 (m:=1) [inC ((Option.map Prod.fst (rIq p.2)).getD 0)] rfl rfl (by intro r hr;rw[Ye.1 hr];rfl) rfl (by omega) (by simp only[maxLen];omega) fun s18 h19 ns hs=>?_;refine⟨_,(show 1000-(i+1)<1000-i by omega),i+1,X++[(Option.map Prod.fst (rIq p.2)).getD 0],by rw[w64 (by omega) (by omega)];omega,rfl,by rw[Yh];simp only[Yv];omega,by omega,⟨k3,hk3,?_,?_⟩,fun q' hq'=>?_,fun hn=>by rw[hy2] at hn;cases hn⟩
   .have e:((y.bind fun q=>rMany rIq (i+1) q.2).map Prod.snd).isNone=((rIq p.2).map Prod.snd).isNone:=by
     rw[hy2];show ((rMany rIq (i+1) q.2).map Prod.snd).isNone=_;unfold rMany;rw[hp];simp only[Option.bind_some];cases rIq p.2<;>rfl
    rw[e,Ym];exact hs
   .intro l' hl';refine ho3 l' ?_;rw[hy2] at hl';simp only[Option.bind_some] at hl';unfold rMany at hl';rw[hp] at hl';simp only[Option.bind_some] at hl';show Option.map Prod.snd (rIq p.2)=some l';cases hr2:rIq p.2 with
    | none=>rw[hr2] at hl';cases hl'
    | some t=>rw[hr2] at hl';exact hl'
   .rw[hy2] at hq';injection hq' with hq';subst hq';refine⟨by omega,fun p' hp'=>?_⟩;unfold rMany at hp';rw[hp] at hp';simp only[Option.bind_some] at hp';cases hr2:rIq p.2 with
    | none=>rw[hr2] at hp';cases hp'
    | some t=>
     rw[hr2] at hp';simp only[Option.map_some,Option.some.injEq] at hp';rw[<-hp',hXp];rfl
 .exact stop fun q hy2=>.inl (by have:=(hq q hy2).1;have hnq:n=q.1:=hv q hy2;omega)
/-! ### plain: the loop over the configurations -/
def c0 (B:List Int):Option (Int × List Int):=(rIq B).bind fun k=>rBq 20000 k.2
def stC0 (B:List Int) (i:Nat):Option (List Cf × List Int):=(c0 B).bind fun q=>rMany rC i q.2
theorem stC0_succ (B:List Int) (i:Nat):stC0 B (i+1)=(stC0 B i).bind fun p=>(rC p.2).map fun q=>(p.1++[q.1],q.2):=by
 unfold stC0;cases c0 B<;>rfl
theorem rT_eq (B:List Int):rTq B=match stC0 B (((c0 B).map Prod.fst).getD 0).toNat with
  | some (X,[])=>some (((rIq B).map Prod.fst).getD 0,X)
  | _=>none:=by
 unfold rTq stC0 c0;cases hr:rIq B with
 | none=>rfl
 | some k=>
  simp only[Option.bind_some];cases hb:rBq 20000 k.2 with
  | none=>rfl
  | some n=>
   simp only[Option.bind_some,Option.map_some,Option.getD_some];cases hm:rMany rC n.1.toNat n.2 with
   | none=>rfl
   | some c=>
    obtain⟨X,l⟩:=c;cases l<;>rfl
theorem c0_le {B:List Int} {q:Int × List Int} (h:c0 B=some q):0<=q.1/\q.1<=20000:=by
 unfold c0 at h;cases hr:rIq B with
 | none=>rw[hr] at h;cases h
 | some k=>
  rw[hr] at h;simp only[Option.bind_some] at h;unfold rBq at h;cases hr2:rIq k.2 with
  | none=>rw[hr2] at h;cases h
  | some t=>
   rw[hr2] at h;simp only[Option.bind_some] at h;split at h
   .rename_i hc;injection h with h;rw[<-h];exact hc
   .cases h
theorem stC0_none {B:List Int} {i n:Nat} (h:stC0 B i=none) (hn:i<=n):stC0 B n=none:=by
 unfold stC0 at *;cases hc:c0 B with
 | none=>rfl
 | some q=>rw[hc] at h;exact rMany_none h n hn
theorem stC0_end {B:List Int} {i n:Nat} {X:List Cf} (h:stC0 B i=some (X,[])) (hn:i<n):stC0 B n=none:=by
 unfold stC0 at *;cases hc:c0 B with
 | none=>rfl
 | some q=>rw[hc] at h;exact rMany_end rC_nil h hn
theorem decT_open {b:List Int} (h13:¬b.length<13) (hm:b.take 5=magicC):decT b=if (openS b).1≠0 then ((openS b).1,0,[]) else match rTq ((openS b).2.drop 5) with
  | some (K,C)=>(0,K,C)
  | none=>(4,0,[]):=by
 unfold decT openS;rw[if_neg (by rintro (h | h);exact h13 h;exact h hm),if_neg (show ¬b.length<8 by omega)];by_cases h:eight (hsh (b.take (b.length-8)))≠b.drop (b.length-8)
 .rw[if_pos h,if_pos h];rfl
 .rw[if_neg h,if_neg h];rfl
theorem openS_len {b:List Int} (h13:¬b.length<13) (h0:(openS b).1=0):(openS b).2.length=b.length-8/\(openS b).2=b.take (b.length-8):=by
 unfold openS at *;rw[if_neg (show ¬b.length<8 by omega)] at *;by_cases h:eight (hsh (b.take (b.length-8)))≠b.drop (b.length-8)
 .rw[if_pos h] at h0;cases h0
 .rw[if_neg h];exact⟨by rw[Yu];omega,rfl⟩
/-! ### memory -/
structure CtM (A:List It) (e:TypeId) (cs:Sl) (C:List Cr):Prop where
 r:It.sl cs e 2 (C.map Cr.cs)∈A
 i:∀c∈C,CfM A c.c1 c.c2 c.S c.B
 n:C.length<=1048576
theorem CtM.mono {A A':List It} {e:TypeId} {cs:Sl} {C:List Cr} (h:CtM A e cs C) (hA:∀i∈A,i∈A'):CtM A' e cs C:=⟨hA _ h.r,fun c hc=>(h.i c hc).mono hA,h.n⟩
theorem CtM.cti {h0 h:Heap} {A:List It} {e:TypeId} {cs:Sl} {C:List Cr} (hs:St h0 h A) (hM:CtM A e cs C):CtI h cs C:=⟨hs.rlm hM.r (by decide) hM.n,fun c hc=>(hM.i c hc).cfi hs⟩
def DecV (b:List Int) (h:Heap) (v:Value) (h':Heap):Prop:=∃(s:Sl) (C:List Cr),v=.tuple ⟨[.agg ⟨[.int .i64 (decT b).2.1,.slice s.a s.n s.c]⟩,.int .i64 (decT b).1]⟩/\Ext h h'/\CtI h' s C/\C.map Cr.cf=(decT b).2.2
theorem dec_ret {b:List Int} {h hX:Heap} {ty:TypeId} {x1 x2:Value} {A:List It} {e:TypeId} (hs:St h hX (.blk h.size [x1,x2] ty::A)) (K:Int) (s:Sl) (C:List Cr) (en:Int) (hM:CtM A e s C) (hd:decT b=(en,K,C.map Cr.cf)) :
  okAt hX ⟨h.size,0,none⟩ 2/\∀h2:Heap,h2=hputs hX ⟨h.size,0,none⟩ 0 [.int .i64 K,.slice s.a s.n s.c]->(∃x3:Int,∃x4:Sl,atC h2 ⟨h.size,0,none⟩ [.int .i64 x3,.slice x4.a x4.n x4.c]/\DecV b h (.tuple ⟨[.agg ⟨[.int .i64 x3,.slice x4.a x4.n x4.c]⟩,.int .i64 en]⟩) h2):=by
 refine hs.put 0 rfl (o:=0) (vs:=[.int .i64 K,.slice s.a s.n s.c]) rfl (Yyt 2) fun h2 hs=>?_;refine⟨K,s,hs.at 0 rfl (o:=0) (n:=2) rfl,s,C,by rw[hd],hs.ext,(hM.mono fun i hi=>Yn _ hi).cti hs,by rw[hd]⟩
theorem dec_no {b:List Int} {h hX:Heap} {ty:TypeId} {x1 x2:Value} {A:List It} (hs:St h hX (.blk h.size [x1,x2] ty::A)) (en:Int) (hd:decT b=(en,0,[])) :
  okAt hX ⟨h.size,0,none⟩ 2/\∀h2:Heap,h2=hputs hX ⟨h.size,0,none⟩ 0 [.int .i64 0,.slice none 0 0]->(∃x3:Int,∃x4:Sl,atC h2 ⟨h.size,0,none⟩ [.int .i64 x3,.slice x4.a x4.n x4.c]/\DecV b h (.tuple ⟨[.agg ⟨[.int .i64 x3,.slice x4.a x4.n x4.c]⟩,.int .i64 en]⟩) h2):=
 dec_ret (e:=52) (hs.nil_ 52 2).swap 0 ⟨none,0,0⟩ [] en ⟨Yx,(fun c hc=>by cases hc),Nat.zero_le _⟩ hd
theorem magicB:(⟨#[70,82,68,67,49]⟩:ByteArray)=bs (toB magicC):=by decide
theorem stC0_step {B:List Int} {i:Nat} {y1:Option (List Int × List Int)} {y2:Option (Int × List Int)} {y3:Option (List (List Int) × List Int)} (h1:((stC0 B i).map Prod.snd).bind (rL 6)=y1) (h2:(y1.map Prod.snd).bind (rBq 36)=y2) (h3:(y2.bind fun q=>rMany (rL 4) q.1.toNat q.2)=y3) :
  (stC0 B (i+1)).map Prod.snd=y3.map Prod.snd/\∀p',stC0 B (i+1)=some p'->∃p t,stC0 B i=some p/\y3=some t/\p'.1=p.1++[((y1.map Prod.fst).getD [],t.1)]:=by
 rw[stC0_succ];cases hs:stC0 B i with
 | none=>rw[hs] at h1;subst h1;subst h2;subst h3;exact⟨rfl,fun p' hp=>by cases hp⟩
 | some p=>
  rw[hs] at h1;replace h1:rL 6 p.2=y1:=h1;simp only[Option.bind_some];unfold rC;rw[h1];cases y1 with
  | none=>subst h2;subst h3;exact⟨rfl,fun p' hp=>by cases hp⟩
  | some a=>
   replace h2:rBq 36 a.2=y2:=h2;simp only[Option.bind_some];rw[h2];cases y2 with
   | none=>subst h3;exact⟨rfl,fun p' hp=>by cases hp⟩
   | some c=>
    replace h3:rMany (rL 4) c.1.toNat c.2=y3:=h3;simp only[Option.bind_some];rw[h3];cases y3 with
    | none=>exact⟨rfl,fun p' hp=>by cases hp⟩
    | some t=>
     refine⟨rfl,fun p' hp=>⟨p,t,rfl,rfl,?_⟩⟩;simp only[Option.map_some,Option.some.injEq] at hp;rw[<-hp];rfl
theorem rB_le {hi:Int} {l:List Int} {q:Int × List Int} (h:rBq hi l=some q):0<=q.1/\q.1<=hi:=by
 unfold rBq at h;cases hr:rIq l with
 | none=>rw[hr] at h;cases h
 | some t=>
  rw[hr] at h;simp only[Option.bind_some] at h;split at h
  .rename_i hc;injection h with h;rw[<-h];exact hc
  .cases h
theorem decode29 (p:Sl) (b:List Int) (h:Heap) (hb:RL h 1 p u8C b) (hB:Byt b):Fn Pz 29 #[.slice p.a p.n p.c] h (DecV b h):=by
 apply vc29 p;unfold W29 V29b V29a;have hn:=hb.ln;have hsm:=hb.sm;have hcap:=hb.cap;refine (St.refl h).newb fun h1 hs=>?_;refine sBi (fun c=>?_) (fun c=>?_)
 .exact dec_no hs 4 (if_pos (Or.inl (by omega)))
 have h13:¬b.length<13:=by omega
 refine⟨⟨by decide,by decide,by omega⟩,?_⟩;have hT5:=(hb.take (i:=5) (by omega)).ext hs.ext;refine (cv_rl hT5 (fun x hx=>hB x (List.mem_of_mem_take hx))).mono ?_;rintro _ _ ⟨rfl,rfl⟩;refine⟨_,rfl,?_⟩;rw[magicB];refine sB_not (sBs (fun c5=>?_) (fun c5=>?_));rotate_left
 .exact dec_no hs 4 (if_pos (Or.inr fun e=>c5 (by rw[e])))
 have hm:b.take 5=magicC:=toB_inj (fun x hx=>hB x (List.mem_of_mem_take hx)) (by decide) c5;refine (open71 p b _ (hb.ext hs.ext) hB).mono ?_;rintro _ h14 ⟨so,rfl,hs1⟩;have hs:=hs.join hs1;refine⟨so,_,rfl,?_⟩;have hdo:=decT_open h13 hm;refine sBn (fun c6=>?_) (fun c6=>?_)
 .exact dec_no hs _ (by rw[hdo,if_pos c6])
 rw[if_neg (fun h=>h c6)] at hdo;obtain⟨hl,htk⟩:=openS_len h13 c6;generalize (openS b).2=pl at *;have hpB:Byt pl:=fun x hx=>by rw[htk] at hx;exact hB x (List.mem_of_mem_take hx)
 have hR0:RL h14 1 so u8C pl:=hs.rl 1 rfl (by decide) (by omega);have hson:=hR0.ln;have hsoc:=hR0.cap;refine⟨⟨by decide,by omega,by omega⟩,?_⟩;have hR5:=hR0.from (i:=5) (by omega)
 refine (new72 _ (pl.drop 5) h14 hR5).mono ?_;rintro _ h20 ⟨s,hb0,rfl,hE,hRB,hr⟩;have hBy:Byt (pl.drop 5):=fun x hx=>hpB x (List.mem_of_mem_drop hx);generalize pl.drop 5=B at *;refine⟨_,rfl,?_⟩;have hs0:St h hb0 [.blk h.size [.int .i64 0,.slice none 0 0] 31]:=(hs.step hE).sub (.cons_cons _ (List.nil_sublist _));clear hs hs1;generalize hrb:hb0.size=rb at *;refine (int73 rb s B hb0 h20 (some B) [] hRB hBy ⟨0,Nat.zero_le _,hr,fun l hl=>by injection hl⟩).mono ?_;rintro _ h23 ⟨rfl,⟨k1,hk1,hs,ho⟩⟩;refine⟨_,rfl,?_⟩;generalize hK:(Option.map Prod.fst ((some B).bind rIq)).getD 0=K at *;refine hs.newput (vs:=[.int .i64 K,.slice none 0 0]) rfl rfl fun h25 hs=>?_;have e0:(Option.map Prod.snd ((some B).bind rIq)).bind (rBq 20000)=c0 B:=by unfold c0;show (Option.map Prod.snd (rIq B)).bind _=_;cases rIq B<;>rfl
 refine (bounded74 20000 rb s B hb0 h25 _ _ hRB hBy ⟨k1,hk1,hs.swap,ho⟩).mono ?_;clear hs ho hr;rintro _ h28 ⟨rfl,hr⟩;rw[e0] at hr ⊢;refine⟨_,rfl,?_⟩;generalize hN:(Option.map Prod.fst (c0 B)).getD 0=N at *;have hN0:0<=N/\N<=20000:=by
  rw[<-hN];cases hc:c0 B with
  | none=>decide
  | some q=>exact c0_le hc
 have rT4:(∀X,stC0 B N.toNat≠some (X,[]))->decT b=(4,0,[]):=fun hx=>by
  rw[hdo,rT_eq,hN];split
  .rename_i X C hq;split at hq
   .rename_i X' hq';exact absurd hq' (hx _)
   .cases hq
  .rfl
 have rT0:∀X,stC0 B N.toNat=some (X,[])->decT b=(0,K,X):=fun X hx=>by
  rw[hdo,rT_eq,hN,hx,<-hK];rfl
 have fin:∀ {hX:Heap} {i:Nat} {C:List Cr} {A:List It} {cs:Sl},Rds hb0 hX 212 rb s B ((stC0 B i).map Prod.snd) (.blk h23.size [.int .i64 K,.slice cs.a cs.n cs.c] 31 :: .sl cs 52 2 (C.map Cr.cs)::A)->(∀c∈C,CfM A c.c1 c.c2 c.S c.B)->C.length=i->i<=20000 ->
   (∀q,stC0 B i=some q->C.map Cr.cf=q.1)->((i:Int)=N\/((i:Int)<N/\(stC0 B i=none\/∃X,stC0 B i=some (X,[])))) ->
   Fn Pz 77 #[.pointer (some ⟨rb,0,none⟩)] hX (fun v82 h84=>∃x83:Int,v82=.int .i64 x83/\(sB (x83 != 0)
    ((okAt h84 ⟨h.size,0,none⟩ 2/\∀h85:Heap,h85=hputs h84 ⟨h.size,0,none⟩ 0 [.int .i64 0,.slice none 0 0]->(∃x86:Int,∃x87:Sl,atC h85 ⟨h.size,0,none⟩ [.int .i64 x86,.slice x87.a x87.n x87.c]/\DecV b h (.tuple ⟨[.agg ⟨[.int .i64 x86,.slice x87.a x87.n x87.c]⟩,.int .i64 4]⟩) h85)))
    ((∃x88:Sl,hc h84 ⟨h23.size,1,none⟩=some (.slice x88.a x88.n x88.c)/\(sB ((x88.n:Int) != N)
     ((okAt h84 ⟨h.size,0,none⟩ 2/\∀h89:Heap,h89=hputs h84 ⟨h.size,0,none⟩ 0 [.int .i64 0,.slice none 0 0]->(∃x90:Int,∃x91:Sl,atC h89 ⟨h.size,0,none⟩ [.int .i64 x90,.slice x91.a x91.n x91.c]/\DecV b h (.tuple ⟨[.agg ⟨[.int .i64 x90,.slice x91.a x91.n x91.c]⟩,.int .i64 4]⟩) h89)))
     ((∃x92:Int,∃x93:Sl,atC h84 ⟨h23.size,0,none⟩ [.int .i64 x92,.slice x93.a x93.n x93.c]/\(okAt h84 ⟨h.size,0,none⟩ 2/\∀h94:Heap,h94=hputs h84 ⟨h.size,0,none⟩ 0 [.int .i64 x92,.slice x93.a x93.n x93.c]->(∃x95:Int,∃x96:Sl,atC h94 ⟨h.size,0,none⟩ [.int .i64 x95,.slice x96.a x96.n x96.c]/\DecV b h (.tuple ⟨[.agg ⟨[.int .i64 x95,.slice x96.a x96.n x96.c]⟩,.int .i64 0]⟩) h94))))))))):=fun {hX i C A cs} hr hCM hCl hi hCp hst=>by
  refine (end77 rb s B hb0 hX _ _ hRB hr).mono ?_;rintro _ _ ⟨rfl,rfl⟩;obtain⟨k2,hk2,hs,ho2⟩:=hr;have hj:=hs0.join hs;have hcl:=(hs.len 2 (s:=cs) rfl (by decide)).1;rw[Yc] at hcl;have none_:(i:Int)<N->stC0 B i=none\/(∃X,stC0 B i=some (X,[]))->decT b=(4,0,[]):=fun hlt h2=>rT4 fun X hx=>by
   rcases h2 with h2 | ⟨Y,h2⟩
   .rw[stC0_none h2 (n:=N.toNat) (by omega)] at hx;cases hx
   .rw[stC0_end h2 (n:=N.toNat) (by omega)] at hx;cases hx
  refine⟨_,rfl,sBn (fun c=>?_) (fun c=>?_)⟩
  .refine dec_no hj 4 ?_;rcases hst with h2 | ⟨h2,h3⟩
   .refine rT4 fun X hx=>c ?_;rw[show N.toNat=i by omega] at hx;rw[hx];rfl
   .exact none_ h2 h3
  .refine⟨cs,hs.rd 1 rfl (i:=1) rfl,sBn (fun c2=>?_) (fun c2=>?_)⟩
   .refine dec_no hj 4 ?_;rcases hst with h2 | ⟨h2,h3⟩
    .omega
    .exact none_ h2 h3
   .refine⟨K,cs,hs.at 1 rfl (o:=0) (n:=2) rfl,?_⟩;have hiN:i=N.toNat:=by omega
    obtain⟨X,hX2⟩:∃X,stC0 B i=some (X,[]):=by
     unfold endE at c;cases hs2:stC0 B i with
     | none=>rw[hs2] at c;cases c
     | some q=>
      obtain⟨X,l⟩:=q;rw[hs2] at c;split at c
      .rename_i e;injection e with e;exact⟨X,by rw[show l=[] from e]⟩
      .cases c
    refine dec_ret (e:=52) hj K cs C 0 ⟨by simp,fun d hd=>(hCM d hd).mono fun j hj=>by simp[hj],by omega⟩ ?_;rw[rT0 X (by rw[<-hiN];exact hX2),hCp _ hX2]
 refine⟨fun x h' μ=>∃(i:Nat) (C:List Cr) (A:List It) (cs:Sl),x=(i:Int)/\μ=20000-i/\C.length=i/\i<=20000/\(i:Int)<=N/\Rds hb0 h' 212 rb s B ((stC0 B i).map Prod.snd) (.blk h23.size [.int .i64 K,.slice cs.a cs.n cs.c] 31 :: .sl cs 52 2 (C.map Cr.cs)::A) /\
  (∀c∈C,CfM A c.c1 c.c2 c.S c.B)/\(∀q,stC0 B i=some q->C.map Cr.cf=q.1),⟨_,0,[],[],⟨none,0,0⟩,rfl,rfl,rfl,by omega,by omega,?_,fun c hc=>(by cases hc),fun q hq=>?_⟩,?_⟩
 .obtain⟨k2,hk2,hs,ho2⟩:=hr;have e:(stC0 B 0).map Prod.snd=(c0 B).map Prod.snd:=by unfold stC0;cases c0 B<;>rfl
  rw[e];exact⟨k2,hk2,(hs.nil_ 52 2).perm (List.perm_append_comm (l₁:=[_]) (l₂:=[_,_])),ho2⟩
 .unfold stC0 at hq;cases hc:c0 B with
  | none=>rw[hc] at hq;cases hq
  | some t=>rw[hc] at hq;injection hq with hq;rw[<-hq];rfl
 clear hr;rintro-_ h33 μ ⟨i,C,A,cs,rfl,rfl,hCl,hi,hiN,hr,hCM,hCp⟩;refine sBi (fun c7=>?_) (fun c7=>fin hr hCM hCl hi hCp (.inl (by omega)));refine (left75 212 rb s B hb0 h33 _ _ hRB hr).mono ?_;rintro _ _ ⟨nl,rfl,rfl,hnl⟩;refine⟨_,rfl,sBi (fun c8=>?_) (fun c8=>?_)⟩;rotate_left
 .refine fin hr hCM hCl hi hCp (.inr ⟨c7,?_⟩);cases hs2:stC0 B i with
  | none=>exact .inl rfl
  | some q=>
   obtain⟨X,l⟩:=q;have:=hnl l (by rw[hs2];rfl);exact .inr ⟨X,by rw[List.length_eq_zero_iff.1 (show l.length=0 by omega)]⟩
 refine (ints76 6 ⟨by decide,by decide⟩ rb s B hb0 _ _ _ hRB hBy hr).mono ?_;clear hr hnl;rintro _ h39 ⟨s38,rfl,⟨k2,hk2,hs,ho2⟩⟩;generalize hy1:((stC0 B i).map Prod.snd).bind (rL 6)=y1 at *;generalize hS:(y1.map Prod.fst).getD []=S at *;have hSl:S.length<=6:=by
  rw[<-hS];cases hy:y1 with
  | none=>exact Nat.zero_le _
  | some t=>
   rw[hy] at hy1;cases hst:(stC0 B i).map Prod.snd with
   | none=>rw[hst] at hy1;cases hy1
   | some l=>rw[hst] at hy1;have:=rL_lng (most:=6) (l:=l) hy1;show t.1.length<=6;omega
 refine⟨s38,rfl,?_⟩;refine hs.newput (vs:=[.slice s38.a s38.n s38.c,.slice none 0 0]) rfl rfl fun h41 hs=>?_;refine (bounded74 36 rb s B hb0 h41 _ _ hRB hBy ⟨k2,hk2,hs.swap,ho2⟩).mono ?_;clear hs ho2;rintro _ h44 ⟨rfl,hr⟩;generalize hy2:(y1.map Prod.snd).bind (rBq 36)=y2 at *;refine⟨_,rfl,?_⟩;generalize hM:(Option.map Prod.fst y2).getD 0=M at *;have hM0:0<=M/\M<=36:=by
  rw[<-hM];cases hc:y2 with
  | none=>decide
  | some q=>
   rw[hc] at hy2;cases hst:y1.map Prod.snd with
   | none=>rw[hst] at hy2;cases hy2
   | some l=>rw[hst] at hy2;exact rB_le (l:=l) hy2
 refine⟨fun x h' μ=>∃(k:Nat) (Bs:List Bx) (A':List It) (sb:Sl),x=(k:Int)/\μ=36-k/\Bs.length=k/\k<=36/\(k:Int)<=M /\
  Rds hb0 h' 212 rb s B ((y2.bind fun q=>rMany (rL 4) k q.2).map Prod.snd) (.blk h39.size [.slice s38.a s38.n s38.c,.slice sb.a sb.n sb.c] 52 :: .sl sb 25 1 (Bs.map Bx.cs) :: .blk h23.size [.int .i64 K,.slice cs.a cs.n cs.c] 31 :: .sl cs 52 2 (C.map Cr.cs)::A') /\
  It.sl s38 3 1 (S.map inC)∈A'/\(∀q∈Bs,q.it∈A'/\q.l.length<=4)/\(∀j∈A,j∈A')/\(∀t,(y2.bind fun q=>rMany (rL 4) k q.2)=some t->Bs.map Bx.l=t.1),
  ⟨_,0,[],.sl s38 3 1 (S.map inC)::A,⟨none,0,0⟩,rfl,rfl,rfl,by omega,by omega,?_,Yx,fun q hq=>(by cases hq),fun j hj=>Yn _ hj,fun t ht=>?_⟩,?_⟩
 .obtain⟨k3,hk3,hs,ho3⟩:=hr;have e:(y2.bind fun q=>rMany (rL 4) 0 q.2).map Prod.snd=y2.map Prod.snd:=by cases y2<;>rfl
  rw[e];refine⟨k3,hk3,(hs.nil_ 25 1).perm ?_,ho3⟩;exact ((List.perm_append_comm (l₁:=[_]) (l₂:=[_,_])).append_right _).trans (List.Perm.cons _ (List.Perm.cons _ (List.Perm.cons _ ((List.perm_middle (l₁:=[_,_])).symm))))
 .cases hc:y2 with
  | none=>rw[hc] at ht;cases ht
  | some q=>rw[hc] at ht;injection ht with ht;rw[<-ht];rfl
 clear hr;rintro-_ h49 μ ⟨k,Bs,A',sb,rfl,rfl,hBl,hk,hkM,⟨k3,hk3,hs,ho3⟩,hm38,hBm,hAA,hBp⟩;have hBsl:=(hs.len 2 (s:=sb) rfl (by decide)).1;have hcsl:=(hs.len 4 (s:=cs) rfl (by decide)).1;rw[Yc] at hBsl hcsl;refine sBi (fun c9=>?_) (fun c9=>?_)
 .refine⟨sb,hs.rd 1 rfl (i:=1) rfl,?_⟩;refine (ints76 4 ⟨by decide,by decide⟩ rb s B hb0 h49 _ _ hRB hBy ⟨k3,hk3,hs,ho3⟩).mono ?_;rintro _ h53 ⟨s52,rfl,⟨k4,hk4,hs4,ho4⟩⟩;generalize hX:(Option.map Prod.fst ((Option.map Prod.snd (y2.bind fun q=>rMany (rL 4) k q.2)).bind (rL 4))).getD []=X at *;have hXl:X.length<=4:=by
   rw[<-hX];cases hst:Option.map Prod.snd (y2.bind fun q=>rMany (rL 4) k q.2) with
   | none=>exact Nat.zero_le _
   | some l=>
    show (Option.getD (Option.map Prod.fst (rL 4 l)) []).length<=4;cases hl4:rL 4 l with
    | none=>exact Nat.zero_le _
    | some t=>have:=rL_lng hl4;show t.1.length<=4;omega
  refine⟨s52,rfl,hs.smbO hs4 1 2 1 rfl rfl,?_⟩;refine hs4.newb fun h54 hs5=>⟨hs4.smbO hs5 2 3 1 rfl rfl,?_⟩;refine hs5.appended 4 (s:=sb) rfl app24 (x:=⟨h53.size,0,none⟩) (m:=1) (c:=1) (news:=[slC s52]) (hs5.at 0 rfl (o:=0) (n:=1) rfl) rfl (by intro r hr;rw[Ye.1 hr];rfl) rfl (by omega) (by simp only[maxLen];omega) fun s55 h56 n55 hs6=>?_;refine hs6.put 3 rfl (o:=1) (vs:=[.slice s55.a s55.n s55.c]) rfl (Yyt 2) fun h57 hs7=>?_;have hs8:=hs7.drop 1;have eo:(Option.map Prod.snd (y2.bind fun q=>rMany (rL 4) k q.2)).bind (rL 4)=(y2.bind fun q=>rMany (rL 4) k q.2).bind fun t=>rL 4 t.2:=by
   cases (y2.bind fun q=>rMany (rL 4) k q.2)<;>rfl
  have es:(y2.bind fun q=>rMany (rL 4) (k+1) q.2)=(y2.bind fun q=>rMany (rL 4) k q.2).bind fun t=>(rL 4 t.2).map fun u=>(t.1++[u.1],u.2):=by cases y2<;>rfl
  have e2:(y2.bind fun q=>rMany (rL 4) (k+1) q.2).map Prod.snd=Option.map Prod.snd ((Option.map Prod.snd (y2.bind fun q=>rMany (rL 4) k q.2)).bind (rL 4)):=by
   rw[es,eo];cases hq:(y2.bind fun q=>rMany (rL 4) k q.2) with
   | none=>rfl
   | some t=>simp only[Option.bind_some];cases rL 4 t.2<;>rfl
  refine⟨_,(show 36-(k+1)<36-k by omega),k+1,Bs++[⟨s52,X⟩],.sl s52 3 1 (X.map inC)::A',s55,by rw[w64 (by omega) (by omega)];omega,rfl,by rw[Yh];simp only[Yv];omega,by omega,by omega,⟨k4,hk4,?_,by rw[e2];exact ho4⟩,Yn _ hm38,fun q hq=>?_,fun j hj=>Yn _ (hAA j hj),fun t ht=>?_⟩
  .rw[e2,Ym];exact hs8.perm (List.Perm.cons _ ((List.perm_middle (l₁:=[_,_,_,_])).symm))
  .rcases Yk.1 hq with hq | hq
   .exact⟨Yn _ (hBm q hq).1,(hBm q hq).2⟩
   .rw[Ye.1 hq];exact⟨Yx,hXl⟩
  .rw[es] at ht;cases hq:(y2.bind fun q=>rMany (rL 4) k q.2) with
   | none=>rw[hq] at ht;cases ht
   | some u=>
    rw[hq] at ht hX;simp only[Option.bind_some] at ht;cases hl4:rL 4 u.2 with
    | none=>rw[hl4] at ht;cases ht
    | some w=>
     rw[hl4] at ht;simp only[Option.map_some,Option.some.injEq] at ht;have hXw:w.1=X:=by rw[<-hX];show _=(Option.map Prod.fst (rL 4 u.2)).getD [];rw[hl4];rfl
     rw[<-ht,Ym,hBp u hq,hXw];rfl
 .have hkM2:k=M.toNat:=by omega
  refine⟨cs,hs.rd 3 rfl (i:=1) rfl,s38,sb,hs.at 1 rfl (o:=0) (n:=2) rfl,?_⟩;refine hs.app 4 (s:=cs) (rows:=C.map Cr.cs) rfl app29 (m:=1) [Cr.cs ⟨s38,sb,S,Bs⟩] rfl rfl (by intro r hr;rw[Ye.1 hr];rfl) rfl (by omega) (by simp only[maxLen];omega) fun s63 h64 n63 hs5=>?_;refine hs5.put 3 rfl (o:=1) (vs:=[.slice s63.a s63.n s63.c]) rfl (Yyt 2) fun h65 hs6=>?_;have hs7:=hs6.eras 1;have hy3:(y2.bind fun q=>rMany (rL 4) k q.2)=y2.bind fun q=>rMany (rL 4) q.1.toNat q.2:=by
   cases hc:y2 with
   | none=>rfl
   | some q=>rw[hc] at hM;show rMany (rL 4) k q.2=rMany (rL 4) q.1.toNat q.2;rw[hkM2,<-hM];rfl
  obtain⟨st1,st2⟩:=stC0_step hy1 hy2 hy3.symm;refine⟨_,(show 20000-(i+1)<20000-i by omega),i+1,C++[⟨s38,sb,S,Bs⟩],.sl sb 25 1 (Bs.map Bx.cs)::A',s63,by rw[w64 (by omega) (by omega)];omega,rfl,by rw[Yh];simp only[Yv];omega,by omega,by omega,⟨k3,hk3,?_,by rw[st1];exact ho3⟩,fun d hd=>?_,fun q hq=>?_⟩
  .rw[st1,Ym];exact hs7.perm (List.Perm.cons _ ((List.perm_middle (l₁:=[_,_])).symm))
  .rcases Yk.1 hd with hd | hd
   .exact (hCM d hd).mono fun j hj=>Yn _ (hAA j hj)
   .rw[Ye.1 hd];exact⟨Yn _ hm38,Yx,fun q hq=>.inr (.inl (Yn _ (hBm q hq).1)),by show S.length<=_;omega,by show Bs.length<=_;omega,fun q hq=>by have:=(hBm q hq).2;omega⟩
  .obtain⟨p0,t,hp0,ht,he⟩:=st2 q hq;rw[he,Ym,hCp p0 hp0,hS];show p0.1++[(S,Bs.map Bx.l)]=_;rw[hBp t ht]
theorem openS_five {b:List Int} (h13:¬b.length<13) (h0:(openS b).1≠0):(openS b).1=5:=by
 unfold openS at *;rw[if_neg (show ¬b.length<8 by omega)] at *;by_cases h:eight (hsh (b.take (b.length-8)))≠b.drop (b.length-8)
 .rw[if_pos h]
 .rw[if_neg h] at h0;exact absurd rfl h0
theorem refDecode30 (p:Sl) (b:List Int) (h:Heap) (hb:RL h 1 p u8C b) (hB:Byt b):Fn Pz 30 #[.slice p.a p.n p.c] h (DecV b h):=by
 apply vc30 p;unfold W30 V30b V30a;have hn:=hb.ln;have hsm:=hb.sm;have hcap:=hb.cap;refine (St.refl h).newb fun h1 hs=>?_;refine sBi (fun c=>?_) (fun c=>?_)
 .exact dec_no hs 4 (if_pos (Or.inl (by omega)))
 have h13:¬b.length<13:=by omega
 refine⟨⟨by decide,by decide,by omega⟩,?_⟩;have hT5:=(hb.take (i:=5) (by omega)).ext hs.ext;refine (cv_rl hT5 (fun x hx=>hB x (List.mem_of_mem_take hx))).mono ?_;rintro _ _ ⟨rfl,rfl⟩;refine⟨_,rfl,?_⟩;rw[magicB];refine sB_not (sBs (fun c5=>?_) (fun c5=>?_));rotate_left
 .exact dec_no hs 4 (if_pos (Or.inr fun e=>c5 (by rw[e])))
 have hm:b.take 5=magicC:=toB_inj (fun x hx=>hB x (List.mem_of_mem_take hx)) (by decide) c5;refine (open78 p b _ (hb.ext hs.ext) hB).mono ?_;rintro _ h14 ⟨so,rfl,hs1⟩;have hs:=hs.join hs1;refine⟨so,_,rfl,?_⟩;have hdo:=decT_open h13 hm;refine sBn (fun c6=>?_) (fun c6=>?_)
 .exact dec_no hs 5 (by rw[hdo,if_pos c6,openS_five h13 c6])
 rw[if_neg (fun h=>h c6)] at hdo;obtain⟨hl,htk⟩:=openS_len h13 c6;generalize (openS b).2=pl at *;have hpB:Byt pl:=fun x hx=>by rw[htk] at hx;exact hB x (List.mem_of_mem_take hx)
 have hR0:RL h14 1 so u8C pl:=hs.rl 1 rfl (by decide) (by omega);have hson:=hR0.ln;have hsoc:=hR0.cap;refine⟨⟨by decide,by omega,by omega⟩,?_⟩;have hRB:=hR0.from (i:=5) (by omega)
 have hs0:St h h14 [.blk h.size [.int .i64 0,.slice none 0 0] 37]:=hs.sub (.cons_cons _ (List.nil_sublist _));refine (St.refl h14).newb fun h20 hr=>?_;replace hr:St h14 h20 (.blk h14.size (rdC ⟨subA so.a 5 so.c 1,so.n-5,so.c-5⟩ 0 false) 153::[]):=hr;have hBy:Byt (pl.drop 5):=fun x hx=>hpB x (List.mem_of_mem_drop hx);generalize pl.drop 5=B at *;generalize (⟨subA so.a 5 so.c 1,so.n-5,so.c-5⟩:Sl)=s at hRB hr;clear hs hs1;refine (integer79 h14.size s B h14 h20 (some B) [] hRB hBy ⟨0,Nat.zero_le _,hr,fun l hl=>by injection hl⟩).mono ?_;rintro _ h23 ⟨rfl,⟨k1,hk1,hs,ho⟩⟩;refine⟨_,rfl,?_⟩;generalize hK:(Option.map Prod.fst ((some B).bind rIq)).getD 0=K at *;refine hs.newput (vs:=[.int .i64 K,.slice none 0 0]) rfl rfl fun h25 hs=>?_;have e0:(Option.map Prod.snd ((some B).bind rIq)).bind (rBq 20000)=c0 B:=by unfold c0;show (Option.map Prod.snd (rIq B)).bind _=_;cases rIq B<;>rfl
 refine (bounded80 20000 h14.size s B h14 h25 _ _ hRB hBy ⟨k1,hk1,hs.swap,ho⟩).mono ?_;clear hs ho hr;rintro _ h28 ⟨rfl,hr⟩;rw[e0] at hr ⊢;refine⟨_,rfl,?_⟩;generalize hN:(Option.map Prod.fst (c0 B)).getD 0=N at *;have hN0:0<=N/\N<=20000:=by
  rw[<-hN];cases hc:c0 B with
  | none=>decide
  | some q=>exact c0_le hc
 have rT4:(∀X,stC0 B N.toNat≠some (X,[]))->decT b=(4,0,[]):=fun hx=>by
  rw[hdo,rT_eq,hN];split
  .rename_i X C hq;split at hq
   .rename_i X' hq';exact absurd hq' (hx _)
   .cases hq
  .rfl
 have rT0:∀X,stC0 B N.toNat=some (X,[])->decT b=(0,K,X):=fun X hx=>by
  rw[hdo,rT_eq,hN,hx,<-hK];rfl
 have fin:∀ {hX:Heap} {i:Nat} {C:List Cr} {A:List It} {cs:Sl},Rds h14 hX 153 h14.size s B ((stC0 B i).map Prod.snd) (.blk h23.size [.int .i64 K,.slice cs.a cs.n cs.c] 37 :: .sl cs 28 2 (C.map Cr.cs)::A)->(∀c∈C,CfM A c.c1 c.c2 c.S c.B)->C.length=i->i<=20000 ->
   (∀q,stC0 B i=some q->C.map Cr.cf=q.1)->((i:Int)=N\/((i:Int)<N/\stC0 B i=none)) ->
   Fn Pz 82 #[.pointer (some ⟨h14.size,0,none⟩)] hX (fun v82 h84=>∃x83:Int,v82=.int .i64 x83/\(sB (x83 != 0)
    ((okAt h84 ⟨h.size,0,none⟩ 2/\∀h85:Heap,h85=hputs h84 ⟨h.size,0,none⟩ 0 [.int .i64 0,.slice none 0 0]->(∃x86:Int,∃x87:Sl,atC h85 ⟨h.size,0,none⟩ [.int .i64 x86,.slice x87.a x87.n x87.c]/\DecV b h (.tuple ⟨[.agg ⟨[.int .i64 x86,.slice x87.a x87.n x87.c]⟩,.int .i64 4]⟩) h85)))
    ((∃x92:Int,∃x93:Sl,atC h84 ⟨h23.size,0,none⟩ [.int .i64 x92,.slice x93.a x93.n x93.c]/\(okAt h84 ⟨h.size,0,none⟩ 2/\∀h94:Heap,h94=hputs h84 ⟨h.size,0,none⟩ 0 [.int .i64 x92,.slice x93.a x93.n x93.c]->(∃x95:Int,∃x96:Sl,atC h94 ⟨h.size,0,none⟩ [.int .i64 x95,.slice x96.a x96.n x96.c]/\DecV b h (.tuple ⟨[.agg ⟨[.int .i64 x95,.slice x96.a x96.n x96.c]⟩,.int .i64 0]⟩) h94)))))):=fun {hX i C A cs} hr hCM hCl hi hCp hst=>by
  refine (end82 h14.size s B h14 hX _ _ hRB hr).mono ?_;rintro _ _ ⟨rfl,rfl⟩;obtain⟨k2,hk2,hs,ho2⟩:=hr;have hj:=hs0.join hs;have hcl:=(hs.len 2 (s:=cs) rfl (by decide)).1;rw[Yc] at hcl;refine⟨_,rfl,sBn (fun c=>?_) (fun c=>?_)⟩
  .refine dec_no hj 4 ?_;rcases hst with h2 | ⟨h2,h3⟩
   .refine rT4 fun X hx=>c ?_;rw[show N.toNat=i by omega] at hx;rw[hx];rfl
   .exact rT4 fun X hx=>by rw[stC0_none h3 (n:=N.toNat) (by omega)] at hx;cases hx
  .refine⟨K,cs,hs.at 1 rfl (o:=0) (n:=2) rfl,?_⟩;obtain⟨X,hX2⟩:∃X,stC0 B i=some (X,[]):=by
    unfold endE at c;cases hs2:stC0 B i with
    | none=>rw[hs2] at c;cases c
    | some q=>
     obtain⟨X,l⟩:=q;rw[hs2] at c;split at c
     .rename_i e;injection e with e;exact⟨X,by rw[show l=[] from e]⟩
     .cases c
   have hiN:i=N.toNat:=by
    rcases hst with h2 | ⟨_,h3⟩
    .omega
    .rw[h3] at hX2;cases hX2
   refine dec_ret (e:=28) hj K cs C 0 ⟨by simp,fun d hd=>(hCM d hd).mono fun j hj=>by simp[hj],by omega⟩ ?_;rw[rT0 X (by rw[<-hiN];exact hX2),hCp _ hX2]
 refine⟨fun x h' μ=>∃(i:Nat) (C:List Cr) (A:List It) (cs:Sl),x=(i:Int)/\μ=20000-i/\C.length=i/\i<=20000/\(i:Int)<=N/\Rds h14 h' 153 h14.size s B ((stC0 B i).map Prod.snd) (.blk h23.size [.int .i64 K,.slice cs.a cs.n cs.c] 37 :: .sl cs 28 2 (C.map Cr.cs)::A) /\
  (∀c∈C,CfM A c.c1 c.c2 c.S c.B)/\(∀q,stC0 B i=some q->C.map Cr.cf=q.1),⟨_,0,[],[],⟨none,0,0⟩,rfl,rfl,rfl,by omega,by omega,?_,fun c hc=>(by cases hc),fun q hq=>?_⟩,?_⟩
 .obtain⟨k2,hk2,hs,ho2⟩:=hr;have e:(stC0 B 0).map Prod.snd=(c0 B).map Prod.snd:=by unfold stC0;cases c0 B<;>rfl
  rw[e];exact⟨k2,hk2,(hs.nil_ 28 2).perm (List.perm_append_comm (l₁:=[_]) (l₂:=[_,_])),ho2⟩
 .unfold stC0 at hq;cases hc:c0 B with
  | none=>rw[hc] at hq;cases hq
  | some t=>rw[hc] at hq;injection hq with hq;rw[<-hq];rfl
 clear hr;rintro-_ h33 μ ⟨i,C,A,cs,rfl,rfl,hCl,hi,hiN,hr,hCM,hCp⟩;refine sBi (fun c7=>?_) (fun c7=>fin hr hCM hCl hi hCp (.inl (by omega)));obtain⟨k0,hk0,hs,ho⟩:=hr;have hr:Rds h14 h33 153 h14.size s B ((stC0 B i).map Prod.snd) (.blk h23.size [.int .i64 K,.slice cs.a cs.n cs.c] 37 :: .sl cs 28 2 (C.map Cr.cs)::A):=⟨k0,hk0,hs,ho⟩;refine⟨_,hs.rd 0 rfl (i:=2) rfl,sB_intro (fun c8=>?_) (fun c8=>?_)⟩;rotate_left
 .refine fin hr hCM hCl hi hCp (.inr ⟨c7,?_⟩);cases hs2:stC0 B i with
  | none=>rfl
  | some q=>rw[hs2] at c8;cases c8
 clear hs ho;refine (ints81 6 ⟨by decide,by decide⟩ h14.size s B h14 _ _ _ hRB hBy hr).mono ?_;clear hr;rintro _ h39 ⟨s38,rfl,⟨k2,hk2,hs,ho2⟩⟩;generalize hy1:((stC0 B i).map Prod.snd).bind (rL 6)=y1 at *;generalize hS:(y1.map Prod.fst).getD []=S at *;have hSl:S.length<=6:=by
  rw[<-hS];cases hy:y1 with
  | none=>exact Nat.zero_le _
  | some t=>
   rw[hy] at hy1;cases hst:(stC0 B i).map Prod.snd with
   | none=>rw[hst] at hy1;cases hy1
   | some l=>rw[hst] at hy1;have:=rL_lng (most:=6) (l:=l) hy1;show t.1.length<=6;omega
 refine⟨s38,rfl,?_⟩;refine hs.newput (vs:=[.slice s38.a s38.n s38.c,.slice none 0 0]) rfl rfl fun h41 hs=>?_;refine (bounded80 36 h14.size s B h14 h41 _ _ hRB hBy ⟨k2,hk2,hs.swap,ho2⟩).mono ?_;clear hs ho2;rintro _ h44 ⟨rfl,hr⟩;generalize hy2:(y1.map Prod.snd).bind (rBq 36)=y2 at *;refine⟨_,rfl,?_⟩;generalize hM:(Option.map Prod.fst y2).getD 0=M at *;have hM0:0<=M/\M<=36:=by
  rw[<-hM];cases hc:y2 with
  | none=>decide
  | some q=>
   rw[hc] at hy2;cases hst:y1.map Prod.snd with
   | none=>rw[hst] at hy2;cases hy2
   | some l=>rw[hst] at hy2;exact rB_le (l:=l) hy2
 refine⟨fun x h' μ=>∃(k:Nat) (Bs:List Bx) (A':List It) (sb:Sl),x=(k:Int)/\μ=36-k/\Bs.length=k/\k<=36/\(k:Int)<=M /\
  Rds h14 h' 153 h14.size s B ((y2.bind fun q=>rMany (rL 4) k q.2).map Prod.snd) (.blk h39.size [.slice s38.a s38.n s38.c,.slice sb.a sb.n sb.c] 28 :: .sl sb 25 1 (Bs.map Bx.cs) :: .blk h23.size [.int .i64 K,.slice cs.a cs.n cs.c] 37 :: .sl cs 28 2 (C.map Cr.cs)::A') /\
  It.sl s38 3 1 (S.map inC)∈A'/\(∀q∈Bs,q.it∈A'/\q.l.length<=4)/\(∀j∈A,j∈A')/\(∀t,(y2.bind fun q=>rMany (rL 4) k q.2)=some t->Bs.map Bx.l=t.1),
  ⟨_,0,[],.sl s38 3 1 (S.map inC)::A,⟨none,0,0⟩,rfl,rfl,rfl,by omega,by omega,?_,Yx,fun q hq=>(by cases hq),fun j hj=>Yn _ hj,fun t ht=>?_⟩,?_⟩
 .obtain⟨k3,hk3,hs,ho3⟩:=hr;have e:(y2.bind fun q=>rMany (rL 4) 0 q.2).map Prod.snd=y2.map Prod.snd:=by cases y2<;>rfl
  rw[e];refine⟨k3,hk3,(hs.nil_ 25 1).perm ?_,ho3⟩;exact ((List.perm_append_comm (l₁:=[_]) (l₂:=[_,_])).append_right _).trans (List.Perm.cons _ (List.Perm.cons _ (List.Perm.cons _ ((List.perm_middle (l₁:=[_,_])).symm))))
 .cases hc:y2 with
  | none=>rw[hc] at ht;cases ht
  | some q=>rw[hc] at ht;injection ht with ht;rw[<-ht];rfl
 clear hr;rintro-_ h49 μ ⟨k,Bs,A',sb,rfl,rfl,hBl,hk,hkM,⟨k3,hk3,hs,ho3⟩,hm38,hBm,hAA,hBp⟩;have hBsl:=(hs.len 2 (s:=sb) rfl (by decide)).1;have hcsl:=(hs.len 4 (s:=cs) rfl (by decide)).1;rw[Yc] at hBsl hcsl;refine sBi (fun c9=>?_) (fun c9=>?_)
 .refine⟨sb,hs.rd 1 rfl (i:=1) rfl,?_⟩;refine (ints81 4 ⟨by decide,by decide⟩ h14.size s B h14 h49 _ _ hRB hBy ⟨k3,hk3,hs,ho3⟩).mono ?_;rintro _ h53 ⟨s52,rfl,⟨k4,hk4,hs4,ho4⟩⟩;generalize hX:(Option.map Prod.fst ((Option.map Prod.snd (y2.bind fun q=>rMany (rL 4) k q.2)).bind (rL 4))).getD []=X at *;have hXl:X.length<=4:=by
   rw[<-hX];cases hst:Option.map Prod.snd (y2.bind fun q=>rMany (rL 4) k q.2) with
   | none=>exact Nat.zero_le _
   | some l=>
    show (Option.getD (Option.map Prod.fst (rL 4 l)) []).length<=4;cases hl4:rL 4 l with
    | none=>exact Nat.zero_le _
    | some t=>have:=rL_lng hl4;show t.1.length<=4;omega
  refine⟨s52,rfl,hs.smbO hs4 1 2 1 rfl rfl,?_⟩;refine hs4.newb fun h54 hs5=>⟨hs4.smbO hs5 2 3 1 rfl rfl,?_⟩;refine hs5.appended 4 (s:=sb) rfl app24 (x:=⟨h53.size,0,none⟩) (m:=1) (c:=1) (news:=[slC s52]) (hs5.at 0 rfl (o:=0) (n:=1) rfl) rfl (by intro r hr;rw[Ye.1 hr];rfl) rfl (by omega) (by simp only[maxLen];omega) fun s55 h56 n55 hs6=>?_;refine hs6.put 3 rfl (o:=1) (vs:=[.slice s55.a s55.n s55.c]) rfl (Yyt 2) fun h57 hs7=>?_;have hs8:=hs7.drop 1;have eo:(Option.map Prod.snd (y2.bind fun q=>rMany (rL 4) k q.2)).bind (rL 4)=(y2.bind fun q=>rMany (rL 4) k q.2).bind fun t=>rL 4 t.2:=by
   cases (y2.bind fun q=>rMany (rL 4) k q.2)<;>rfl
  have es:(y2.bind fun q=>rMany (rL 4) (k+1) q.2)=(y2.bind fun q=>rMany (rL 4) k q.2).bind fun t=>(rL 4 t.2).map fun u=>(t.1++[u.1],u.2):=by cases y2<;>rfl
  have e2:(y2.bind fun q=>rMany (rL 4) (k+1) q.2).map Prod.snd=Option.map Prod.snd ((Option.map Prod.snd (y2.bind fun q=>rMany (rL 4) k q.2)).bind (rL 4)):=by
   rw[es,eo];cases hq:(y2.bind fun q=>rMany (rL 4) k q.2) with
   | none=>rfl
   | some t=>simp only[Option.bind_some];cases rL 4 t.2<;>rfl
  refine⟨_,(show 36-(k+1)<36-k by omega),k+1,Bs++[⟨s52,X⟩],.sl s52 3 1 (X.map inC)::A',s55,by rw[w64 (by omega) (by omega)];omega,rfl,by rw[Yh];simp only[Yv];omega,by omega,by omega,⟨k4,hk4,?_,by rw[e2];exact ho4⟩,Yn _ hm38,fun q hq=>?_,fun j hj=>Yn _ (hAA j hj),fun t ht=>?_⟩
  .rw[e2,Ym];exact hs8.perm (List.Perm.cons _ ((List.perm_middle (l₁:=[_,_,_,_])).symm))
  .rcases Yk.1 hq with hq | hq
   .exact⟨Yn _ (hBm q hq).1,(hBm q hq).2⟩
   .rw[Ye.1 hq];exact⟨Yx,hXl⟩
  .rw[es] at ht;cases hq:(y2.bind fun q=>rMany (rL 4) k q.2) with
   | none=>rw[hq] at ht;cases ht
   | some u=>
    rw[hq] at ht hX;simp only[Option.bind_some] at ht;cases hl4:rL 4 u.2 with
    | none=>rw[hl4] at ht;cases ht
    | some w=>
     rw[hl4] at ht;simp only[Option.map_some,Option.some.injEq] at ht;have hXw:w.1=X:=by rw[<-hX];show _=(Option.map Prod.fst (rL 4 u.2)).getD [];rw[hl4];rfl
     rw[<-ht,Ym,hBp u hq,hXw];rfl
 .have hkM2:k=M.toNat:=by omega
  refine⟨cs,hs.rd 3 rfl (i:=1) rfl,s38,sb,hs.at 1 rfl (o:=0) (n:=2) rfl,?_⟩;refine hs.app 4 (s:=cs) (rows:=C.map Cr.cs) rfl app36r (m:=1) [Cr.cs ⟨s38,sb,S,Bs⟩] rfl rfl (by intro r hr;rw[Ye.1 hr];rfl) rfl (by omega) (by simp only[maxLen];omega) fun s63 h64 n63 hs5=>?_;refine hs5.put 3 rfl (o:=1) (vs:=[.slice s63.a s63.n s63.c]) rfl (Yyt 2) fun h65 hs6=>?_;have hs7:=hs6.eras 1;have hy3:(y2.bind fun q=>rMany (rL 4) k q.2)=y2.bind fun q=>rMany (rL 4) q.1.toNat q.2:=by
   cases hc:y2 with
   | none=>rfl
   | some q=>rw[hc] at hM;show rMany (rL 4) k q.2=rMany (rL 4) q.1.toNat q.2;rw[hkM2,<-hM];rfl
  obtain⟨st1,st2⟩:=stC0_step hy1 hy2 hy3.symm;refine⟨_,(show 20000-(i+1)<20000-i by omega),i+1,C++[⟨s38,sb,S,Bs⟩],.sl sb 25 1 (Bs.map Bx.cs)::A',s63,by rw[w64 (by omega) (by omega)];omega,rfl,by rw[Yh];simp only[Yv];omega,by omega,by omega,⟨k3,hk3,?_,by rw[st1];exact ho3⟩,fun d hd=>?_,fun q hq=>?_⟩
  .rw[st1,Ym];exact hs7.perm (List.Perm.cons _ ((List.perm_middle (l₁:=[_,_])).symm))
  .rcases Yk.1 hd with hd | hd
   .exact (hCM d hd).mono fun j hj=>Yn _ (hAA j hj)
   .rw[Ye.1 hd];exact⟨Yn _ hm38,Yx,fun q hq=>.inr (.inl (Yn _ (hBm q hq).1)),by show S.length<=_;omega,by show Bs.length<=_;omega,fun q hq=>by have:=(hBm q hq).2;omega⟩
  .obtain⟨p0,t,hp0,ht,he⟩:=st2 q hq;rw[he,Ym,hCp p0 hp0,hS];show p0.1++[(S,Bs.map Bx.l)]=_;rw[hBp t ht]
end Go.VC
end

section
namespace Go.VC
open Go.Proofs Go.LexS Go.Maps
theorem cls_5 (L:List Mch) (k:Int) (Q:List Cf):(clsS L k Q).1=0\/(clsS L k Q).1=5:=by
 unfold clsS;cases fstI (fun c=>(levS L k Q c).isSome=true) Q with
 | none=>exact .inl rfl
 | some i=>
  dsimp only;cases (Q[i]?).bind (levS L k Q) with
  | none=>exact .inl rfl
  | some q=>exact .inr rfl
theorem cls_0 {L:List Mch} {k:Int} {Q:List Cf} (h:(clsS L k Q).1=0) {c:Cf} (hc:c∈Q):levS L k Q c=none:=by
 unfold clsS at h;cases hf:fstI (fun c=>(levS L k Q c).isSome=true) Q with
 | none=>
  have h1:=fstI_no hf hc;cases hl:levS L k Q c with
  | none=>rfl
  | some q=>exact absurd (by rw[hl];rfl) h1
 | some i=>
  rw[hf] at h;dsimp only at h;obtain⟨c,gc,hs⟩:=fstI_ex hf;obtain⟨q,hq⟩:=Option.isSome_iff_exists.1 hs;rw[gc,Option.bind_some,hq] at h;exact absurd h (show ¬((5:Int)=0) by decide)
open Classical in
theorem lev_inv {L:List Mch} {k:Int} {Q:List Cf} {c:Cf} (h:levS L k Q c=none) {q:Nat × Nat} (hq:q∈stepsS L k c.1 c.2):nxS L c q∈Q:=by
 unfold levS at h;have h2:=List.find?_eq_none.1 h q hq;rw[decide_eq_true_eq] at h2;exact Classical.not_not.1 h2
theorem right_mem {L:List Mch} {k:Int} {Q:List Cf} (hP:ChkP L k Q 5):∀ {n:Nat} {l:List (Nat × Nat)} {c:Cf},l.length=n->runS L k l=some c->c∈Q
 | 0,l,c,hn,hr=>by
  obtain rfl:=List.length_eq_zero_iff.1 hn;have h2:some ((startS L,(List.replicate (L.length*L.length) bx0).map Bx.l):Cf)=some c:=hr;rw[bxs0] at h2;rw[<-Yyp h2];exact hP.d (by omega)
 | n+1,l,c,hn,hr=>by
  obtain⟨l',q,rfl⟩:∃l' q,l=l'++[q]:=⟨l.dropLast,l.getLast (by intro e;rw[e] at hn;cases hn),(List.dropLast_concat_getLast _).symm⟩;rw[Yh,Yv] at hn;rw[runS_snoc] at hr;cases h0:runS L k l' with
  | none=>rw[h0] at hr;cases hr
  | some c0=>
   rw[h0] at hr;have hc0:=right_mem (n:=n) hP (by omega) h0;obtain⟨hq,rfl⟩:=stp_inv hr;exact lev_inv (cls_0 (hP.e (by omega)) hc0) hq
theorem fst_get {Q:List Qe} {j:Nat} {d:Cf} (h:(Q.map Prod.fst)[j]?=some d):∃e,Q[j]?=some e/\e.1=d:=by
 rw[Yd] at h;cases g:Q[j]? with
 | none=>rw[g] at h;cases h
 | some e=>rw[g] at h;cases h;exact⟨e,rfl,rfl⟩
theorem sea_p4 {L:List Mch} {k:Int} {lm:Nat} {Q:List Qe} (hs:Sea L k lm Q.length Q) (hk:1<=k/\k<=4) (hl2:lm<=20000) {n:Nat} (h1:1<=n):ChkP L k ((Q.map Prod.fst).take n) 4:=by
 have hg:∀ {j:Nat} {d:Cf},((Q.map Prod.fst).take n)[j]?=some d->∃e,Q[j]?=some e/\e.1=d:=fun {j d} h=>by
  by_cases hj:j<n
  .rw[List.getElem?_take_of_lt hj] at h;exact fst_get h
  .rw[List.getElem?_take_eq_none (by omega)] at h;cases h
 refine⟨fun _ hx=>?_,fun _=>fstI_none fun j d hd=>?_,fun _=>fstI_none fun j d hd=>?_,fun _=>?_,fun h=>by omega⟩
 .have:=hs.l;rw[Yu,Yc] at hx;omega
 .obtain⟨e,ge,rfl⟩:=hg hd;exact fun h=>h (hs.p e (Yb ge))
 .obtain⟨e,ge,rfl⟩:=hg hd;exact fun h=>h (hs.d j e (Ya.1 ge).1 ge).1
 .refine Yb (i:=0) ?_;rw[List.getElem?_take_of_lt (by omega),Yd,hs.s];rfl
theorem safe_chk {L:List Mch} {k:Int} {lm:Nat} {Q:List Cf} (hV:SysV L) (hk:1<=k/\k<=4) (hl:1<=lm) (hl2:lm<=20000) (h:exS L k lm=.safe Q):chkV L k Q=(flt0,0):=by
 have hok:=exS_ok (lim:=lm) hV hk hl;rw[h] at hok;obtain⟨Q',hs,rfl⟩:=hok;have h0:0<Q'.length:=(Ya.1 hs.s).1;have p4:=sea_p4 hs hk hl2 (n:=Q'.length) (by omega);rw[Yj (by rw[Yc];exact Yyt _)] at p4;refine chk_0 hV ⟨fun _=>p4.a (by omega),fun _=>p4.b (by omega),fun _=>p4.c (by omega),fun _=>p4.d (by omega),fun _=>?_⟩;rw[cls_none fun j d hd=>lev_none fun q hq=>?_]
 .rfl
 .obtain⟨e,ge,rfl⟩:=fst_get hd;obtain⟨m,e',gm,he,-⟩:=(hs.d j e (Ya.1 ge).1 ge).2 q hq;rw[<-he];exact List.mem_map_of_mem (Yb gm)
theorem cut_chk {L:List Mch} {k:Int} {lm:Nat} {Q:List Cf} (hV:SysV L) (hk:1<=k/\k<=4) (hl:1<=lm) (hl2:lm<=20000) (h:exS L k lm=.safe Q) {n:Nat} (h1:1<=n) (hn:n<Q.length):(chkV L k (Q.take n)).2=23/\(chkV L k (Q.take n)).1.1=5:=by
 have hok:=exS_ok (lim:=lm) hV hk hl;rw[h] at hok;obtain⟨Q',hs,rfl⟩:=hok;have p4:=sea_p4 hs hk hl2 h1;rcases cls_5 L k ((Q'.map Prod.fst).take n) with h5 | h5
 .exfalso;have p5:ChkP L k ((Q'.map Prod.fst).take n) 5:=⟨fun _=>p4.a (by omega),fun _=>p4.b (by omega),fun _=>p4.c (by omega),fun _=>p4.d (by omega),fun _=>h5⟩;rw[Yc] at hn;obtain⟨e,ge⟩:=get_some hn;have hm:=right_mem p5 rfl (hs.r e (Yb ge));obtain⟨j,gj⟩:=Yf.1 hm;have hj:j<n:=by
   have:=(Ya.1 gj).1;rw[Yu] at this;omega
  rw[List.getElem?_take_of_lt hj] at gj;have gn:(Q'.map Prod.fst)[n]?=some e.1:=by rw[Yd,ge];rfl
  have hjl:j<(Q'.map Prod.fst).length:=(Ya.1 gj).1;have:=(List.getElem?_inj hjl hs.n).1 (gj.trans gn.symm);omega
 .rw[chk_5 hV p4 (by rw[h5];decide)];exact⟨rfl,h5⟩
end Go.VC
end

section
namespace Go.VC
open Go.Proofs Go.LexS Go.Maps
def mkO (o:RV × Int) (k:Int):(Int × List Cf) × Int:=if o.2≠0 then ((0,[]),o.2) else if o.1.v=2 then ((0,[]),23) else if o.1.v=3 then ((0,[]),6) else ((k,o.1.Q),0)
def MkR (o:(Int × List Cf) × Int) (h:Heap) (v:Value) (h':Heap):Prop:=∃(cs:Sl) (C:List Cr),v=.tuple ⟨[.agg ⟨[.int .i64 o.1.1,.slice cs.a cs.n cs.c]⟩,.int .i64 o.2]⟩/\Ext h h'/\CtI h' cs C/\C.map Cr.cf=o.1.2
theorem CtI.nil {h:Heap}:CtI h ⟨none,0,0⟩ []:=⟨⟨Rw.nil,Yyt _,fun _=>⟨rfl,rfl⟩,Nat.zero_le _⟩,fun c hc=>by cases hc⟩
theorem make11 (L:List MR) (s:Sl) (k lim:Int) (h:Heap) (hS:SyI h s L) :
  Fn Pz 11 #[.slice s.a s.n s.c,.int .i64 k,.int .i64 lim] h (MkR (mkO (expV (L.map MR.m) k lim) k) h):=by
 apply vc11 s k lim;unfold W11;refine (St.refl h).newb fun h1 hs=>?_;have e1:=explore13 L s k lim h1 (hS.ext hs.ext);generalize expV (L.map MR.m) k lim=o at e1 ⊢;refine e1.mono ?_;rintro _ h9 ⟨cf,mo,tr,A,rfl,hs1,hR⟩;have hs:=hs.join hs1;refine⟨_,cf,mo,_,tr,_,rfl,?_⟩;refine hs.newput (vs:=resA o.1.v cf mo o.1.k tr) rfl rfl fun h11 hs=>?_;refine sBn (fun c=>?_) (fun c=>?_);have e:mkO o k=((0,[]),o.2):=if_pos c;rw[e];refine hs.put 1 rfl (o:=0) (vs:=[.int .i64 0,.slice none 0 0]) rfl (show 2<=2 by decide) fun h12 hs=>?_;rotate_left;refine⟨o.1.v,hs.rd 0 rfl (i:=0) rfl,sBe (fun c2=>?_) (fun c2=>?_)⟩;have e:mkO o k=((0,[]),23):=by unfold mkO;rw[if_neg (fun h=>h c),if_pos c2]
 rw[e];refine hs.put 1 rfl (o:=0) (vs:=[.int .i64 0,.slice none 0 0]) rfl (show 2<=2 by decide) fun h12 hs=>?_;rotate_left;refine⟨o.1.v,hs.rd 0 rfl (i:=0) rfl,sBe (fun c3=>?_) (fun c3=>?_)⟩;have e:mkO o k=((0,[]),6):=by unfold mkO;rw[if_neg (fun h=>h c),if_neg c2,if_pos c3]
 rw[e];refine hs.put 1 rfl (o:=0) (vs:=[.int .i64 0,.slice none 0 0]) rfl (show 2<=2 by decide) fun h12 hs=>?_;rotate_left;have e:mkO o k=((k,o.1.Q),0):=by unfold mkO;rw[if_neg (fun h=>h c),if_neg c2,if_neg c3]
 rw[e];refine⟨cf,hs.rd 0 rfl (i:=1) rfl,?_⟩;refine hs.put 1 rfl (o:=0) (vs:=[.int .i64 k,.slice cf.a cf.n cf.c]) rfl (show 2<=2 by decide) fun h24 hs=>?_;have hRI:=hR.at hs (memP (P:=[_,_]));obtain⟨C,q1,q2,q3⟩:=hRI.c;exact⟨k,cf,hs.at 1 rfl (o:=0) (n:=2) rfl,cf,C,rfl,hs.ext,⟨q1,q2⟩,q3⟩;all_goals first | exact⟨0,⟨none,0,0⟩,hs.at 1 rfl (o:=0) (n:=2) rfl,⟨none,0,0⟩,[],rfl,hs.ext,CtI.nil,rfl⟩
theorem mk_safe {n:Nat} {Q:List Cf} {k:Int}:mkO ((Res.safe Q).rv n,0) k=((k,Q),0):=by
 rfl
theorem awakeC9 (h:Heap) (hx:Gx h):Fn Pz 9 #[] h fun v h'=>v=.bool true/\Ext h h':=by
 apply vc9;unfold W9;refine (example34 true h).mono ?_;rintro _ h10 ⟨E10,hr,hd,he,rfl,hg⟩;refine⟨_,hr,hd,_,_,_,he,⟨none,0,0⟩,rfl,?_⟩;refine (all43 (exGl true hr hd he ⟨none,0,0⟩) h10 hg (hx.ext E10) (ex_valid _ _ _ _ _) xL (hg.r.ln.symm) (by decide) (fun i m hi=>?_)).mono ?_
 .match i,hi with
  | 0,hi=>cases hi;exact⟨xproj _ _ _ _ _ _ _ (by decide) (by decide) (xr0_raw _ _ _ _) xm0_min,by decide,by decide,by decide⟩
  | 1,hi=>cases hi;exact⟨xproj _ _ _ _ _ _ _ (by decide) (by decide) (xm1_raw _ _ _ _) xm1_min,by decide,by decide,by decide⟩
  | 2,hi=>cases hi;exact⟨xproj _ _ _ _ _ _ _ (by decide) (by decide) (xm2_raw _ _ _ _) xm2_min,by decide,by decide,by decide⟩
  | n+3,hi=>exact absurd hi (by simp[xL])
 rintro _ h14 ⟨s,L,rfl,E14,hL,hS⟩;have E0:=E10.trans E14;refine⟨s,0,rfl,?_⟩;have e1:=make11 L s 1 1000 h14 hS;have hv:expV (L.map MR.m) 1 1000=(⟨1,xRes,mostS 3 xRes,0,[]⟩,0):=by
  rw[hL];unfold expV;rw[if_neg (fun h=>by rcases h with h | h | h;exact h xsys;all_goals omega),if_neg (by omega)];show ((exS xL 1 1000).rv 3,(0:Int))=_;rw[xsearch];rfl
 have hm:mkO (expV (L.map MR.m) 1 1000) 1=((1,xRes),0):=by
  rw[hv];exact mk_safe (n:=3)
 rw[hm] at e1;refine e1.mono ?_;rintro _ h19 ⟨cs,C,rfl,E19,hC,hQ⟩;have hQ:C.map Cr.cf=xRes:=hQ;have hCl:C.length=12:=by have:=congrArg List.length hQ;rw[Yc] at this;rw[this];exact xres_len
 have hcn:=hC.r.ln;have hS:=hS.ext E19;have E0:=E0.trans E19;refine⟨1,cs,0,rfl,?_⟩;refine (St.refl h19).newput (vs:=[.int .i64 1,.slice cs.a cs.n cs.c]) rfl rfl fun h21 hs=>?_;refine⟨1,cs,hs.at 0 rfl (o:=0) (n:=2) rfl,?_⟩;have e2:=check15 L C s cs 1 h21 (hS.ext hs.ext) (hC.ext hs.ext);rw[hQ,hL,safe_chk xsys (by decide) (by decide) (by decide) xsearch] at e2;refine e2.mono ?_;rintro _ h30 ⟨rfl,E30⟩;have hs:=hs.step E30;refine⟨0,0,0,0,0,rfl,?_⟩;refine hs.newput (vs:=fltC flt0) rfl rfl fun h32 hs=>?_;refine sB_f rfl (sB_f rfl (sB_f rfl ⟨0,hs.rd 0 rfl (i:=0) rfl,sB_f rfl ⟨cs,hs.rd 1 rfl (i:=1) rfl,sB_f (decide_eq_false (by omega)) ?_⟩⟩));refine⟨cs,hs.rd 1 rfl (i:=1) rfl,cs,hs.rd 1 rfl (i:=1) rfl,?_⟩;have hw:IntKind.wrap .i64 ((cs.n:Int)-1)=((11:Nat):Int):=by rw[w64 (by omega) (by omega)];omega
 have hcc:=hC.r.cap;rw[hw];refine⟨⟨by omega,by omega,by omega⟩,?_⟩;obtain⟨t,ht⟩:∃t:Sl,t=⟨subA cs.a (Int.toNat 0) cs.c 2,Int.toNat ((11:Nat):Int)-Int.toNat 0,cs.c-Int.toNat 0⟩:=⟨_,rfl⟩;have hT:∀ {h':Heap},Ext h19 h'->CtI h' t (C.take 11):=fun {h'} E=>⟨by rw[ht];exact (hC.ext E).r.cut0 11 (by omega),fun c hc=>(hC.ext E).i c (List.mem_of_mem_take hc)⟩;rw[show subA cs.a (Int.toNat 0) cs.c 2=t.a by rw[ht],show Int.toNat ((11:Nat):Int)-Int.toNat 0=t.n by rw[ht],show cs.c-Int.toNat 0=t.c by rw[ht]];refine hs.put 1 rfl (o:=1) (vs:=[.slice t.a t.n t.c]) rfl (show 1+1<=2 by decide) fun h37 hs=>?_;refine⟨1,t,hs.at 1 rfl (o:=0) (n:=2) rfl,?_⟩;have e3:=check15 L (C.take 11) s t 1 h37 (hS.ext hs.ext) (hT hs.ext);have hQ2:(C.take 11).map Cr.cf=xRes.take 11:=by rw[List.map_take,hQ]
 have hcut:=cut_chk xsys (by decide) (by decide) (by decide) xsearch (n:=11) (by decide) (by rw[xres_len];decide);rw[hQ2,hL] at e3;refine e3.mono ?_;rintro _ h46 ⟨rfl,E46⟩;have hs:=hs.step E46;generalize chkV xL 1 (xRes.take 11)=o at hcut ⊢;refine⟨_,_,_,_,_,rfl,?_⟩;refine hs.put 0 rfl (o:=0) (vs:=fltC o.1) rfl (show 4<=4 by decide) fun h47 hs=>?_;refine sBe (fun _=>⟨o.1.1,hs.rd 0 rfl (i:=0) rfl,by rw[hcut.2];rfl,E0.trans hs.ext⟩) (fun c=>absurd hcut.1 c)
end Go.VC
end

section
namespace Go.VC
open Go.Proofs Go.LexS Go.RowKit
theorem xor8 {m:Nat} {y:Int} (hm:m<256) (hy:0<=y):xorI .u8 (m:Int) (IntKind.wrap .u8 y)=((m ^^^ (y.toNat%256):Nat):Int):=by
 obtain⟨z,rfl⟩:∃z:Nat,y=(z:Int):=⟨y.toNat,by omega⟩;rw[wrap8,Ys];have hz:z%256<256:=Nat.mod_lt _ (by decide);generalize z%256=w at *;unfold xorI;have e:(BitVec.ofInt (IntKind.bits .u8) (m:Int) ^^^ BitVec.ofInt (IntKind.bits .u8) (w:Int)).toNat=m ^^^ w:=by
  show (BitVec.ofInt 8 (m:Int) ^^^ BitVec.ofInt 8 (w:Int)).toNat=_;rw[BitVec.ofInt_natCast,BitVec.ofInt_natCast,BitVec.toNat_xor,BitVec.toNat_ofNat,BitVec.toNat_ofNat,Nat.mod_eq_of_lt hm,Nat.mod_eq_of_lt hz]
 rw[e];have:=Nat.xor_lt_two_pow (n:=8) hm hz;exact wu8 (by omega) (by omega)
def Tr (h:Heap) (v:Value) (h':Heap):Prop:=v=.bool true/\Ext h h'
theorem sealB_len (b:List Int):(sealB b).length=b.length+8:=by unfold sealB;rw[Yh];rfl
theorem sealB_byt {b:List Int} (hb:Byt b):Byt (sealB b):=fun x hx=>by
 unfold sealB at hx;rcases Yk.1 hx with h | h
 .exact hb x h
 .exact eight_byt _ x h
theorem chg8 {h hX h5:Heap} {L:List It} {body:List Int} {s:Sl} {x y:Int} (hb:Byt body) (hl:body.length<=1000000) (hx:0<=x/\x<65536) (hy:0<=y/\y<65536)
  (hs:St h hX (.sl s 5 1 ((sealB body).map u8C) :: .blk h5.size [.int .u16 x,.int .u16 y] 79::L)):V8b hX h5 s (Tr h):=by
 unfold V8b;have hn:=(hs.rows 0 rfl (by decide)).ln;rw[sealB_len] at hn;refine⟨⟨by decide,by decide⟩,x,hs.rd 1 rfl (i:=0) rfl,by omega,?_⟩;rw[w64 (n:=x) (by omega) (by omega)];have i0:0<=Int.tmod x (s.n:Int):=Int.tmod_nonneg _ hx.1;have i1:Int.tmod x (s.n:Int)<(s.n:Nat):=Int.tmod_lt_of_pos _ (by omega);generalize Int.tmod x (s.n:Int)=i at *;refine (hs.rows 0 rfl (by decide)).nbI i0 i1 fun b o c gc t=>?_;have hc:=sealB_byt hb c (Yb gc);obtain⟨m,rfl⟩:∃m:Nat,c=(m:Int):=⟨c.toNat,by omega⟩;refine⟨(m:Int),t.hd,⟨by decide,by decide⟩,y,hs.rd 1 rfl (i:=1) rfl,?_⟩;rw[xor8 (by omega) hy.1];have hw:=Nat.mod_lt y.toNat (show 256>0 by decide);have hxl:=Nat.xor_lt_two_pow (n:=8) (x:=m) (y:=y.toNat%256) (by omega) (by omega);refine hs.set 0 rfl (by decide) i0 i1 ((m ^^^ (y.toNat%256):Nat):Int) rfl rfl (fun _ _ h90 hs=>?_) rfl;have hl2:((sealB body).set i.toNat ((m ^^^ (y.toNat%256):Nat):Int)).length<=1048576:=by rw[Yyh,sealB_len];omega
 refine (decode29 s _ h90 (hs.rl 0 rfl (by decide) hl2) (fun z hz=>?_)).mono ?_
 .rcases List.mem_or_eq_of_mem_set hz with h1 | h1
  .exact sealB_byt hb z h1
  .rw[h1];omega
 rintro _ h95 ⟨s2,C2,rfl,E2,-,-⟩;have hs:=hs.step E2;refine⟨_,s2,_,rfl,?_⟩;refine hs.newput (vs:=[.int .i64 _,.slice s2.a s2.n s2.c]) rfl rfl fun h97 hs=>?_;refine⟨⟨by decide,by decide⟩,y,hs.rd 2 rfl (i:=1) rfl,sBe (fun c0=>⟨rfl,hs.ext⟩) (fun c0=>⟨?_,hs.ext⟩)⟩;have hne:((m ^^^ (y.toNat%256):Nat):Int)≠(m:Int):=fun e=>by
  have e1:m ^^^ (y.toNat%256)=m ^^^ 0:=by rw[Nat.xor_zero];omega
  have e2:=c_xor e1;obtain⟨z,rfl⟩:∃z:Nat,y=(z:Int):=⟨y.toNat,by omega⟩;rw[wrap8] at c0;rw[Ys] at e2;omega
 have hd:=decT_change hb gc (y:=((m ^^^ (y.toNat%256):Nat):Int)) ⟨by omega,by omega⟩ hne;have:((decT ((sealB body).set i.toNat ((m ^^^ (y.toNat%256):Nat):Int))).1 != 0)=true:=bne_iff_ne.2 hd;rw[this]
theorem lawTail8 {h hX h5 h28 h35:Heap} {C C1 C2:List Cr} {cs s1 s2 s:Sl} {k K e:Int} {F:List Cf} {x y:Int} (hC:CtI h cs C) (hk:I64 k) (hF:FewT (C.map Cr.cf)) (hI:I64T (C.map Cr.cf)) (hx:0<=x/\x<65536) (hy:0<=y/\y<65536)
  (h1:CtI hX s1 C1) (h2:CtI hX s2 C2) (e1:C1.map Cr.cf=F) (e2:C2.map Cr.cf=F) (hlen:(bodyT k (C.map Cr.cf)).length<=1000000)
  (hs:St h hX [.blk h35.size [.int .i64 K,.slice s2.a s2.n s2.c] 37,.blk h28.size [.int .i64 K,.slice s1.a s1.n s1.c] 31,.sl s 5 1 ((sealB (bodyT k (C.map Cr.cf))).map u8C),.blk h5.size [.int .u16 x,.int .u16 y] 79,.blk h.size [.int .i64 k,.slice cs.a cs.n cs.c] 37]) :
  V8a (bs (toB (sealB (bodyT k (C.map Cr.cf))))) (bs (toB (sealB (bodyT k (C.map Cr.cf))))) (Tr h) hX e e h28 h35 h s h5:=by
 unfold V8a;have hby:=bodyT_byt k (C.map Cr.cf);have chg:∀ {hZ:Heap} {L:List It},St h hZ (.sl s 5 1 ((sealB (bodyT k (C.map Cr.cf))).map u8C) :: .blk h5.size [.int .u16 x,.int .u16 y] 79::L)->V8b hZ h5 s (Tr h):=fun hs=>chg8 hby hlen hx hy hs;refine sB_not (sBs (fun _=>?_) (fun c=>absurd rfl c));refine sBn (fun c=>absurd rfl c) (fun _=>?_);refine⟨K,s1,hs.at 1 rfl (o:=0) (n:=2) rfl,K,s2,hs.at 0 rfl (o:=0) (n:=2) rfl,?_⟩;refine (theirs14 C1 s1 K hX h1).mono ?_;rintro _ h56 ⟨o1,rfl,E1,ho1⟩;refine⟨K,o1,rfl,E1.sm,?_⟩;refine (same13 C1 C2 K K o1 s2 h56 ho1 (h2.ext E1)).mono ?_;rintro _ h59 ⟨⟨b1,rfl,hb1⟩,E2⟩;have hb1t:b1=true:=hb1.2 ⟨rfl,by rw[e1,e2]⟩;subst hb1t;refine⟨true,rfl,E2.sm,?_⟩;have hs:=(hs.step E1).step E2;have hn:=(hs.rows 2 (s:=s) rfl (by decide)).ln;rw[sealB_len] at hn;refine sBe (fun c=>absurd c (by omega)) (fun _=>?_);refine (decode29 s _ h59 (hs.rl 2 rfl (by decide) (by rw[sealB_len];omega)) (sealB_byt hby)).mono ?_;rintro _ h64 ⟨s3,C3,rfl,E3,hC3,e3⟩;have hs:=hs.step E3;have hde:decT (sealB (bodyT k (C.map Cr.cf)))=if (C.map Cr.cf).all fitC then (0,k,C.map Cr.cf) else (4,0,[]):=decT_enc hk (by have:=hF.n;omega) fun c hc=>⟨(hI c hc).1,fun q hq=>⟨by have:=(hF.c c hc).2.2 q hq;omega,(hI c hc).2 q hq⟩,by have:=(hF.c c hc).1;omega,by have:=(hF.c c hc).2.1;omega⟩
 refine⟨_,s3,_,rfl,?_⟩;refine (St.refl h64).newput (vs:=[.int .i64 (decT (sealB (bodyT k (C.map Cr.cf)))).2.1,.slice s3.a s3.n s3.c]) rfl rfl fun h66 hs5=>?_;have hC3:=hC3.ext hs5.ext;have hs4:=hs.join hs5;refine⟨k,cs,hs4.at 4 rfl (o:=0) (n:=2) rfl,?_⟩;refine (fits32 C cs k h66 (hC.ext hs4.ext)).mono ?_;rintro _ h71 ⟨⟨b2,rfl,hb2⟩,E4⟩;have hs:=hs4.step E4;refine⟨b2,rfl,?_⟩;have hs3:St h h71 (.sl s 5 1 ((sealB (bodyT k (C.map Cr.cf))).map u8C) :: .blk h5.size [.int .u16 x,.int .u16 y] 79::[.blk h.size [.int .i64 k,.slice cs.a cs.n cs.c] 37,.blk h64.size [.int .i64 (decT (sealB (bodyT k (C.map Cr.cf)))).2.1,.slice s3.a s3.n s3.c] 31]):=hs.drop 2;cases hall:(C.map Cr.cf).all fitC with
 | false=>
  have hb2f:b2=false:=by
   cases b2 with
   | false=>rfl
   | true=>rw[hb2.1 rfl] at hall;cases hall
  subst hb2f;rw[hall,if_neg (by decide)] at hde;rw[hde];exact chg hs3
 | true=>
  have hb2t:b2=true:=hb2.2 hall;subst hb2t;rw[hall,if_pos rfl] at hde;rw[hde] at e3 hs ⊢;refine⟨k,s3,hs.at 5 rfl (o:=0) (n:=2) rfl,k,cs,hs.at 4 rfl (o:=0) (n:=2) rfl,?_⟩;refine (own17 C cs k h71 (hC.ext hs.ext)).mono ?_;rintro _ h79 ⟨o2,rfl,E5,ho2⟩;refine⟨k,o2,rfl,E5.sm,?_⟩;refine (equal23 C3 C k k s3 o2 h79 ((hC3.ext E4).ext E5) ho2).mono ?_;rintro _ h82 ⟨⟨b3,rfl,hb3⟩,E6⟩;have hb3t:b3=true:=hb3.2 ⟨rfl,e3⟩;subst hb3t;refine⟨true,rfl,E6.sm,?_⟩;exact chg ((hs3.step E5).step E6)
theorem bodyT_len {k:Int} {C:List Cf} (hk:I64 k) (hF:FewT C) (hI:I64T C):(bodyT k C).length<=700000:=by
 have h1:=hF.flat hI C.length;rw[Yye] at h1;have h2:=encI_len hk;have h3:=encI_len (n:=(C.length:Int)) ⟨by omega,by have:=hF.n;omega⟩;unfold bodyT encT;rw[Yh,Yh,Yh,magic_len];have h4:(List.flatMap (fun c:List Int × List (List Int)=>encC c.1 c.2) C).length<=675600:=h1;omega
theorem certifyCodes8 (C:List Cr) (cs p1:Sl) (b:List Int) (k x y:Int) (h:Heap) (hG:Gx h) (hC:CtI h cs C) (hk:I64 k) (hI:I64T (C.map Cr.cf)) (hb:RL h 1 p1 u8C b) (hB:Byt b) (hx:0<=x/\x<65536) (hy:0<=y/\y<65536) :
  Fn Pz 8 #[.agg ⟨[.int .i64 k,.slice cs.a cs.n cs.c]⟩,.slice p1.a p1.n p1.c,.agg ⟨[.int .u16 x,.int .u16 y]⟩] h fun v h'=>v=.bool true/\Ext h h':=by
 apply vc8 k cs p1 x y;unfold W8;have hn:=hb.ln;refine (St.refl h).newb fun h5 hs=>?_;refine hs.newb fun h6 hs=>?_;refine (awakeC9 h6 (hG.ext hs.ext)).mono ?_;rintro _ h9 ⟨rfl,E⟩;have hs:=hs.step E;refine⟨true,rfl,sB_f rfl ?_⟩;refine⟨k,cs,hs.at 1 rfl (o:=0) (n:=2) rfl,?_⟩;refine (few21T C cs k h9 (hC.ext hs.ext)).mono ?_;rintro _ h14 ⟨bb,rfl,hF,E2⟩;have hs:=hs.step E2;refine⟨bb,rfl,?_⟩;cases bb with
 | false=>exact sB_t rfl ⟨rfl,hs.ext⟩
 | true=>
 have hF:=hF rfl;refine sB_f rfl (sBi (fun c=>⟨rfl,hs.ext⟩) (fun c=>?_));refine⟨k,cs,hs.at 1 rfl (o:=0) (n:=2) rfl,?_⟩;refine (own17 C cs k h14 (hC.ext hs.ext)).mono ?_;rintro _ h20 ⟨o,rfl,E3,ho⟩;have hs:=hs.step E3;refine⟨k,o,rfl,?_⟩;refine (encode28 C o k h20 ho hk hF hI).mono ?_;rintro _ h23 ⟨s,rfl,hs1⟩;have hs:=hs.join hs1;refine⟨s,rfl,?_⟩;refine (decode29 p1 b h23 (hb.ext hs.ext) hB).mono ?_;rintro _ h28 ⟨s1,C1,rfl,E4,hC1,e1⟩;have hs:=hs.step E4;refine⟨_,s1,_,rfl,?_⟩;refine (St.refl h28).newput (vs:=[.int .i64 (decT b).2.1,.slice s1.a s1.n s1.c]) rfl rfl fun h30 hs2=>?_;have hC1:=hC1.ext hs2.ext;have hs:=hs.join hs2;refine (refDecode30 p1 b h30 (hb.ext hs.ext) hB).mono ?_;rintro _ h35 ⟨s2,C2,rfl,E5,hC2,e2⟩;have hs:=hs.step E5;have hC1:=hC1.ext E5;refine⟨_,s2,_,rfl,?_⟩;refine (St.refl h35).newput (vs:=[.int .i64 (decT b).2.1,.slice s2.a s2.n s2.c]) rfl rfl fun h37 hs3=>?_;have hC1:=hC1.ext hs3.ext;have hC2:=hC2.ext hs3.ext;have hs:=hs.join hs3;have hs:St h h37 [.blk h35.size [.int .i64 (decT b).2.1,.slice s2.a s2.n s2.c] 37,.blk h28.size [.int .i64 (decT b).2.1,.slice s1.a s1.n s1.c] 31,.sl s 5 1 ((sealB (bodyT k (C.map Cr.cf))).map u8C),.blk h5.size [.int .u16 x,.int .u16 y] 79,.blk h.size [.int .i64 k,.slice cs.a cs.n cs.c] 37]:=hs.picks [4,3,2,0,1] (by decide) rfl;have hlen:=bodyT_len hk hF hI;have hby:=bodyT_byt k (C.map Cr.cf);have fin:∀ {hX:Heap},Ext h37 hX->V8a (bs (toB (sealB (bodyT k (C.map Cr.cf))))) (bs (toB (sealB (bodyT k (C.map Cr.cf))))) (fun v h'=>v=.bool true/\Ext h h') hX (decT b).1 (decT b).1 h28 h35 h s h5:=fun E=>
  lawTail8 hC hk hF hI hx hy (hC1.ext E) (hC2.ext E) e1 e2 (by omega) (hs.step E)
 have hRs:∀ {hX:Heap},Ext h37 hX->RL hX 1 s u8C (sealB (bodyT k (C.map Cr.cf))):=fun E=>(hs.step E).rl 2 rfl (by decide) (by rw[sealB_len];omega);have cvs:∀ {hX:Heap},Ext h37 hX->RunW Pz (Go.convert 54 9 (.slice s.a s.n s.c)) hX fun v h'=>v=.string (bs (toB (sealB (bodyT k (C.map Cr.cf)))))/\h'=hX:=fun E=>cv_rl (hRs E) (sealB_byt hby);refine⟨k,cs,hs.at 4 rfl (o:=0) (n:=2) rfl,?_,?_⟩
 .refine (cvs (Ext.refl _)).mono ?_;rintro _ _ ⟨rfl,rfl⟩;refine⟨_,rfl,fun a _ j v hv=>hv,?_⟩;refine (refEncode31 C cs k _ (hC.ext hs.ext) hk hF hI).mono ?_;rintro _ h45 ⟨s',rfl,hs4⟩;refine⟨s',rfl,(cv_rl (hs4.rl 0 rfl (by decide) (by rw[sealB_len];omega)) (sealB_byt hby)).mono ?_⟩;rintro _ _ ⟨rfl,rfl⟩;exact⟨_,rfl,fin hs4.ext⟩
 .refine (refEncode31 C cs k _ (hC.ext hs.ext) hk hF hI).mono ?_;rintro _ h117 ⟨s',rfl,hs4⟩;have cv2:=cv_rl (hs4.rl 0 rfl (by decide) (by rw[sealB_len];omega)) (sealB_byt hby);refine⟨s',rfl,?_,?_⟩
  .refine (cvs hs4.ext).mono ?_;rintro _ _ ⟨rfl,rfl⟩;refine⟨_,rfl,fun a _ j v hv=>hv,cv2.mono ?_⟩;rintro _ _ ⟨rfl,rfl⟩;exact⟨_,rfl,fin hs4.ext⟩
  .refine cv2.mono ?_;rintro _ _ ⟨rfl,rfl⟩;refine⟨_,rfl,(cvs hs4.ext).mono ?_⟩;rintro _ _ ⟨rfl,rfl⟩;exact⟨_,rfl,fun a _ j v hv=>hv,fin hs4.ext⟩
end Go.VC
end

section
namespace Go.VC
open Go.Proofs Go.LexS Go.RowKit Go.ChangeShapes Go.WideShapes Go.Proofs.YtibmnldhlgcnjaaGreatDoor
theorem bulk_pos {H:Type} (d:DataW H):1<=Rows.uptoBulk d:=by
 cases d with
 | lit l=>cases l<;>simp[Rows.uptoBulk]
 | _=>simp[Rows.uptoBulk]
theorem bulk_part {H:Type}:∀ {l:List (DataW H)} {d:DataW H},d∈l->Rows.uptoBulk d<=Rows.uptoBulkAll l
 | [],_,h=>by cases h
 | x::r,d,h=>by
  rw[Rows.uptoBulkAll];rcases Yr.1 h with rfl | h
  .omega
  .have:=bulk_part h;omega
theorem bulk_len {H:Type}:∀l:List (DataW H),l.length<=Rows.uptoBulkAll l
 | []=>by simp
 | x::r=>by
  have h1:=bulk_pos x;have h2:=bulk_len r;rw[Rows.uptoBulkAll,Yyj];omega
def Rdb (P:Program) (W:World) (t:TypeId) (cs:List Value):Prop:=
 ∃(H:Type) (enc:TypeId × Value->H) (n:Nat) (x:DataW H × List MemPlace),DataW.trod enc P W 0 (fun _=>true) true n t cs=some x/\Rows.uptoBulk x.1<=1048576
theorem Rdb.rdt {P:Program} {W:World} {t:TypeId} {cs:List Value} (h:Rdb P W t cs):Rdt P W t cs:=by
 obtain⟨H,enc,n,x,h1,_⟩:=h;exact⟨H,enc,n,x,h1⟩
theorem rdb_of_trod {H:Type} {enc:TypeId × Value->H} {P:Program} {W:World} {t:TypeId} {v:Value} {d:DataW H} {p:List MemPlace} (h:DataW.Trod enc P W 0 (fun _=>true) true t v d p) (hw:Rows.uptoBulk d<=1048576):Rdb P W t v.cells.toList:=by
 obtain⟨n,h⟩:=h;exact⟨H,enc,n,_,h,hw⟩
theorem Rdb.field {P:Program} {W:World} {t ft:TypeId} {cs:List Value} {i off:Nat} (h:Rdb P W t cs) (hf:fieldAt P t i=some (ft,off)):Rdb P W ft ((cs.drop off).take (P.cellsOf ft)):=by
 unfold fieldAt at hf;split at hf
 .rename_i fs hu;obtain⟨f,h1,h2⟩:=Yya.1 hf;cases h2;obtain⟨H,enc,n,x,h,hw⟩:=h;obtain⟨xs,m,_,hx,hl,hxl,hfi⟩:=DataW.trod_struct hu h;have hlt:i<xs.length:=by rw[hxl];exact (Yyg.1 h1).1
  refine⟨H,enc,m,xs[i],by rw[hfi i f h1,Yi hlt],?_⟩;rw[hx,Rows.uptoBulk] at hw;have:=bulk_part (l:=xs.map (·.1)) (d:=xs[i].1) (Yp.2 ⟨xs[i],List.getElem_mem hlt,rfl⟩);omega
 .cases hf
theorem Rdb.array {P:Program} {W:World} {t e:TypeId} {n:Nat} {cs:List Value} (ht:P.underlying t=some (.array n e)) (h:Rdb P W t cs) :
  cs.length=P.cellsOf t/\∀i,i<n->Rdb P W e ((cs.drop (i*P.cellsOf e)).take (P.cellsOf e)):=by
 obtain⟨H,enc,m,x,h,hw⟩:=h;obtain⟨xs,k,_,hx,hl,hxl,hf⟩:=DataW.trod_array ht h;refine⟨hl,fun i hi=>?_⟩;have hlt:i<xs.length:=by omega
 refine⟨H,enc,k,xs[i],by rw[hf i hi,Yi hlt],?_⟩;rw[hx,Rows.uptoBulk] at hw;have:=bulk_part (l:=xs.map (·.1)) (d:=xs[i].1) (Yp.2 ⟨xs[i],List.getElem_mem hlt,rfl⟩);omega
theorem Rdb.rows {P:Program} {W:World} {t e:TypeId} {cs:List Value} (ht:P.underlying t=some (.slice e)) (h:Rdb P W t cs) (hpos:0<P.cellsOf e) :
  ∃(s:Sl) (rows:List (List Value)),cs=[.slice s.a s.n s.c]/\s.n<=s.c/\s.n<=1048576/\(s.a=none->s.n=0/\s.c=0)/\Rw W.heap (P.cellsOf e) s rows/\∀r∈rows,r.length=P.cellsOf e/\Rdb P W e r:=by
 obtain⟨H,enc,n,x,h,hw⟩:=h;rcases DataW.trod_slice ht h with ⟨rfl,_⟩ | ⟨a,len,cap,elems,rest,m,_,rfl,hx,_,hlc,hcm,hel,helem,_,_⟩
 .exact⟨⟨none,0,0⟩,[],rfl,Yyt _,Nat.zero_le _,fun _=>⟨rfl,rfl⟩,Rw.nil,fun r hr=>by cases hr⟩
 .rw[hx,Rows.uptoBulk] at hw;have hle:len<=1048576:=by
   have:=bulk_len (elems.map (·.1));rw[Yc] at this;omega
  have hwe:∀(i:Nat) (hi:i<elems.length),Rows.uptoBulk elems[i].1<=1048576:=fun i hi=>by
   have:=bulk_part (l:=elems.map (·.1)) (d:=elems[i].1) (Yp.2 ⟨elems[i],List.getElem_mem hi,rfl⟩);omega
  by_cases h0:len=0
  .subst h0;exact⟨⟨some a,0,cap⟩,[],rfl,hlc,hle,fun e=>(by cases e),Rw.empty rfl,fun r hr=>by cases hr⟩
  .have hrow:∀i,i<len->∃r,W.cells? 0 (a.add (i*P.cellsOf e)) (P.cellsOf e)=some r/\Rdb P W e r:=by
    intro i hi;have h1:=helem i hi;rw[Yi (by omega)] at h1;obtain⟨r,hr,hx2⟩:=Option.bind_eq_some_iff.1 h1;exact⟨r,hr,H,enc,m,_,hx2,hwe i (by omega)⟩
   let row:Nat->List Value:=fun i=>(W.cells? 0 (a.add (i*P.cellsOf e)) (P.cellsOf e)).getD []
   have hrow':∀i,i<len->W.cells? 0 (a.add (i*P.cellsOf e)) (P.cellsOf e)=some (row i)/\Rdb P W e (row i):=fun i hi=>by
    obtain⟨r,hr,hx⟩:=hrow i hi;have:row i=r:=by show (W.cells? 0 _ _).getD []=r;rw[hr];rfl
    rw[this];exact⟨hr,hx⟩
   have hget:∀i,i<len->((List.range len).map row)[i]?=some (row i):=fun i hi=>by
    rw[Yd,Yyb hi];rfl
   have hspot:a=⟨a.block,a.off,none⟩:=by
    have hc:=(cells_at (hrow' 0 (by omega)).1);have hl0:0<(row 0).length:=by rw[hc.1];exact hpos
    have:=hc.2 0 _ (Yi hl0);rw[Nat.zero_mul,show (a.add 0).add 0=a from rfl] at this;unfold World.cell? at this;split at this
    .split at this
     .cases this
     .rename_i hs;cases a with
      | mk b o s=>
       cases s with
       | none=>rfl
       | some s=>exact absurd rfl hs
    .cases this
   refine⟨⟨some a,len,cap⟩,(List.range len).map row,rfl,hlc,hle,fun e=>(by cases e),⟨by simp,fun _=>⟨a.block,a.off,by rw[<-hspot],fun i r hi j v hj=>?_⟩⟩,fun r hr=>?_⟩
   .have hil:i<len:=by have:=(Ya.1 hi).1;simpa using this
    rw[hget i hil] at hi;cases hi;have h4:=(cells_at (hrow' i hil).1).2 _ _ hj;rw[hspot] at h4;have e:((⟨a.block,a.off,none⟩:Addr).add (i*P.cellsOf e)).add j=addk ⟨a.block,a.off+i*P.cellsOf e,none⟩ j:=by
     rw[addk_at,add_n,add_n]
    rw[e] at h4;exact h4
   .obtain⟨i,hi,rfl⟩:=Yp.1 hr;have:=hrow' i (List.mem_range.1 hi);exact⟨(cells_at this.1).1,this.2⟩
theorem Rdb.list {α:Type} {P:Program} {W:World} {t e:TypeId} {k:Nat} {v:Value} {cs:α->List Value} {Q:α->Prop} (ht:P.underlying t=some (.slice e)) (hk:P.cellsOf e=k) (hpos:0<k)
  (ho:∀r,Rdb P W e r->∃x,r=cs x/\Q x) (h:Rdb P W t [v]):∃(s:Sl) (L:List α),v=.slice s.a s.n s.c/\RL W.heap k s cs L/\∀x∈L,Q x:=by
 subst hk;obtain⟨s,rows,e1,hc,hm,hna,hrw,hr⟩:=h.rows ht hpos;have key:∀rows:List (List Value),(∀r∈rows,r.length=P.cellsOf e/\Rdb P W e r)->∃L:List α,rows=L.map cs/\∀x∈L,Q x:=by
  intro rows
  induction rows with
  | nil=>intro _;exact⟨[],rfl,fun x hx=>by cases hx⟩
  | cons r rows ih=>
   intro h;obtain⟨x,hx,hq⟩:=ho r (h r (by simp)).2;obtain⟨L,hL,hQ⟩:=ih fun y hy=>h y (Yn _ hy);exact⟨x::L,by rw[hx,hL];rfl,fun y hy=>by rcases Yr.1 hy with rfl | hy;exact hq;exact hQ y hy⟩
 obtain⟨L,rfl,hQ⟩:=key rows hr;have hn:=hrw.ln;exact⟨s,L,by simpa using e1,⟨hrw,hc,hna,by omega⟩,hQ⟩
theorem v3:Pz.underlying 3=some (.int .i64):=by kernel_rfl
theorem cz3:Pz.cellsOf 3=1:=by kernel_rfl
theorem Rdb.sl {P:Program} {W:World} {t e:TypeId} {cs:List Value} (ht:P.underlying t=some (.slice e)) (h:Rdb P W t cs):∃s:Sl,cs=[.slice s.a s.n s.c]:=by
 obtain⟨H,enc,n,x,h,_⟩:=h;rcases DataW.trod_slice ht h with ⟨rfl,_⟩ | ⟨a,len,cap,elems,rest,m,_,rfl,_⟩
 .exact⟨⟨none,0,0⟩,rfl⟩
 .exact⟨⟨some a,len,cap⟩,rfl⟩
theorem cz5:Pz.cellsOf 5=1:=by kernel_rfl
theorem vsS54:Pz.underlying 54=some (.slice 5):=by kernel_rfl
theorem v5u:Pz.underlying 5=some (.int .u8):=by kernel_rfl
theorem vsS25:Pz.underlying 25=some (.slice 3):=by kernel_rfl
theorem vsS26:Pz.underlying 26=some (.slice 25):=by kernel_rfl
theorem vsS35:Pz.underlying 35=some (.slice 28):=by kernel_rfl
theorem v49:Pz.underlying 49=some (.array 2 5):=by kernel_rfl
theorem czS25:Pz.cellsOf 25=1:=by kernel_rfl
theorem czS26:Pz.cellsOf 26=1:=by kernel_rfl
theorem czS28:Pz.cellsOf 28=2:=by kernel_rfl
theorem czS35:Pz.cellsOf 35=1:=by kernel_rfl
theorem czS37:Pz.cellsOf 37=2:=by kernel_rfl
theorem czS49:Pz.cellsOf 49=2:=by kernel_rfl
theorem open_u8n {W:World} {r:List Value} (h:Rdb Pz W 5 r):∃x:Int,r=u8C x/\(0<=x/\x<256):=by
 obtain⟨n,e,hw⟩:=h.rdt.int v5u;have h3:(decide (IntKind.u8.min<=n)&&decide (n<=IntKind.u8.max))=true:=hw;rw[Yt] at h3;have h4:(0:Int)<=n:=Yyn h3.1;have h5:n<=(255:Int):=Yyn h3.2;exact⟨n,e,h4,by omega⟩
theorem open_u8s {W:World} {v:Value} (h:Rdb Pz W 54 [v]):∃(s:Sl) (L:List Int),v=.slice s.a s.n s.c/\(RL W.heap 1 s u8C L/\∀n∈L,0<=n/\n<256):=by
 obtain⟨s,L,e,hr,hb⟩:=Rdb.list vsS54 cz5 (by omega) (fun r hr=>open_u8n hr) h;exact⟨s,L,e,hr,hb⟩
theorem open_u8x2 {W:World} {r:List Value} (h:Rdb Pz W 49 r):∃a b:Int,r=[.int .u8 a,.int .u8 b]/\(0<=a/\a<256)/\(0<=b/\b<256):=by
 obtain⟨hl,hf⟩:=h.array v49;rw[czS49] at hl;rw[cz5] at hf
 match r,hl with
 | [x0,x1],_=>
  obtain⟨a,e0,h0⟩:=open_u8n (show Rdb Pz W 5 [x0] from hf 0 (by omega));obtain⟨b,e1,h1⟩:=open_u8n (show Rdb Pz W 5 [x1] from hf 1 (by omega));simp only[u8C,List.cons.injEq,and_true] at e0 e1;subst e0 e1;exact⟨a,b,rfl,h0,h1⟩
theorem open_intn {W:World} {r:List Value} (h:Rdb Pz W 3 r):∃x:Int,r=inC x/\True:=by
 obtain⟨n,e,_⟩:=h.rdt.int v3;exact⟨n,e,trivial⟩
theorem open_intl {W:World} {v:Value} (h:Rdb Pz W 25 [v]):∃(s:Sl) (L:List Int),v=.slice s.a s.n s.c/\RL W.heap 1 s inC L:=by
 obtain⟨s,L,e,hr,_⟩:=Rdb.list vsS25 cz3 (by omega) (fun r hr=>open_intn hr) h;exact⟨s,L,e,hr⟩
theorem open_box {W:World} {r:List Value} (h:Rdb Pz W 25 r):∃q:Bx,r=q.cs/\RL W.heap 1 q.s inC q.l:=by
 obtain⟨s,rfl⟩:=Rdb.sl vsS25 h;obtain⟨s',L,e,hr⟩:=open_intl h;exact⟨⟨s',L⟩,by rw[e];rfl,hr⟩
theorem open_config {W:World} {r:List Value} (h:Rdb Pz W 28 r):∃c:Cr,r=c.cs/\CfI W.heap c.c1 c.c2 c.S c.B:=by
 have hl:=h.rdt.flen (i:=0) (ft:=25) (off:=0) (by kernel_rfl);rw[czS28] at hl
 match r,hl with
 | [x0,x1],_=>
  have f0:=h.field (i:=0) (ft:=25) (off:=0) (by kernel_rfl);have f1:=h.field (i:=1) (ft:=26) (off:=1) (by kernel_rfl);rw[czS25] at f0;rw[czS26] at f1;obtain⟨ss,S,e0,hS⟩:=open_intl (show Rdb Pz W 25 [x0] from f0);obtain⟨sb,B,e1,hB,hB2⟩:=Rdb.list vsS26 czS25 (by omega) (fun r hr=>open_box hr) (show Rdb Pz W 26 [x1] from f1);subst e0 e1;exact⟨⟨ss,sb,S,B⟩,rfl,⟨hS,hB,hB2⟩⟩
theorem open_cert {W:World} {r:List Value} (h:Rdb Pz W 37 r):∃(k:Int) (cs:Sl) (C:List Cr),r=[.int .i64 k,.slice cs.a cs.n cs.c]/\CtI W.heap cs C:=by
 have hl:=h.rdt.flen (i:=0) (ft:=3) (off:=0) (by kernel_rfl);rw[czS37] at hl
 match r,hl with
 | [x0,x1],_=>
  have f0:=h.field (i:=0) (ft:=3) (off:=0) (by kernel_rfl);have f1:=h.field (i:=1) (ft:=35) (off:=1) (by kernel_rfl);rw[cz3] at f0;rw[czS35] at f1;obtain⟨k,e0,_⟩:=open_intn (show Rdb Pz W 3 [x0] from f0);obtain⟨cs,C,e1,hC,hC2⟩:=Rdb.list vsS35 czS28 (by omega) (fun r hr=>open_config hr) (show Rdb Pz W 35 [x1] from f1);simp only[inC,List.cons.injEq,and_true] at e0;subst e0 e1;exact⟨k,cs,C,rfl,⟨hC,hC2⟩⟩
/-! ### with their ranges -/
theorem open_int64 {W:World} {r:List Value} (h:Rdb Pz W 3 r):∃x:Int,r=inC x/\I64 x:=by
 obtain⟨n,e,hw⟩:=h.rdt.int v3;have h3:(decide (IntKind.i64.min<=n)&&decide (n<=IntKind.i64.max))=true:=hw;rw[Yt] at h3;have h4:(-9223372036854775808:Int)<=n:=Yyn h3.1;have h5:n<=(9223372036854775807:Int):=Yyn h3.2;exact⟨n,e,h4,h5⟩
theorem open_intl64 {W:World} {v:Value} (h:Rdb Pz W 25 [v]):∃(s:Sl) (L:List Int),v=.slice s.a s.n s.c/\RL W.heap 1 s inC L/\∀x∈L,I64 x:=by
 obtain⟨s,L,e,hr,hq⟩:=Rdb.list vsS25 cz3 (by omega) (fun r hr=>open_int64 hr) h;exact⟨s,L,e,hr,hq⟩
theorem open_box64 {W:World} {r:List Value} (h:Rdb Pz W 25 r):∃q:Bx,r=q.cs/\(RL W.heap 1 q.s inC q.l/\∀x∈q.l,I64 x):=by
 obtain⟨s,rfl⟩:=Rdb.sl vsS25 h;obtain⟨s',L,e,hr⟩:=open_intl64 h;exact⟨⟨s',L⟩,by rw[e];rfl,hr⟩
theorem open_config64 {W:World} {r:List Value} (h:Rdb Pz W 28 r):∃c:Cr,r=c.cs/\(CfI W.heap c.c1 c.c2 c.S c.B/\(∀x∈c.S,I64 x)/\∀q∈c.B.map Bx.l,∀x∈q,I64 x):=by
 have hl:=h.rdt.flen (i:=0) (ft:=25) (off:=0) (by kernel_rfl);rw[czS28] at hl
 match r,hl with
 | [x0,x1],_=>
  have f0:=h.field (i:=0) (ft:=25) (off:=0) (by kernel_rfl);have f1:=h.field (i:=1) (ft:=26) (off:=1) (by kernel_rfl);rw[czS25] at f0;rw[czS26] at f1;obtain⟨ss,S,e0,hS,hS2⟩:=open_intl64 (show Rdb Pz W 25 [x0] from f0);obtain⟨sb,B,e1,hB,hB2⟩:=Rdb.list vsS26 czS25 (by omega) (fun r hr=>open_box64 hr) (show Rdb Pz W 26 [x1] from f1);subst e0 e1;refine⟨⟨ss,sb,S,B⟩,rfl,⟨hS,hB,fun q hq=>(hB2 q hq).1⟩,hS2,fun q hq=>?_⟩;obtain⟨y,hy,rfl⟩:=Yp.1 hq;exact (hB2 y hy).2
theorem open_cert64 {W:World} {r:List Value} (h:Rdb Pz W 37 r):∃(k:Int) (cs:Sl) (C:List Cr),r=[.int .i64 k,.slice cs.a cs.n cs.c]/\(CtI W.heap cs C/\I64 k/\∀c∈C.map Cr.cf,(∀x∈c.1,I64 x)/\∀q∈c.2,∀x∈q,I64 x):=by
 have hl:=h.rdt.flen (i:=0) (ft:=3) (off:=0) (by kernel_rfl);rw[czS37] at hl
 match r,hl with
 | [x0,x1],_=>
  have f0:=h.field (i:=0) (ft:=3) (off:=0) (by kernel_rfl);have f1:=h.field (i:=1) (ft:=35) (off:=1) (by kernel_rfl);rw[cz3] at f0;rw[czS35] at f1;obtain⟨k,e0,hk⟩:=open_int64 (show Rdb Pz W 3 [x0] from f0);obtain⟨cs,C,e1,hC,hC2⟩:=Rdb.list vsS35 czS28 (by omega) (fun r hr=>open_config64 hr) (show Rdb Pz W 35 [x1] from f1);simp only[inC,List.cons.injEq,and_true] at e0;subst e0 e1;refine⟨k,cs,C,rfl,⟨hC,fun c hc=>(hC2 c hc).1⟩,hk,fun c hc=>?_⟩;obtain⟨y,hy,rfl⟩:=Yp.1 hc;exact (hC2 y hy).2
theorem v79a:Pz.underlying 79=some (.array 2 78):=by kernel_rfl
theorem v79e:Pz.underlying 78=some (.int .u16):=by kernel_rfl
theorem cz79e:Pz.cellsOf 78=1:=by kernel_rfl
theorem czS79:Pz.cellsOf 79=2:=by kernel_rfl
theorem open_u16n {W:World} {r:List Value} (h:Rdb Pz W 78 r):∃x:Int,r=[.int .u16 x]/\(0<=x/\x<65536):=by
 obtain⟨n,e,hw⟩:=h.rdt.int v79e;have h3:(decide (IntKind.u16.min<=n)&&decide (n<=IntKind.u16.max))=true:=hw;rw[Yt] at h3;have h4:(0:Int)<=n:=Yyn h3.1;have h5:n<=(65535:Int):=Yyn h3.2;exact⟨n,e,h4,by omega⟩
theorem open_u16x2 {W:World} {r:List Value} (h:Rdb Pz W 79 r):∃a b:Int,r=[.int .u16 a,.int .u16 b]/\(0<=a/\a<65536)/\(0<=b/\b<65536):=by
 obtain⟨hl,hf⟩:=h.array v79a;rw[czS79] at hl;rw[cz79e] at hf
 match r,hl with
 | [x0,x1],_=>
  obtain⟨a,e0,h0⟩:=open_u16n (show Rdb Pz W 78 [x0] from hf 0 (by omega));obtain⟨b,e1,h1⟩:=open_u16n (show Rdb Pz W 78 [x1] from hf 1 (by omega));simp only[List.cons.injEq,and_true] at e0 e1;subst e0 e1;exact⟨a,b,rfl,h0,h1⟩
end Go.VC
end
