/- KtI KtJ KtK KtL KtM KtN KtO KtP. -/
import Derived.Test.YtknallccojglcaaGreatDoorM15
set_option linter.unusedVariables false
set_option linter.unusedSimpArgs false
set_option maxRecDepth 100000

section
/- Contracts: sets. -/
namespace Go.VC
open Go.Proofs Go.LexS

theorem word58 (ws:List Nat) (s:Sl) (i:Nat) (h:Heap) (hr:Rw h 1 s (ws.map wC)) (hl:ws.length<=64) :
  Fn Pz 268 #[.slice s.a s.n s.c,.int .i64 i] h fun v h'=>v=.int .u64 ((ws.getD i 0:Nat):Int)/\h'=h:=by
 apply vc268;unfold W268;have hn:=hr.ln;rw[imin_min];refine sBi (fun c1=>?_) (fun c1=>?_)
 ·refine hr.nbI (by omega) (by omega) fun b1 o2 d1 g1 t1=>?_;refine⟨_,t1.hd,?_,rfl⟩;rw[Yo,show ws[i]?=some d1 from g1];rfl
 ·refine⟨?_,rfl⟩;rw[Yo,Yl (by omega)];rfl
theorem has29 (p:Nat->Bool) (s:Sl) (n:Int) (h:Heap) (hr:SetV h s p) :
  Fn Pz 215 #[.slice s.a s.n s.c,.int .i64 n] h fun v h'=>v=.bool (decide (0<=n/\n<4096)&&p n.toNat)/\h'=h:=by
 apply vc215;unfold W215;obtain⟨ws,h1,h2,h3,h4⟩:=hr.ex;refine sBi (fun c1=>?_) (fun c1=>?_)
 ·refine sBi (fun c2=>?_) (fun c2=>?_)
  ·obtain⟨m,rfl⟩:=Int.eq_ofNat_of_zero_le c1;refine⟨by omega,?_⟩;have e1:IntKind.wrap .i64 (Int.tdiv (m:Int) 64)=((m/64:Nat):Int):=by
    have:Int.tdiv (m:Int) 64=((m/64:Nat):Int):=rfl;rw[this];exact w64 (by omega) (by omega)
   rw[e1];refine (word58 ws s (m/64) h h1 h2).mono ?_;rintro _ h5 ⟨rfl,rfl⟩;have e2:Int.tmod (m:Int) 64=((m%64:Nat):Int):=rfl;refine⟨_,rfl,by omega,by rw[e2];omega,?_,rfl⟩;rw[e2,bit_has (by
    rw[Yo];cases hw:ws[m/64]? with
    | none=>exact Nat.two_pow_pos 64
    | some w=>exact h3 w (Yb hw)) (by omega)]
   rw[decide_eq_true (by omega),Bool.true_and];have:=h4 m;unfold memB at this;rw[show ((m:Int)).toNat=m from rfl,<-this]
  ·exact⟨by rw[decide_eq_false (by omega)];rfl,rfl⟩
 ·exact⟨by rw[decide_eq_false (by omega)];rfl,rfl⟩
theorem sub136 (p q:Nat->Bool) (a b:Sl) (h:Heap) (ha:SetV h a p) (hb:SetV h b q) :
  Fn Pz 267 #[.slice a.a a.n a.c,.slice b.a b.n b.c] h fun v h'=>(∃r:Bool,v=.bool r/\(r=true ↔ ∀k,p k=true->q k=true))/\h'=h:=by
 apply vc267;unfold W267;obtain⟨ws,h1,h2,h3,h4⟩:=ha.ex;obtain⟨us,g1,g2,g3,g4⟩:=hb.ex;have hn:=h1.ln;have hlt:∀(l:List Nat),(∀w∈l,w<2^64)->∀i,l.getD i 0<2^64:=fun l hl i=>by
  rw[Yo];cases hw:l[i]? with
  | none=>exact Nat.two_pow_pos 64
  | some w=>exact hl w (Yb hw)
 rw[imin_min,show min (a.n:Int) 64=(a.n:Int) by omega];refine up_loop (n:=a.n) (fun i h'=>h'=h/\∀j,j<i->∀k,k<64->(ws.getD j 0).testBit k=true->(us.getD j 0).testBit k=true) ⟨rfl,fun j hj=>by omega⟩ ?_;rintro-i h5 hi ⟨rfl,hq⟩;refine sB_intro (fun l=>?_) (fun l=>?_)
 ·replace l:=lt_t l;refine h1.nbI (by omega) (by omega) fun b6 o7 d6 g6 t6=>?_;replace g6:ws[i]?=some d6:=g6;have hd:d6=ws.getD i 0:=by rw[Yo,g6];rfl
  refine⟨_,t6.hd,?_⟩;refine (word58 us b i h5 g1 g2).mono ?_;rintro _ h11 ⟨rfl,rfl⟩;refine⟨_,rfl,fun _ _ _ _ hv=>hv,?_⟩;have hz:=clr_zero (a:=d6) (b:=us.getD i 0) (h3 _ (Yb g6)) (hlt us g3 i);refine sBn (fun c2=>?_) (fun c2=>?_)
  ·refine⟨⟨_,rfl,⟨fun e=>(by cases e),fun hall=>absurd (hz.2 fun k hk hb=>?_) c2⟩⟩,rfl⟩;have:=hall (64*i+k);rw[<-h4,<-g4] at this;unfold memB at this;rw[show (64*i+k)/64=i by omega,show (64*i+k)%64=k by omega] at this;exact this (by rw[<-hd];exact hb)
  ·refine Up.next l (by omega) ⟨rfl,fun j hj k hk hb=>?_⟩;by_cases e:j=i
   ·subst e;rw[<-hd] at hb;exact hz.1 c2 k hk hb
   ·exact hq j (by omega) k hk hb
 ·replace l:=lt_f l;refine⟨⟨_,rfl,⟨fun _ k hk=>?_,fun _=>rfl⟩⟩,rfl⟩;rw[<-h4] at hk;rw[<-g4];unfold memB at hk ⊢;by_cases hkl:k/64<i
  ·exact hq _ hkl _ (by omega) hk
  ·rw[Yo,Yl (by omega)] at hk;simp at hk
theorem equal86 (p q:Nat->Bool) (a b:Sl) (h:Heap) (ha:SetV h a p) (hb:SetV h b q) :
  Fn Pz 214 #[.slice a.a a.n a.c,.slice b.a b.n b.c] h fun v h'=>(∃r:Bool,v=.bool r/\(r=true ↔ p=q))/\h'=h:=by
 apply vc214;unfold W214;refine (sub136 p q a b h ha hb).mono ?_;rintro _ h3 ⟨⟨r,rfl,hr⟩,rfl⟩;refine⟨_,rfl,sB_intro (fun c=>?_) (fun c=>?_)⟩
 ·refine (sub136 q p b a h3 hb ha).mono ?_;rintro _ h6 ⟨⟨r2,rfl,hr2⟩,rfl⟩;refine⟨_,rfl,⟨_,rfl,⟨fun h=>?_,fun h=>?_⟩⟩,rfl⟩
  ·funext k
   have h1:=hr.1 c k;have h2:=hr2.1 h k;cases hp:p k<;>cases hq:q k<;>simp_all
  ·rw[hr2];intro k hk;rw[h];exact hk
 ·refine⟨⟨_,rfl,⟨fun h=>(by cases h),fun h=>?_⟩⟩,rfl⟩;rw[<-c,hr];intro k hk;rw[<-h];exact hk
theorem cal101:callable Pz 304=true:=by kernel_rfl
theorem made121 (n:Nat):madeL Pz 181 n=((List.replicate n 0).map wC).flatten:=by
 have e:zeroC Pz 181=[.int .u64 0]:=by kernel_rfl
 unfold madeL;rw[e,List.map_replicate];rfl
theorem wrows (L:List Nat):∀r∈L.map wC,r.length=1:=fun r hr=>by obtain⟨x,_,rfl⟩:=Yp.1 hr;rfl
theorem wflat (ws:List Nat) (i:Nat):((ws.map wC).flatten)[i]?=(ws[i]?).map fun w=>.int .u64 (w:Int):=by
 by_cases h:i<ws.length
 ·have:=getElem?_flatten (k:=1) (ws.map wC) i 0 (wC ws[i]) (wrows ws) (by rw[Yd,Yi h];rfl) (by omega);rw[Nat.mul_one,Nat.add_zero] at this;rw[this,Yi h];rfl
 ·have hl:((ws.map wC).flatten).length=ws.length:=by rw[flatten_len _ (wrows ws),Yc,Nat.mul_one]
  rw[Yl (by omega),Yl (by omega)];rfl
theorem wsplice {ws:List Nat} {i:Nat} (hi:i<ws.length) (w:Nat):splice ((ws.map wC).flatten) (i*1) [.int .u64 (w:Int)]=((ws.set i w).map wC).flatten:=by
 have:=splice_flat (n:=1) (j:=0) (vs:=[.int .u64 (w:Int)]) (row:=wC ws[i]) (ws.map wC) i (wrows ws) (by rw[Yd,Yi hi];rfl) (by simp);rw[Nat.add_zero] at this;rw[this,List.map_set];rfl
structure SI (ws:List Nat) (k:Nat) (p:Nat->Bool):Prop where
 pl:ws.length<=64
 pk:k<=ws.length
 pw:∀w∈ws,w<2^64
 pz:∀(i w:Nat),k<=i->ws[i]?=some w->w=0
 pm:∀j,memB ws j=p j
def setB (b:Nat) (ws:List Nat):It:=.blk b (ws.map wC).flatten 181
theorem SI.v {ws:List Nat} {k:Nat} {p:Nat->Bool} (hS:SI ws k p) {h:Heap} {b:Nat} (ho:Own h b (ws.map wC).flatten 181) (c:Nat):SetV h ⟨some ⟨b,0,none⟩,k,c⟩ p:=by
 refine⟨ws.take k,⟨by rw[Yc,Yu];have:=hS.pk;simp only;omega,fun _=>⟨b,0,rfl,fun i row hi j v hj=>?_⟩⟩,by rw[Yu];have:=hS.pl;omega,fun w hw=>hS.pw w (List.mem_of_mem_take hw),fun j=>by rw[memB_take hS.pz];exact hS.pm j⟩;rw[Yd] at hi;obtain⟨w,hw,rfl⟩:=Yya.1 hi;have hj0:j=0:=by have:=(Ya.1 hj).1;simpa [wC] using this
 subst hj0;have hv:v=.int .u64 (w:Int):=by simpa [wC] using hj.symm
 subst hv;rw[addk_at,Own.hc ho,wflat];rw[Yyf] at hw;split at hw
 ·rw[show 0+i*1+0=i by omega,hw];rfl
 ·cases hw
theorem build100 (ws:List Nat) (p:Nat->Bool) (b:Nat) (h:Heap) (hl:ws.length=64) (hw:∀w∈ws,w<2^64) (hm:∀j,memB ws j=p j) (hb:∀(i w:Nat),ws[i]?=some w->hc h ⟨b,i,none⟩=some (.int .u64 (w:Int))) :
  Fn Pz 303 #[.int .i64 64,.func (.func 304) #[] #[.pointer (some ⟨b,0,none⟩)]] h fun v h'=>Ext h h'/\∃(k:Nat),v=.slice (some ⟨h.size,0,none⟩) k k/\Own h' h.size (ws.map wC).flatten 181/\SI ws k p:=by
 apply vc303;unfold W303 V303b V303a;have hs:=St.refl h;rw[show imin (64:Int) 64=64 from rfl,show Int.toNat 64=64 from rfl,made121];refine⟨by decide,?_⟩;refine hs.newb fun h1 hs=>?_;refine up_loop (n:=64) (fun i h'=>∃us:List Nat,us.length=64/\us.take i=ws.take i/\St h h' [.blk h.size (us.map wC).flatten 181]) ⟨List.replicate 64 0,by rw[Yg],rfl,hs⟩ ?_;rintro-i h6 hi ⟨us,hul,hut,hs⟩;refine sB_intro (fun l=>?_) (fun l=>?_)
 ·replace l:=lt_t l;rw[cal101,cond_true];obtain⟨w,hw1⟩:=get_some (l:=ws) (i:=i) (by omega);have hfn:Fn Pz 304 #[.int .i64 (i:Int),.pointer (some ⟨b,0,none⟩)] h6 fun v h'=>v=.int .u64 (w:Int)/\h'=h6:=by
   apply vc304 (i:Int) b 0;unfold W304;refine⟨by omega,_,?_,rfl,rfl⟩;have:=hc_ext hs.ext (hb i w hw1);rw[show (0+Int.toNat (i:Int)*1)=i by simp];exact this
  refine hfn.mono ?_;rintro _ h9 ⟨rfl,rfl⟩;refine⟨_,rfl,by omega,?_⟩;rw[show (0+Int.toNat (i:Int)*1)=i*1 by simp];refine hs.put 0 rfl (o:=i*1) (vs:=[.int .u64 (w:Int)]) rfl (by rw[flatten_len _ (wrows us),Yc,Yv];omega) fun h10 hs=>?_;refine Up.next l (by omega) ⟨us.set i w,by rw[Yyh];exact hul,?_,?_⟩
  ·rw[take_snoc hw1,<-hut,take_snoc (x:=w) (by rw[Yq (by omega)]),List.take_set_of_le (Yyt _)]
  ·rw[<-wsplice (by omega)];exact hs
 ·replace l:=lt_f l;have hi64:i=64:=by omega
  subst hi64;rw[Yj (by omega),Yj (by omega)] at hut;subst hut;refine⟨fun n h' m=>∃k:Nat,n=k/\m=k/\k<=64/\h'=h6/\∀i w,k<=i->us[i]?=some w->w=0,⟨_,64,rfl,rfl,by omega,rfl,fun i w hi hw=>by have:=(Ya.1 hw).1;omega⟩,?_⟩;rintro-_ h16 m ⟨k,rfl,rfl,hk,rfl,hz⟩;have hfin:∀v:Value,v=.slice (subA (some ⟨h.size,0,none⟩) (Int.toNat 0) (Int.toNat (m:Int)) 1) (Int.toNat (m:Int)-Int.toNat 0) (Int.toNat (m:Int)-Int.toNat 0) ->
    Ext h h16/\∃(k:Nat),v=.slice (some ⟨h.size,0,none⟩) k k/\Own h16 h.size (us.map wC).flatten 181/\SI us k p:=by
   rintro v rfl;refine⟨hs.ext,m,?_,hs.get (k:=0) rfl,⟨by omega,by omega,hw,hz,hm⟩⟩;rw[show subA (some (⟨h.size,0,none⟩:Addr)) (Int.toNat 0) (Int.toNat (m:Int)) 1=some ⟨h.size,0,none⟩ from subA_zero _ _ _];rfl
  refine sBi (fun c1=>?_) (fun c1=>?_)
  ·have hk1:IntKind.wrap .i64 ((m:Int)-1)=((m-1:Nat):Int):=by rw[w64 (by omega) (by omega)];omega
   rw[hk1];obtain⟨w,hw2⟩:=get_some (l:=us) (i:=m-1) (by omega);refine⟨by omega,_,hs.rd 0 rfl (by rw[show (0+Int.toNat ((m-1:Nat):Int)*1)=m-1 by simp,wflat,hw2];rfl),?_⟩;refine sBe (fun c2=>?_) (fun c2=>?_)
   ·refine⟨_,by omega,m-1,rfl,rfl,by omega,rfl,fun i w' hi hw'=>?_⟩;by_cases e:i=m-1
    ·subst e;rw[hw2] at hw';cases hw';omega
    ·exact hz i w' (by omega) hw'
   ·exact⟨by omega,hfin _ rfl⟩
  ·exact⟨by omega,hfin _ rfl⟩
theorem make55 (l:List Int) (s:Sl) (h:Heap) (hr:Rw h 1 s (l.map inC)) (hm:l.length<=1048576) :
  Fn Pz 269 #[.slice s.a s.n s.c] h fun v h'=>Ext h h'/\∃(b k:Nat) (ws:List Nat),v=.slice (some ⟨b,0,none⟩) k k/\h.size<=b/\Own h' b (ws.map wC).flatten 181/\SI ws k fun j=>decide (((j:Nat):Int)∈l/\j<4096):=by
 apply vc269;unfold W269;have hn:=hr.ln;have hs:=St.refl h;refine hs.newb fun h1 hs=>?_;refine up_loop (n:=s.n) (fun i h'=>∃ws:List Nat,ws.length=64/\(∀w∈ws,w<2^64)/\(∀j,memB ws j=decide (((j:Nat):Int)∈l.take i/\j<4096))/\St h h' [.blk h.size (ws.map wC).flatten 436]) ⟨List.replicate 64 0,by rw[Yg],fun w hw=>by rw[List.eq_of_mem_replicate hw];decide,fun j=>by rw[memB_zero,Yyk];exact (decide_eq_false (fun h=>by cases h.1)).symm,hs⟩ ?_;rintro-i h6 hi ⟨ws,hwl,hw,hmem,hs⟩;refine sB_intro (fun l2=>?_) (fun l2=>?_)
 ·replace l2:=lt_t l2;refine (hr.ext hs.ext).nbI (by omega) (by omega) fun b7 o8 d7 g7 t7=>?_;replace g7:l[i]?=some d7:=g7;refine⟨_,t7.hd,?_⟩;have skip:¬(0<=d7/\d7<4096)->∃m,m<s.n-i/\Up s.n (fun i h'=>∃ws:List Nat,ws.length=64/\(∀w∈ws,w<2^64)/\(∀j,memB ws j=decide (((j:Nat):Int)∈l.take i/\j<4096))/\St h h' [.blk h.size (ws.map wC).flatten 436]) (IntKind.wrap .i64 ((i:Int)+1)) h6 m:=fun hno=>
   Up.next l2 (by omega) ⟨ws,hwl,hw,fun j=>by
    rw[hmem j,take_snoc g7];have:(j:Int)∈List.take i l/\j<4096 ↔ (j:Int)∈List.take i l++[d7]/\j<4096:=by
     rw[Yk,Ye];constructor
     ·rintro⟨h1,h2⟩;exact⟨.inl h1,h2⟩
     ·rintro⟨h1 | h1,h2⟩
      ·exact⟨h1,h2⟩
      ·omega
    exact decide_eq_decide.2 this,hs⟩
  refine sBi (fun c1=>?_) (fun c1=>?_)
  ·refine sBi (fun c2=>?_) (fun c2=>?_)
   ·obtain⟨n,rfl⟩:=Int.eq_ofNat_of_zero_le c1;have e1:IntKind.wrap .i64 (Int.tdiv (n:Int) 64)=((n/64:Nat):Int):=by
     have:Int.tdiv (n:Int) 64=((n/64:Nat):Int):=rfl;rw[this];exact w64 (by omega) (by omega)
    have e2:Int.tmod (n:Int) 64=((n%64:Nat):Int):=rfl;have e3:(0+Int.toNat ((n/64:Nat):Int)*1)=n/64*1:=Nat.zero_add _;rw[e1,e2,e3];have hnl:n/64<ws.length:=by omega
    have hg:ws[n/64]?=some (ws.getD (n/64) 0):=by rw[Yo,Yi hnl];rfl
    have hlt:=hw _ (Yb hg);refine⟨by omega,by omega,_,hs.rd 0 rfl (by rw[Nat.mul_one,wflat,hg];rfl),by omega,by omega,by omega,?_⟩;have h2k:2^(n%64)<2^64:=Nat.pow_lt_pow_right (by omega) (by omega);rw[shl_one (by omega),or_nat hlt h2k];refine hs.put 0 rfl (o:=n/64*1) (vs:=[.int .u64 ((ws.getD (n/64) 0|||2^(n%64):Nat):Int)]) rfl (by rw[flatten_len _ (wrows ws),Yc,Yv];omega) fun h11 hs=>?_;refine Up.next l2 (by omega) ⟨ws.set (n/64) (ws.getD (n/64) 0|||2^(n%64)),by rw[Yyh];exact hwl,fun w hw'=>?_,fun j=>?_,?_⟩
    ·rcases List.mem_or_eq_of_mem_set hw' with hw' | rfl
     ·exact hw w hw'
     ·exact Nat.or_lt_two_pow hlt h2k
    ·rw[memB_set hnl,hmem j,take_snoc g7,<-Bool.decide_or];refine decide_eq_decide.2 ?_;rw[Yk,Ye];constructor
     ·rintro (rfl | ⟨h1,h2⟩)
      ·exact⟨.inr rfl,by omega⟩
      ·exact⟨.inl h1,h2⟩
     ·rintro⟨h1 | h1,h2⟩
      ·exact .inr ⟨h1,h2⟩
      ·exact .inl (by omega)
    ·have hs2:=hs;rw[show (List.set [It.blk h.size (ws.map wC).flatten 436] 0 (.blk h.size (splice (ws.map wC).flatten (n/64*1) [.int .u64 ((ws.getD (n/64) 0|||2^(n%64):Nat):Int)]) 436))=[.blk h.size (splice (ws.map wC).flatten (n/64*1) [.int .u64 ((ws.getD (n/64) 0|||2^(n%64):Nat):Int)]) 436] from rfl,wsplice hnl] at hs2;exact hs2
   ·exact skip (by omega)
  ·exact skip (by omega)
 ·replace l2:=lt_f l2;rw[Yj (by omega)] at hmem;refine (build100 ws _ h.size h6 hwl hw hmem fun i w hiw=>hs.rd 0 rfl (by rw[wflat,hiw];rfl)).mono ?_;rintro _ h17 ⟨E,k,rfl,ho,hS⟩;exact⟨⟨some ⟨h6.size,0,none⟩,k,k⟩,rfl,(hs.step E).ext,_,k,ws,rfl,hs.ext.1,ho,hS⟩
end Go.VC
end

section
/- Contract: what a role sees (look). -/
namespace Go.VC
open Go.Proofs Go.LexS

theorem made42 (n:Nat):madeL Pz 25 n=((List.replicate n (⟨none,0,0⟩:Sl)).map slC).flatten:=by
 have e:zeroC Pz 25=[.slice none 0 0]:=by kernel_rfl
 unfold madeL;rw[e,List.map_replicate];rfl
theorem made173 (n:Nat):madeL Pz 396 n=((List.replicate n (⟨none,0,0⟩:Sl)).map slC).flatten:=by
 have e:zeroC Pz 396=[.slice none 0 0]:=by kernel_rfl
 unfold madeL;rw[e,List.map_replicate];rfl
theorem slrows (L:List Sl):∀r∈L.map slC,r.length=1:=fun r hr=>by obtain⟨x,_,rfl⟩:=Yp.1 hr;rfl
theorem app173:appB Pz 396 398 4 32=true:=by kernel_rfl
structure LkL (g:Gl) (role:Int) (i:Nat) (qs:List (Sl × List Int)) (vs:List (Sl × List Ar)):Prop where
 ql:qs.length=g.n.toNat
 vl:vs.length=g.n.toNat
 q:∀(n:Nat) q,qs[n]?=some q->q.2=quietL (g.es.take i) role n
 v:∀(n:Nat) q,vs[n]?=some q->q.2=visL (g.es.take i) role n
def lkA (g:Gl) (role:Int) (b bg:Nat) (hq hv:Sl) (qs:List (Sl × List Int)) (vs:List (Sl × List Ar)):List It:=
 [.blk b (g.cs++[.int .i64 role,.slice hq.a hq.n hq.c,.slice hv.a hv.n hv.c]) 395,.sl hq 25 1 ((qs.map Prod.fst).map slC),.sl hv 396 1 ((vs.map Prod.fst).map slC),.blk bg g.cs 77]
theorem LkL.len {g:Gl} {role:Int} {i n:Nat} {qs:List (Sl × List Int)} {vs:List (Sl × List Ar)} (h:LkL g role i qs vs) {q:Sl × List Int} (hq:qs[n]?=some q):q.2.length<=g.es.length:=by
 rw[h.q n q hq];exact Yys (List.length_filterMap_le _ _) (by rw[Yu];omega)
theorem LkL.lenv {g:Gl} {role:Int} {i n:Nat} {qs:List (Sl × List Int)} {vs:List (Sl × List Ar)} (h:LkL g role i qs vs) {q:Sl × List Ar} (hq:vs[n]?=some q):q.2.length<=g.es.length:=by
 rw[h.v n q hq];exact Yys (List.length_filterMap_le _ _) (by rw[Yu];omega)
theorem LkL.nextQ {g:Gl} {role:Int} {i m:Nat} {qs:List (Sl × List Int)} {vs:List (Sl × List Ar)} {x:Ed} {q:Sl × List Int} {r:Sl} (h:LkL g role i qs vs) (hx:g.es[i]?=some x) (hn:vis1 role x=none) (hm:x.f=(m:Int)) (hq:qs[m]?=some q):LkL g role (i+1) (qs.set m (r,q.2++[x.t])) vs:=by
 refine⟨by rw[Yyh];exact h.ql,h.vl,fun n q' hq'=>?_,fun n q' hq'=>?_⟩
 ·rw[take_snoc hx,quietL_snoc];by_cases e:n=m
  ·subst e;rw[Yq (Ya.1 hq).1] at hq';cases hq';rw[if_pos hm,hn];show q.2++[x.t]=_;rw[h.q n q hq]
  ·rw[Yy (fun h=>e h.symm)] at hq';rw[if_neg (by omega),Yw];exact h.q n q' hq'
 ·rw[take_snoc hx,visL_snoc,hn];rw[show (if x.f=(n:Int) then [] else []:List Ar)=[] by split<;>rfl,Yw];exact h.v n q' hq'
theorem LkL.nextV {g:Gl} {role:Int} {i m:Nat} {qs:List (Sl × List Int)} {vs:List (Sl × List Ar)} {x:Ed} {q:Sl × List Ar} {r:Sl} {e:Ev} (h:LkL g role i qs vs) (hx:g.es[i]?=some x) (hn:vis1 role x=some e) (hm:x.f=(m:Int)) (hq:vs[m]?=some q):LkL g role (i+1) qs (vs.set m (r,q.2++[⟨e,x.t⟩])):=by
 refine⟨h.ql,by rw[Yyh];exact h.vl,fun n q' hq'=>?_,fun n q' hq'=>?_⟩
 ·rw[take_snoc hx,quietL_snoc,hn];rw[show (if x.f=(n:Int) then [] else []:List Int)=[] by split<;>rfl,Yw];exact h.q n q' hq'
 ·rw[take_snoc hx,visL_snoc];by_cases e:n=m
  ·subst e;rw[Yq (Ya.1 hq).1] at hq';cases hq';rw[if_pos hm,hn];show q.2++[_]=_;rw[h.v n q hq]
  ·rw[Yy (fun h=>e h.symm)] at hq';rw[if_neg (by omega),Yw];exact h.v n q' hq'
theorem LkL.start (g:Gl) (role:Int):LkL g role 0 (List.replicate g.n.toNat (⟨none,0,0⟩,[])) (List.replicate g.n.toNat (⟨none,0,0⟩,[])):=
 ⟨by rw[Yg],by rw[Yg],fun n q hq=>by rw[List.eq_of_mem_replicate (Yb hq)];rfl,fun n q hq=>by rw[List.eq_of_mem_replicate (Yb hq)];rfl⟩
theorem fst_set {α β:Type} (Q:List (α × β)) (i:Nat) (r:α) (d:β):(Q.set i (r,d)).map Prod.fst=(Q.map Prod.fst).set i r:=List.map_set
theorem map_range {α β:Type} [Inhabited α] (Q:List α) (f:α->β):Q.map f=(List.range Q.length).map fun i=>f (Q.getD i default):=by
 apply Yyr;intro i;rw[Yd,Yd];by_cases h:i<Q.length
 ·rw[Yyb h,Yi h];simp[Yo,Yi h]
 ·rw[Yl (by omega),Yl (by rw[Yyd];omega)];rfl
instance {α:Type}:Inhabited (Sl × List α):=⟨⟨⟨none,0,0⟩,[]⟩⟩
theorem LkL.fin {g:Gl} {role:Int} {i:Nat} {h0 h:Heap} {b bg:Nat} {hq hv:Sl} {qs:List (Sl × List Int)} {vs:List (Sl × List Ar)} (hL:LkL g role i qs vs) (hi:g.es.length<=i)
  (hs:St h0 h (lkA g role b bg hq hv qs vs++qs.map (nest 3 1 inC)++vs.map (nest 398 4 Ar.cs))) (hqn:hq.n=g.n.toNat) (hvn:hv.n=g.n.toNat):LkI h ⟨b,0,none⟩ g role:=by
 have key:∀ {α:Type} (Q:List (Sl × List α)),(Q.map Prod.fst).map slC=(List.range Q.length).map fun i=>slC ((Q.getD i default).1):=fun Q=>by rw[List.map_map,map_range];rfl
 refine⟨hq,hv,fun i=>(qs.getD i default).1,fun i=>(vs.getD i default).1,rfl,hs.at 0 rfl (n:=11) rfl,hqn,hvn,?_,?_,fun i hi'=>?_,fun i hi'=>?_⟩
 ·have:=hs.rw 1 rfl (by omega);rw[key,hL.ql] at this;exact this
 ·have:=hs.rw 2 rfl (by omega);rw[key,hL.vl] at this;exact this
 ·have hil:i<qs.length:=by rw[hL.ql];exact hi'
  have hg:qs[i]?=some (qs.getD i default):=by rw[Yo,Yi hil];rfl
  have:=hs.rw (4+i) (rows:=(qs.getD i default).2.map inC) (s:=(qs.getD i default).1) (e:=3) (n:=1) (by
   have:=get_mid (P:=lkA g role b bg hq hv qs vs) (Q:=qs.map (nest 3 1 inC)) (R:=vs.map (nest 398 4 Ar.cs)) (i:=i) (by rw[Yc];exact hil);rw[show (lkA g role b bg hq hv qs vs).length=4 from rfl] at this;rw[this,Yd,hg];rfl) (by omega)
  rw[hL.q i _ hg,Yj hi] at this;exact this
 ·have hil:i<vs.length:=by rw[hL.vl];exact hi'
  have hg:vs[i]?=some (vs.getD i default):=by rw[Yo,Yi hil];rfl
  have:=hs.rw ((lkA g role b bg hq hv qs vs++qs.map (nest 3 1 inC)).length+i) (rows:=(vs.getD i default).2.map Ar.cs) (s:=(vs.getD i default).1) (e:=398) (n:=4) (by
   rw[Yyc (by omega),Nat.add_sub_cancel_left,Yd,hg];rfl) (by omega)
  rw[hL.v i _ hg,Yj hi] at this;exact this

theorem look52 (g:Gl) (role:Int) (h:Heap) (hg:GI h g) (hx:Gx h) :
  Fn Pz 210 #[g.v,.int .i64 role] h fun v h'=>Ext h h'/\((¬(ValidS g/\0<=role/\role<g.rs.length)/\v=.tuple ⟨[.pointer none,.int .i64 1]⟩) \/
   ((ValidS g/\0<=role/\role<g.rs.length)/\∃b,h.size<=b/\v=.tuple ⟨[.pointer (some ⟨b,0,none⟩),.int .i64 0]⟩/\LkI h' ⟨b,0,none⟩ g role)):=by
 apply vc210 (bs g.nm) g.hr g.hd g.n g.s g.e g.he g.ht;unfold W210 V210a V210c V210b;have hs:=St.refl h;have hn:=hg.e.ln;have hnr:=hg.r.ln;have hsm:=hg.e.sm;refine hs.newb fun h9 hs=>?_;refine⟨_,_,_,_,_,_,_,_,hs.at 0 rfl (n:=8) rfl,?_⟩;refine (valid38 g _ (hg.ext hs.ext) (hx.ext hs.ext)).mono ?_;rintro _ h20 ⟨rfl,Eh20⟩;replace hs:=hs.step Eh20;refine⟨_,rfl,?_⟩;refine sB_intro (fun c1=>?_) (fun c1=>?_)
 ·exact⟨hs.ext,.inl ⟨fun hG=>Yyo (bF c1) hG.1,rfl⟩⟩
 ·have hV:=Yyn (bT c1);refine sBi (fun c2=>?_) (fun c2=>?_)
  ·exact⟨hs.ext,.inl ⟨fun hG=>by omega,rfl⟩⟩
  ·refine⟨_,hs.rd 0 rfl rfl,?_⟩;refine sBi (fun c3=>?_) (fun c3=>?_)
   ·exact⟨hs.ext,.inl ⟨fun hG=>by omega,rfl⟩⟩
   ·refine⟨_,_,_,_,_,_,_,_,hs.at 0 rfl (n:=8) rfl,?_⟩;refine⟨_,hs.rd 0 rfl rfl,?_⟩;refine⟨_,hs.rd 0 rfl rfl,?_⟩;have hb:=hV.num.n;have hE:=hV.num.e;have hm4:=hV.num.m;have fin:ValidS g/\0<=role/\role<g.rs.length:=⟨hV,by omega,by omega⟩;rw[made42,made173];have hrep:∀ {α:Type},((List.replicate g.n.toNat ((⟨none,0,0⟩,[]):Sl × List α)).map Prod.fst)=List.replicate g.n.toNat (⟨none,0,0⟩:Sl):=List.map_replicate;have hmx:g.n.toNat<=maxLen:=by simp only[maxLen];omega
    refine⟨?_,?_⟩
    ·refine⟨by omega,?_⟩;refine hs.newbE fun h32 E32 hs=>⟨E32.sm,?_⟩;have hs:=hs.blkS g.n.toNat 1 _ rfl (slrows _) (by rw[Yc,Yg]) hmx;refine⟨by omega,?_⟩;refine hs.newbE fun h33 E33 hs=>⟨E33.sm,?_⟩;have hs:=hs.blkS g.n.toNat 1 _ rfl (slrows _) (by rw[Yc,Yg]) hmx;have hle:h.size<=h33.size:=hs.ext.1;refine hs.newb fun h34 hs=>?_;have hs:St h h34 (lkA g role h33.size h.size ⟨some ⟨h20.size,0,none⟩,g.n.toNat,g.n.toNat⟩ ⟨some ⟨h32.size,0,none⟩,g.n.toNat,g.n.toNat⟩ (List.replicate g.n.toNat (⟨none,0,0⟩,[])) (List.replicate g.n.toNat (⟨none,0,0⟩,[]))++(List.replicate g.n.toNat ((⟨none,0,0⟩,[]):Sl × List Int)).map (nest 3 1 inC)++(List.replicate g.n.toNat ((⟨none,0,0⟩,[]):Sl × List Ar)).map (nest 398 4 Ar.cs)):=by
      have h1:St h h34 (lkA g role h33.size h.size ⟨some ⟨h20.size,0,none⟩,g.n.toNat,g.n.toNat⟩ ⟨some ⟨h32.size,0,none⟩,g.n.toNat,g.n.toNat⟩ (List.replicate g.n.toNat (⟨none,0,0⟩,[])) (List.replicate g.n.toNat (⟨none,0,0⟩,[]))++[]):=by
       unfold lkA;rw[hrep,hrep];exact hs.perm (.cons _ (.swap _ _ _))
      have h2:=h1.nests (α:=Ar) (e:=398) (k:=4) (cs:=Ar.cs) g.n.toNat;rw[Yw] at h2;exact h2.nests (α:=Int) (e:=3) (k:=1) (cs:=inC) g.n.toNat
     refine⟨_,hs.rd 3 rfl rfl,?_⟩;refine up_loop (n:=g.he.n) (fun i h'=>∃qs vs,LkL g role i qs vs/\St h h' (lkA g role h33.size h.size ⟨some ⟨h20.size,0,none⟩,g.n.toNat,g.n.toNat⟩ ⟨some ⟨h32.size,0,none⟩,g.n.toNat,g.n.toNat⟩ qs vs++qs.map (nest 3 1 inC)++vs.map (nest 398 4 Ar.cs))) ⟨_,_,LkL.start g role,hs⟩ ?_;rintro-i h40 hi ⟨qs,vs,hL,hs⟩;refine sB_intro (fun l=>?_) (fun l=>?_)
     ·replace l:=lt_t l;refine (hg.e.ext hs.ext).rw.nbI (by omega) (by omega) fun b41 o42 x g41 t41=>?_;replace g41:g.es[i]?=some x:=g41;have hxE:=hE x (Yb g41);unfold EdS at hxE;obtain⟨m,hm⟩:∃m:Nat,x.f=m:=⟨x.f.toNat,by omega⟩;obtain⟨q,hq⟩:=get_some (l:=qs) (i:=m) (by rw[hL.ql];omega);obtain⟨v,hv⟩:=get_some (l:=vs) (i:=m) (by rw[hL.vl];omega);have hql:=hL.len hq;have hvl:=hL.lenv hv;have hqn:q.1.n=q.2.length:=by
       have:=hs.len (4+m) (s:=q.1) (e:=3) (n:=1) (rows:=q.2.map inC) (by
        have:=get_mid (P:=lkA g role h33.size h.size ⟨some ⟨h20.size,0,none⟩,g.n.toNat,g.n.toNat⟩ ⟨some ⟨h32.size,0,none⟩,g.n.toNat,g.n.toNat⟩ qs vs) (Q:=qs.map (nest 3 1 inC)) (R:=vs.map (nest 398 4 Ar.cs)) (i:=m) (by rw[Yc];exact (Ya.1 hq).1);rw[show (lkA g role h33.size h.size ⟨some ⟨h20.size,0,none⟩,g.n.toNat,g.n.toNat⟩ ⟨some ⟨h32.size,0,none⟩,g.n.toNat,g.n.toNat⟩ qs vs).length=4 from rfl] at this;rw[this,Yd,hq];rfl) (by omega)
       rw[this.1,Yc]
      have hvn:v.1.n=v.2.length:=by
       have:=hs.len ((lkA g role h33.size h.size ⟨some ⟨h20.size,0,none⟩,g.n.toNat,g.n.toNat⟩ ⟨some ⟨h32.size,0,none⟩,g.n.toNat,g.n.toNat⟩ qs vs++qs.map (nest 3 1 inC)).length+m) (s:=v.1) (e:=398) (n:=4) (rows:=v.2.map Ar.cs) (by
        rw[Yyc (by omega),Nat.add_sub_cancel_left,Yd,hv];rfl) (by omega)
       rw[this.1,Yc]
      refine⟨_,_,_,_,_,_,t41,?_⟩;refine hs.newput (vs:=x.cs) rfl rfl fun h50 hs=>?_;refine⟨_,hs.rd 0 rfl rfl,?_⟩;refine sBe (fun c4=>?_) (fun c4=>?_)
      ·have hvis:vis1 role x=some ⟨true,x.b,x.l⟩:=by unfold vis1;rw[if_pos c4]
       refine⟨_,hs.rd 1 rfl rfl,?_⟩;refine⟨_,hs.rd 0 rfl rfl,?_⟩;refine⟨_,hs.rd 1 rfl rfl,?_⟩;refine⟨_,hs.rd 0 rfl rfl,?_⟩;refine (hs.rows 3 rfl (by omega)).nbI (cs:=slC) (L:=vs.map Prod.fst) (by omega) (by show x.f<((g.n.toNat:Nat):Int);omega) fun b56 o57 d56 g56 t56=>?_;have ed:d56=v.1:=by
        rw[hm,show ((m:Int)).toNat=m from rfl,Yd,hv] at g56;exact (Yyp g56).symm
       subst ed;refine⟨_,t56.hd,?_⟩;refine⟨_,hs.rd 0 rfl rfl,?_⟩;refine⟨_,hs.rd 0 rfl rfl,?_⟩;refine⟨_,hs.rd 0 rfl rfl,?_⟩;refine hs.newbE fun h62 E62 hs=>⟨E62.sm,?_⟩;have hs':St h h62 ((.blk h50.size (Ar.cs ⟨⟨true,x.b,x.l⟩,x.t⟩) 398 :: .blk h40.size x.cs 135::(lkA g role h33.size h.size ⟨some ⟨h20.size,0,none⟩,g.n.toNat,g.n.toNat⟩ ⟨some ⟨h32.size,0,none⟩,g.n.toNat,g.n.toNat⟩ qs vs++qs.map (nest 3 1 inC)))++vs.map (nest 398 4 Ar.cs)++[]):=by rw[Yw];exact hs
       refine hs'.nestAt hv app173 (⟨⟨true,x.b,x.l⟩,x.t⟩:Ar) (hs'.at 0 rfl (n:=4) rfl) rfl rfl (by omega) (by simp only[maxLen];omega) fun r h64 hr hs3=>?_;rw[Yw] at hs3;refine⟨sm_cons (hs'.same hs3 1 1 rfl rfl) (sm_cons (hs'.same hs3 2 2 rfl rfl) sm_nil),?_⟩;refine hs3.set 4 (cs:=slC) (l:=vs.map Prod.fst) rfl (by omega) (by omega) (by show x.f<((g.n.toNat:Nat):Int);omega) r rfl rfl (fun b o h67 hs4=>?_) rfl;refine Up.next l (by omega) ⟨qs,vs.set m (r,v.2++[⟨⟨true,x.b,x.l⟩,x.t⟩]),hL.nextV g41 hvis hm hv,?_⟩;rw[hm] at hs4;have hs5:=hs4.drop 2;unfold lkA;rw[fst_set];exact hs5
      ·refine⟨_,hs.rd 0 rfl rfl,?_⟩;refine sBe (fun c5=>?_) (fun c5=>?_)
       ·have hvis:vis1 role x=some ⟨false,x.a,x.l⟩:=by unfold vis1;rw[if_neg c4,if_pos c5]
        refine⟨_,hs.rd 1 rfl rfl,?_⟩;refine⟨_,hs.rd 0 rfl rfl,?_⟩;refine⟨_,hs.rd 1 rfl rfl,?_⟩;refine⟨_,hs.rd 0 rfl rfl,?_⟩;refine (hs.rows 3 rfl (by omega)).nbI (cs:=slC) (L:=vs.map Prod.fst) (by omega) (by show x.f<((g.n.toNat:Nat):Int);omega) fun b56 o57 d56 g56 t56=>?_;have ed:d56=v.1:=by
         rw[hm,show ((m:Int)).toNat=m from rfl,Yd,hv] at g56;exact (Yyp g56).symm
        subst ed;refine⟨_,t56.hd,?_⟩;refine⟨_,hs.rd 0 rfl rfl,?_⟩;refine⟨_,hs.rd 0 rfl rfl,?_⟩;refine⟨_,hs.rd 0 rfl rfl,?_⟩;refine hs.newbE fun h62 E62 hs=>⟨E62.sm,?_⟩;have hs':St h h62 ((.blk h50.size (Ar.cs ⟨⟨false,x.a,x.l⟩,x.t⟩) 398 :: .blk h40.size x.cs 135::(lkA g role h33.size h.size ⟨some ⟨h20.size,0,none⟩,g.n.toNat,g.n.toNat⟩ ⟨some ⟨h32.size,0,none⟩,g.n.toNat,g.n.toNat⟩ qs vs++qs.map (nest 3 1 inC)))++vs.map (nest 398 4 Ar.cs)++[]):=by rw[Yw];exact hs
        refine hs'.nestAt hv app173 (⟨⟨false,x.a,x.l⟩,x.t⟩:Ar) (hs'.at 0 rfl (n:=4) rfl) rfl rfl (by omega) (by simp only[maxLen];omega) fun r h64 hr hs3=>?_;rw[Yw] at hs3;refine⟨sm_cons (hs'.same hs3 1 1 rfl rfl) (sm_cons (hs'.same hs3 2 2 rfl rfl) sm_nil),?_⟩;refine hs3.set 4 (cs:=slC) (l:=vs.map Prod.fst) rfl (by omega) (by omega) (by show x.f<((g.n.toNat:Nat):Int);omega) r rfl rfl (fun b o h67 hs4=>?_) rfl;refine Up.next l (by omega) ⟨qs,vs.set m (r,v.2++[⟨⟨false,x.a,x.l⟩,x.t⟩]),hL.nextV g41 hvis hm hv,?_⟩;rw[hm] at hs4;have hs5:=hs4.drop 2;unfold lkA;rw[fst_set];exact hs5
       ·have hvis:vis1 role x=none:=by unfold vis1;rw[if_neg c4,if_neg c5]
        refine⟨_,hs.rd 1 rfl rfl,?_⟩;refine⟨_,hs.rd 0 rfl rfl,?_⟩;refine⟨_,hs.rd 1 rfl rfl,?_⟩;refine⟨_,hs.rd 0 rfl rfl,?_⟩;refine (hs.rows 2 rfl (by omega)).nbI (cs:=slC) (L:=qs.map Prod.fst) (by omega) (by show x.f<((g.n.toNat:Nat):Int);omega) fun b56 o57 d56 g56 t56=>?_;have ed:d56=q.1:=by
         rw[hm,show ((m:Int)).toNat=m from rfl,Yd,hq] at g56;exact (Yyp g56).symm
        subst ed;refine⟨_,t56.hd,?_⟩;refine⟨_,hs.rd 0 rfl rfl,?_⟩;refine hs.newbE fun h62 E62 hs=>⟨E62.sm,?_⟩;have hs':St h h62 ((.blk h50.size (inC x.t) 3 :: .blk h40.size x.cs 135::lkA g role h33.size h.size ⟨some ⟨h20.size,0,none⟩,g.n.toNat,g.n.toNat⟩ ⟨some ⟨h32.size,0,none⟩,g.n.toNat,g.n.toNat⟩ qs vs)++qs.map (nest 3 1 inC)++vs.map (nest 398 4 Ar.cs)):=hs;refine hs'.nestAt hq app42 x.t (hs'.at 0 rfl (n:=1) rfl) rfl rfl (by omega) (by simp only[maxLen];omega) fun r h64 hr hs3=>⟨sm_cons (hs'.same hs3 1 1 rfl rfl) (sm_cons (hs'.same hs3 2 2 rfl rfl) sm_nil),?_⟩;refine hs3.set 3 (cs:=slC) (l:=qs.map Prod.fst) rfl (by omega) (by omega) (by show x.f<((g.n.toNat:Nat):Int);omega) r rfl rfl (fun b o h67 hs4=>?_) rfl;refine Up.next l (by omega) ⟨qs.set m (r,q.2++[x.t]),vs,hL.nextQ g41 hvis hm hq,?_⟩;unfold lkA;rw[fst_set];rw[hm] at hs4;exact hs4.drop 2
     ·replace l:=lt_f l;refine⟨hs.ext,.inr ⟨fin,h33.size,hle,rfl,hL.fin (by omega) hs rfl rfl⟩⟩
    ·refine⟨by omega,?_⟩;refine hs.newbE fun h32 E32 hs=>⟨E32.sm,?_⟩;have hs:=hs.blkS g.n.toNat 1 _ rfl (slrows _) (by rw[Yc,Yg]) hmx;refine⟨by omega,?_⟩;refine hs.newbE fun h33 E33 hs=>⟨E33.sm,?_⟩;have hs:=hs.blkS g.n.toNat 1 _ rfl (slrows _) (by rw[Yc,Yg]) hmx;have hle:h.size<=h33.size:=hs.ext.1;refine hs.newb fun h34 hs=>?_;have hs:St h h34 (lkA g role h33.size h.size ⟨some ⟨h32.size,0,none⟩,g.n.toNat,g.n.toNat⟩ ⟨some ⟨h20.size,0,none⟩,g.n.toNat,g.n.toNat⟩ (List.replicate g.n.toNat (⟨none,0,0⟩,[])) (List.replicate g.n.toNat (⟨none,0,0⟩,[]))++(List.replicate g.n.toNat ((⟨none,0,0⟩,[]):Sl × List Int)).map (nest 3 1 inC)++(List.replicate g.n.toNat ((⟨none,0,0⟩,[]):Sl × List Ar)).map (nest 398 4 Ar.cs)):=by
      have h1:St h h34 (lkA g role h33.size h.size ⟨some ⟨h32.size,0,none⟩,g.n.toNat,g.n.toNat⟩ ⟨some ⟨h20.size,0,none⟩,g.n.toNat,g.n.toNat⟩ (List.replicate g.n.toNat (⟨none,0,0⟩,[])) (List.replicate g.n.toNat (⟨none,0,0⟩,[]))++[]):=by
       unfold lkA;rw[hrep,hrep];exact hs
      have h2:=h1.nests (α:=Ar) (e:=398) (k:=4) (cs:=Ar.cs) g.n.toNat;rw[Yw] at h2;exact h2.nests (α:=Int) (e:=3) (k:=1) (cs:=inC) g.n.toNat
     refine⟨_,hs.rd 3 rfl rfl,?_⟩;refine up_loop (n:=g.he.n) (fun i h'=>∃qs vs,LkL g role i qs vs/\St h h' (lkA g role h33.size h.size ⟨some ⟨h32.size,0,none⟩,g.n.toNat,g.n.toNat⟩ ⟨some ⟨h20.size,0,none⟩,g.n.toNat,g.n.toNat⟩ qs vs++qs.map (nest 3 1 inC)++vs.map (nest 398 4 Ar.cs))) ⟨_,_,LkL.start g role,hs⟩ ?_;rintro-i h40 hi ⟨qs,vs,hL,hs⟩;refine sB_intro (fun l=>?_) (fun l=>?_)
     ·replace l:=lt_t l;refine (hg.e.ext hs.ext).rw.nbI (by omega) (by omega) fun b41 o42 x g41 t41=>?_;replace g41:g.es[i]?=some x:=g41;have hxE:=hE x (Yb g41);unfold EdS at hxE;obtain⟨m,hm⟩:∃m:Nat,x.f=m:=⟨x.f.toNat,by omega⟩;obtain⟨q,hq⟩:=get_some (l:=qs) (i:=m) (by rw[hL.ql];omega);obtain⟨v,hv⟩:=get_some (l:=vs) (i:=m) (by rw[hL.vl];omega);have hql:=hL.len hq;have hvl:=hL.lenv hv;have hqn:q.1.n=q.2.length:=by
       have:=hs.len (4+m) (s:=q.1) (e:=3) (n:=1) (rows:=q.2.map inC) (by
        have:=get_mid (P:=lkA g role h33.size h.size ⟨some ⟨h32.size,0,none⟩,g.n.toNat,g.n.toNat⟩ ⟨some ⟨h20.size,0,none⟩,g.n.toNat,g.n.toNat⟩ qs vs) (Q:=qs.map (nest 3 1 inC)) (R:=vs.map (nest 398 4 Ar.cs)) (i:=m) (by rw[Yc];exact (Ya.1 hq).1);rw[show (lkA g role h33.size h.size ⟨some ⟨h32.size,0,none⟩,g.n.toNat,g.n.toNat⟩ ⟨some ⟨h20.size,0,none⟩,g.n.toNat,g.n.toNat⟩ qs vs).length=4 from rfl] at this;rw[this,Yd,hq];rfl) (by omega)
       rw[this.1,Yc]
      have hvn:v.1.n=v.2.length:=by
       have:=hs.len ((lkA g role h33.size h.size ⟨some ⟨h32.size,0,none⟩,g.n.toNat,g.n.toNat⟩ ⟨some ⟨h20.size,0,none⟩,g.n.toNat,g.n.toNat⟩ qs vs++qs.map (nest 3 1 inC)).length+m) (s:=v.1) (e:=398) (n:=4) (rows:=v.2.map Ar.cs) (by
        rw[Yyc (by omega),Nat.add_sub_cancel_left,Yd,hv];rfl) (by omega)
       rw[this.1,Yc]
      refine⟨_,_,_,_,_,_,t41,?_⟩;refine hs.newput (vs:=x.cs) rfl rfl fun h50 hs=>?_;refine⟨_,hs.rd 0 rfl rfl,?_⟩;refine sBe (fun c4=>?_) (fun c4=>?_)
      ·have hvis:vis1 role x=some ⟨true,x.b,x.l⟩:=by unfold vis1;rw[if_pos c4]
       refine⟨_,hs.rd 1 rfl rfl,?_⟩;refine⟨_,hs.rd 0 rfl rfl,?_⟩;refine⟨_,hs.rd 1 rfl rfl,?_⟩;refine⟨_,hs.rd 0 rfl rfl,?_⟩;refine (hs.rows 3 rfl (by omega)).nbI (cs:=slC) (L:=vs.map Prod.fst) (by omega) (by show x.f<((g.n.toNat:Nat):Int);omega) fun b56 o57 d56 g56 t56=>?_;have ed:d56=v.1:=by
        rw[hm,show ((m:Int)).toNat=m from rfl,Yd,hv] at g56;exact (Yyp g56).symm
       subst ed;refine⟨_,t56.hd,?_⟩;refine⟨_,hs.rd 0 rfl rfl,?_⟩;refine⟨_,hs.rd 0 rfl rfl,?_⟩;refine⟨_,hs.rd 0 rfl rfl,?_⟩;refine hs.newbE fun h62 E62 hs=>⟨E62.sm,?_⟩;have hs':St h h62 ((.blk h50.size (Ar.cs ⟨⟨true,x.b,x.l⟩,x.t⟩) 398 :: .blk h40.size x.cs 135::(lkA g role h33.size h.size ⟨some ⟨h32.size,0,none⟩,g.n.toNat,g.n.toNat⟩ ⟨some ⟨h20.size,0,none⟩,g.n.toNat,g.n.toNat⟩ qs vs++qs.map (nest 3 1 inC)))++vs.map (nest 398 4 Ar.cs)++[]):=by rw[Yw];exact hs
       refine hs'.nestAt hv app173 (⟨⟨true,x.b,x.l⟩,x.t⟩:Ar) (hs'.at 0 rfl (n:=4) rfl) rfl rfl (by omega) (by simp only[maxLen];omega) fun r h64 hr hs3=>?_;rw[Yw] at hs3;refine⟨sm_cons (hs'.same hs3 1 1 rfl rfl) (sm_cons (hs'.same hs3 2 2 rfl rfl) sm_nil),?_⟩;refine hs3.set 4 (cs:=slC) (l:=vs.map Prod.fst) rfl (by omega) (by omega) (by show x.f<((g.n.toNat:Nat):Int);omega) r rfl rfl (fun b o h67 hs4=>?_) rfl;refine Up.next l (by omega) ⟨qs,vs.set m (r,v.2++[⟨⟨true,x.b,x.l⟩,x.t⟩]),hL.nextV g41 hvis hm hv,?_⟩;rw[hm] at hs4;have hs5:=hs4.drop 2;unfold lkA;rw[fst_set];exact hs5
      ·refine⟨_,hs.rd 0 rfl rfl,?_⟩;refine sBe (fun c5=>?_) (fun c5=>?_)
       ·have hvis:vis1 role x=some ⟨false,x.a,x.l⟩:=by unfold vis1;rw[if_neg c4,if_pos c5]
        refine⟨_,hs.rd 1 rfl rfl,?_⟩;refine⟨_,hs.rd 0 rfl rfl,?_⟩;refine⟨_,hs.rd 1 rfl rfl,?_⟩;refine⟨_,hs.rd 0 rfl rfl,?_⟩;refine (hs.rows 3 rfl (by omega)).nbI (cs:=slC) (L:=vs.map Prod.fst) (by omega) (by show x.f<((g.n.toNat:Nat):Int);omega) fun b56 o57 d56 g56 t56=>?_;have ed:d56=v.1:=by
         rw[hm,show ((m:Int)).toNat=m from rfl,Yd,hv] at g56;exact (Yyp g56).symm
        subst ed;refine⟨_,t56.hd,?_⟩;refine⟨_,hs.rd 0 rfl rfl,?_⟩;refine⟨_,hs.rd 0 rfl rfl,?_⟩;refine⟨_,hs.rd 0 rfl rfl,?_⟩;refine hs.newbE fun h62 E62 hs=>⟨E62.sm,?_⟩;have hs':St h h62 ((.blk h50.size (Ar.cs ⟨⟨false,x.a,x.l⟩,x.t⟩) 398 :: .blk h40.size x.cs 135::(lkA g role h33.size h.size ⟨some ⟨h32.size,0,none⟩,g.n.toNat,g.n.toNat⟩ ⟨some ⟨h20.size,0,none⟩,g.n.toNat,g.n.toNat⟩ qs vs++qs.map (nest 3 1 inC)))++vs.map (nest 398 4 Ar.cs)++[]):=by rw[Yw];exact hs
        refine hs'.nestAt hv app173 (⟨⟨false,x.a,x.l⟩,x.t⟩:Ar) (hs'.at 0 rfl (n:=4) rfl) rfl rfl (by omega) (by simp only[maxLen];omega) fun r h64 hr hs3=>?_;rw[Yw] at hs3;refine⟨sm_cons (hs'.same hs3 1 1 rfl rfl) (sm_cons (hs'.same hs3 2 2 rfl rfl) sm_nil),?_⟩;refine hs3.set 4 (cs:=slC) (l:=vs.map Prod.fst) rfl (by omega) (by omega) (by show x.f<((g.n.toNat:Nat):Int);omega) r rfl rfl (fun b o h67 hs4=>?_) rfl;refine Up.next l (by omega) ⟨qs,vs.set m (r,v.2++[⟨⟨false,x.a,x.l⟩,x.t⟩]),hL.nextV g41 hvis hm hv,?_⟩;rw[hm] at hs4;have hs5:=hs4.drop 2;unfold lkA;rw[fst_set];exact hs5
       ·have hvis:vis1 role x=none:=by unfold vis1;rw[if_neg c4,if_neg c5]
        refine⟨_,hs.rd 1 rfl rfl,?_⟩;refine⟨_,hs.rd 0 rfl rfl,?_⟩;refine⟨_,hs.rd 1 rfl rfl,?_⟩;refine⟨_,hs.rd 0 rfl rfl,?_⟩;refine (hs.rows 2 rfl (by omega)).nbI (cs:=slC) (L:=qs.map Prod.fst) (by omega) (by show x.f<((g.n.toNat:Nat):Int);omega) fun b56 o57 d56 g56 t56=>?_;have ed:d56=q.1:=by
         rw[hm,show ((m:Int)).toNat=m from rfl,Yd,hq] at g56;exact (Yyp g56).symm
        subst ed;refine⟨_,t56.hd,?_⟩;refine⟨_,hs.rd 0 rfl rfl,?_⟩;refine hs.newbE fun h62 E62 hs=>⟨E62.sm,?_⟩;have hs':St h h62 ((.blk h50.size (inC x.t) 3 :: .blk h40.size x.cs 135::lkA g role h33.size h.size ⟨some ⟨h32.size,0,none⟩,g.n.toNat,g.n.toNat⟩ ⟨some ⟨h20.size,0,none⟩,g.n.toNat,g.n.toNat⟩ qs vs)++qs.map (nest 3 1 inC)++vs.map (nest 398 4 Ar.cs)):=hs;refine hs'.nestAt hq app42 x.t (hs'.at 0 rfl (n:=1) rfl) rfl rfl (by omega) (by simp only[maxLen];omega) fun r h64 hr hs3=>⟨sm_cons (hs'.same hs3 1 1 rfl rfl) (sm_cons (hs'.same hs3 2 2 rfl rfl) sm_nil),?_⟩;refine hs3.set 3 (cs:=slC) (l:=qs.map Prod.fst) rfl (by omega) (by omega) (by show x.f<((g.n.toNat:Nat):Int);omega) r rfl rfl (fun b o h67 hs4=>?_) rfl;refine Up.next l (by omega) ⟨qs.set m (r,q.2++[x.t]),vs,hL.nextQ g41 hvis hm hq,?_⟩;unfold lkA;rw[fst_set];rw[hm] at hs4;exact hs4.drop 2
     ·replace l:=lt_f l;refine⟨hs.ext,.inr ⟨fin,h33.size,hle,rfl,hL.fin (by omega) hs rfl rfl⟩⟩
end Go.VC
end

section
/- Contract: closed. -/
namespace Go.VC
open Go.Proofs Go.LexS

theorem made4 (n:Nat):madeL Pz 4 n=(List.replicate n false).map Value.bool:=by
 have e:zeroC Pz 4=[.bool false]:=by kernel_rfl
 unfold madeL;rw[e,List.map_replicate]
 induction n with
 | zero=>rfl
 | succ n ih=>rw[List.replicate_succ,List.replicate_succ,Yyu,ih];rfl
theorem SI.congr {ws:List Nat} {k:Nat} {p q:Nat->Bool} (h:SI ws k p) (e:p=q):SI ws k q:=e ▸ h
set_option maxHeartbeats 1000000 in
theorem closed53 (g:Gl) (role:Int) (b:Nat) (l:List Int) (s:Sl) (h:Heap) (hl:LkI h ⟨b,0,none⟩ g role) (hV:ValidS g) (hr:Rw h 1 s (l.map inC)) (hb:∀x∈l,0<=x/\x<g.n) (hsm:l.length<=1048576) :
  Fn Pz 216 #[.pointer (some ⟨b,0,none⟩),.slice s.a s.n s.c] h fun v h'=>Ext h h'/\∃(c k:Nat) (ws:List Nat),v=.slice (some ⟨c,0,none⟩) k k/\h.size<=c/\Own h' c (ws.map wC).flatten 181/\SI ws k (clo g.es role l):=by
 apply vc216;unfold W216 V216a;have hs:=St.refl h;have hn:=hr.ln;have hN:=hV.num.n;have hE:=hV.num.e;obtain⟨hq,hv,qs,vs,h1,h2,h3,h4,h5,h6,h7,h8⟩:=hl.ex;clear hl;refine⟨_,h2.nth 3 rfl,by omega,?_⟩;rw[made4];refine hs.newb fun h2' hs=>?_;have hs:=hs.nil_ 3 1;refine⟨fun todo x h' m=>∃(i:Nat) (D:List Bool) (T:List Int),x=i/\m=s.n-i/\i<=s.n/\St h h' [.sl todo 3 1 (T.map inC),.blk h.size (D.map Value.bool) 4]/\CL g.es role g.n.toNat l D T/\∀x∈l.take i,x∈T,⟨_,0,_,[],rfl,rfl,by omega,hs,CL.start _ _ _ _,fun x hx=>by rw[Yyk] at hx;cases hx⟩,?_⟩;rintro-todo_6 _ h8' m ⟨i,D,T,rfl,rfl,hi,hs,hC,hT⟩;have htl:=(hs.rows 0 rfl (by omega)).ln;have hle:=hC.le;have hDl:=hC.len;refine sBi (fun c1=>?_) (fun c1=>?_)
 ·refine (hr.ext hs.ext).nbI (by omega) (by omega) fun b9 o10 d9 g9 t9=>?_;replace g9:l[i]?=some d9:=g9;have hd:=hb d9 (Yb g9);refine⟨_,t9.hd,⟨by omega,by omega⟩,?_⟩;obtain⟨y,hy⟩:=get_some (l:=D) (i:=d9.toNat) (by omega);have e0:0+Int.toNat d9*1=d9.toNat:=by omega
  rw[e0];refine⟨_,hs.rd 1 rfl (by rw[map_get,hy];rfl),?_⟩;refine sB_intro (fun c2=>?_) (fun c2=>?_)
  ·have hyf:y=false:=bF c2;subst hyf;refine⟨⟨by omega,by omega⟩,?_⟩;refine hs.put 1 rfl (o:=d9.toNat) (vs:=[.bool true]) rfl (by rw[Yc,Yv];omega) fun h13 hs=>?_;refine hs.app 0 rfl app42 (m:=1) [[.int .i64 d9]] rfl rfl (by simp) rfl (by omega) (by simp only[maxLen];omega) fun s15 h16 ns15 hs=>?_;refine⟨_,by omega,i+1,D.set d9.toNat true,T++[d9],by rw[w64 (by omega) (by omega)];omega,rfl,by omega,?_,hC.push hd.1 hy (.base (Yb g9)),fun x hx=>?_⟩
   ·rw[Ym,<-map_splice _ (by omega)];exact hs
   ·rw[take_snoc g9] at hx;rw[Yk] at hx ⊢;exact hx.imp (hT x) id
  ·have hyt:y=true:=bT c2;subst hyt;refine⟨_,by omega,i+1,D,T,by rw[w64 (by omega) (by omega)];omega,rfl,by omega,hs,hC,fun x hx=>?_⟩;rw[take_snoc g9,Yk,Ye] at hx;rcases hx with hx | rfl
   ·exact hT x hx
   ·exact (hC.mem x).2 ⟨hd.1,hy⟩
 ·have hlT:∀x∈l,x∈T:=fun x hx=>hT x (by rw[Yj (by omega)];exact hx);clear hT;refine⟨fun todo x h' m=>∃(i:Nat) (D:List Bool) (T:List Int),x=i/\m=g.n.toNat-i/\i<=T.length/\St h h' [.sl todo 3 1 (T.map inC),.blk h.size (D.map Value.bool) 4]/\CL g.es role g.n.toNat l D T/\(∀x∈l,x∈T)/\∀v∈T.take i,∀b∈quietL g.es role v.toNat,b∈T,⟨_,0,D,T,rfl,rfl,by omega,hs,hC,hlT,fun v hv=>by rw[Yyk] at hv;cases hv⟩,?_⟩;clear hs hC htl hle hDl hlT;rintro-todo_22 _ h24 m ⟨i,D,T,rfl,rfl,hi,hs,hC,hlT,hcl⟩;have htl:=(hs.rows 0 rfl (by omega)).ln;have hle:=hC.le;refine sBi (fun c2=>?_) (fun c2=>?_)
  ·refine⟨_,(atC_ext hs.ext h2).nth 9 rfl,?_⟩;refine (hs.rows 0 rfl (by omega)).nbI (by omega) (by omega) fun b26 o27 v g26 t26=>?_;replace g26:T[i]?=some v:=g26;have hvm:=(hC.mem v).1 (Yb g26);have hvl:v.toNat<g.n.toNat:=by have:=(Ya.1 hvm.2).1;have:=hC.len;omega
   refine⟨_,t26.hd,?_⟩;refine (h5.ext hs.ext).nbI (by omega) (by omega) fun b29 o30 k g29 t29=>?_;have hk:k=v.toNat:=by rw[Yyb hvl] at g29;exact (Yyp g29).symm
   subst hk;refine⟨_,t29.hd,?_⟩;have hrow:=h7 v.toNat hvl;have hrn:=hrow.ln;have hqb:∀x∈quietL g.es role v.toNat,0<=x/\x<g.n:=fun x hx=>by
    obtain⟨e,he,_,_,rfl⟩:=quietL_mem.1 hx;have:=hE e he;unfold EdS at this;omega
   have hql:(quietL g.es role v.toNat).length<=400:=Yys (List.length_filterMap_le _ _) hV.num.m;refine⟨fun todo x h' m=>∃(j:Nat) (D:List Bool) (T':List Int),x=j/\m=(qs v.toNat).n-j/\j<=(qs v.toNat).n/\St h h' [.sl todo 3 1 (T'.map inC),.blk h.size (D.map Value.bool) 4]/\CL g.es role g.n.toNat l D T'/\(∃R,T'=T++R)/\∀b∈(quietL g.es role v.toNat).take j,b∈T',⟨_,0,D,T,rfl,rfl,by omega,hs,hC,⟨[],by simp⟩,fun v hv=>by rw[Yyk] at hv;cases hv⟩,?_⟩;clear hs hC htl hle;rintro-todo_35 _ h37 m ⟨j,D,T',rfl,rfl,hj,hs,hC,⟨R,rfl⟩,hcl2⟩;have htl:=(hs.rows 0 rfl (by omega)).ln;have hle:=hC.le;have hDl:=hC.len;refine sBi (fun c3=>?_) (fun c3=>?_)
   ·refine (hrow.ext hs.ext).nbI (by omega) (by omega) fun b38 o39 y g38 t38=>?_;replace g38:(quietL g.es role v.toNat)[j]?=some y:=g38;have hy:=hqb y (Yb g38);refine⟨_,t38.hd,⟨by omega,by omega⟩,?_⟩;obtain⟨z,hz⟩:=get_some (l:=D) (i:=y.toNat) (by omega);have e0:0+Int.toNat y*1=y.toNat:=by omega
    rw[e0];refine⟨_,hs.rd 1 rfl (by rw[map_get,hz];rfl),?_⟩;refine sB_intro (fun c4=>?_) (fun c4=>?_)
    ·have hzf:z=false:=bF c4;subst hzf;refine⟨⟨by omega,by omega⟩,?_⟩;refine hs.put 1 rfl (o:=y.toNat) (vs:=[.bool true]) rfl (by rw[Yc,Yv];omega) fun h42 hs=>?_;refine hs.app 0 rfl app42 (m:=1) [[.int .i64 y]] rfl rfl (by simp) rfl (by omega) (by simp only[maxLen];omega) fun s44 h45 ns44 hs=>?_;have hqr:Qr g.es role l y:=by
      obtain⟨e,he,h9,h10,rfl⟩:=quietL_mem.1 (Yb g38);exact .step (hC.r v (by rw[Yk];exact .inl (Yb g26))) ⟨e,he,h9,by omega,rfl⟩
     refine⟨_,by omega,j+1,D.set y.toNat true,T++R++[y],by rw[w64 (by omega) (by omega)];omega,rfl,by omega,?_,hC.push hy.1 hz hqr,⟨R++[y],by rw[Yz]⟩,fun x hx=>?_⟩
     ·rw[Ym,<-map_splice _ (by omega)];exact hs
     ·rw[take_snoc g38] at hx;rw[Yk] at hx ⊢;exact hx.imp (hcl2 x) id
    ·have hzt:z=true:=bT c4;subst hzt;refine⟨_,by omega,j+1,D,T++R,by rw[w64 (by omega) (by omega)];omega,rfl,by omega,hs,hC,⟨R,rfl⟩,fun x hx=>?_⟩;rw[take_snoc g38,Yk,Ye] at hx;rcases hx with hx | rfl
     ·exact hcl2 x hx
     ·exact (hC.mem x).2 ⟨hy.1,hz⟩
   ·rw[Yj (by omega)] at hcl2;have hil:=(Ya.1 g26).1;rw[Yh] at hle;refine⟨_,by omega,i+1,D,T++R,by rw[w64 (by omega) (by omega)];omega,rfl,by rw[Yh];omega,hs,hC,fun x hx=>by rw[Yk];exact .inl (hlT x hx),fun w hw b hb=>?_⟩;rw[Yyq (by omega),take_snoc g26,Yk,Ye] at hw;rcases hw with hw | rfl
    ·rw[Yk];exact .inl (hcl w hw b hb)
    ·exact hcl2 b hb
  ·rw[Yj (by omega)] at hcl;refine (make55 T todo_22 h24 (hs.rows 0 rfl (by omega)) (by omega)).mono ?_;rintro _ h51 ⟨E,c,k,ws,rfl,hc,ho,hS⟩;refine⟨⟨some ⟨c,0,none⟩,k,k⟩,rfl,(hs.step E).ext,c,k,ws,rfl,Yys hs.ext.1 hc,ho,hS.congr ?_⟩
   funext j
   rw[Bool.eq_iff_iff,decide_eq_true_eq,clo_iff,hC.end_ hlT hcl];refine⟨fun h=>h.1,fun h=>⟨h,?_⟩⟩;have:=(hC.mem (j:Int)).1 ((hC.end_ hlT hcl _).2 h);have h9:=(Ya.1 this.2).1;have h10:=hC.len;omega
end Go.VC
end

section
/- Contracts: after, events, First. -/
namespace Go.VC
open Go.Proofs Go.LexS

theorem evrows (L:List Ev):∀r∈L.map Ev.cs,r.length=3:=fun r hr=>by obtain⟨x,_,rfl⟩:=Yp.1 hr;rfl
theorem app151:appB Pz 324 327 3 24=true:=by kernel_rfl
theorem nan151 (x:Int) (h:Heap):Fn Pz 162 #[.int .i64 x] h fun v h'=>v=.bool false/\h'=h:=by
 apply vc162;unfold W162;exact⟨by rw[bne_self_eq_false],rfl⟩
theorem cmp110 (x y:Int) (h:Heap):Fn Pz 110 #[.int .i64 x,.int .i64 y] h fun v h'=>v=.int .i64 (cmpI x y)/\h'=h:=by
 apply vc110;unfold W110;refine (nan151 x h).mono ?_;rintro _ _ ⟨rfl,rfl⟩;refine⟨_,rfl,?_⟩;refine (nan151 y _).mono ?_;rintro _ _ ⟨rfl,rfl⟩;refine⟨_,rfl,?_⟩;refine sB_f rfl (sB_f rfl ?_);unfold cmpI;refine sBi (fun c=>?_) (fun c=>sBi (fun d=>?_) (fun d=>?_))
 ·exact⟨by rw[if_pos c],rfl⟩
 ·exact⟨by rw[if_neg c,if_pos d],rfl⟩
 ·exact⟨by rw[if_neg c,if_neg d],rfl⟩
theorem or109 (l:List Int) (s:Sl) (h:Heap) (hr:Rw h 1 s (l.map inC)) (hm:l.length<=1048576) :
  Fn Pz 109 #[.slice s.a s.n s.c] h fun v h'=>v=.int .i64 (l.foldr orI3 0)/\h'=h:=by
 apply vc109;unfold W109;have hn:=hr.ln;refine up_loop (n:=s.n) (fun i h'=>h'=h/\l.foldr orI3 0=(l.drop i).foldr orI3 0) ⟨rfl,rfl⟩ ?_;rintro-i h5 hi ⟨rfl,hq⟩;refine sB_intro (fun l2=>?_) (fun l2=>?_)
 ·replace l2:=lt_t l2;refine hr.nbI (by omega) (by omega) fun b o d g t=>?_;replace g:l[i]?=some d:=g;have hd:l.drop i=d::l.drop (i+1):=by
   obtain⟨hl,he⟩:=Ya.1 g;rw[List.drop_eq_getElem_cons hl,he]
  rw[hd,List.foldr_cons] at hq;refine⟨_,t.hd,?_⟩;refine sBn (fun c=>?_) (fun c=>?_)
  ·refine⟨?_,rfl⟩;rw[hq];unfold orI3;rw[if_pos c]
  ·refine Up.next l2 (by omega) ⟨rfl,?_⟩;rw[hq];unfold orI3;rw[if_neg (by omega)]
 ·replace l2:=lt_f l2;rw[List.drop_eq_nil_of_le (by omega)] at hq;exact⟨by rw[hq];rfl,rfl⟩
theorem compare138 (x y:Ev) (h:Heap):Fn Pz 271 #[.agg ⟨x.cs⟩,.agg ⟨y.cs⟩] h fun v h'=>v=.int .i64 (cmpE x y)/\Ext h h':=by
 apply vc271 x.send x.peer x.label y.send y.peer y.label;unfold W271;have hs:=St.refl h;refine hs.newb fun h7 hs=>?_;refine hs.newb fun h8 hs=>?_;refine⟨_,hs.rd 1 rfl rfl,?_⟩;refine⟨_,hs.rd 0 rfl rfl,?_⟩;refine sB_intro (fun c=>?_) (fun c=>?_)
 ·have hne:x.send≠y.send:=by simpa using c
  refine⟨_,hs.rd 1 rfl rfl,?_⟩;unfold cmpE;rw[if_pos hne];refine sB_intro (fun d=>?_) (fun d=>?_)
  ·exact⟨by rw[if_pos d],hs.ext⟩
  ·exact⟨by rw[if_neg (by rw[d];simp)],hs.ext⟩
 ·have he:x.send=y.send:=by simpa using c
  refine⟨_,hs.rd 1 rfl rfl,_,hs.rd 0 rfl rfl,_,hs.rd 1 rfl rfl,_,hs.rd 0 rfl rfl,?_⟩;refine (cmp110 _ _ _).mono ?_;rintro _ _ ⟨rfl,rfl⟩;refine⟨_,rfl,fun _ _ _ _ hv=>hv,?_⟩;refine (cmp110 _ _ _).mono ?_;rintro _ _ ⟨rfl,rfl⟩;refine⟨_,rfl,fun _ _ _ _ hv=>hv,?_⟩;refine hs.newb fun h22 hs=>?_;have hs2:=hs.blkS 2 1 ([cmpI x.peer y.peer,cmpI x.label y.label].map inC) rfl (inrows _) rfl (by decide);refine (or109 [cmpI x.peer y.peer,cmpI x.label y.label] _ h22 (hs2.rows 0 rfl (by omega)) (show 2<=1048576 by decide)).mono ?_;rintro _ _ ⟨rfl,rfl⟩;refine⟨_,rfl,?_,hs.ext⟩;unfold cmpE;rw[if_neg (by simpa using he)];show Value.int .i64 (orI3 _ (orI3 _ 0))=_;congr 1;unfold orI3;split
  ·rfl
  ·split<;>omega
theorem elems_snoc {α:Type} {f:Nat->List α} (L:List Nat) {i:Nat} {n:Nat} (h:L[i]?=some n):(L.take (i+1)).flatMap f=(L.take i).flatMap f++f n:=by
 rw[take_snoc h,List.flatMap_append,List.flatMap_singleton]
theorem vis_total (es:List Ed) (role:Int):∀(l:List Nat),l.Nodup->(l.flatMap fun n=>visL es role n).length<=es.length
 | l,hl=>by
  induction es with
  | nil=>
   have key:∀l:List Nat,(l.flatMap fun n=>visL [] role n)=[]:=by
    intro l
    induction l with
    | nil=>rfl
    | cons a l ih=>rw[List.flatMap_cons,ih];rfl
   rw[key];exact Yyt _
  | cons x es ih=>
   have h1:∀n,(visL (x::es) role n).length=(visL es role n).length+(if x.f=(n:Int) then (if (vis1 role x).isSome then 1 else 0) else 0):=fun n=>by
    unfold visL;rw[List.filterMap_cons];by_cases h:x.f=(n:Int)
    ·rw[if_pos h,if_pos h];cases vis1 role x<;>simp
    ·rw[if_neg h,if_neg h];rfl
   have h2:∀l:List Nat,l.Nodup->(l.flatMap fun n=>visL (x::es) role n).length<=(l.flatMap fun n=>visL es role n).length+1:=by
    intro l hl;have h3:∀l:List Nat,l.Nodup->(l.flatMap fun n=>visL (x::es) role n).length<=(l.flatMap fun n=>visL es role n).length+(if x.f.toNat∈l then 1 else 0):=by
     intro l
     induction l with
     | nil=>simp
     | cons a l ihl=>
      intro hnd;obtain⟨hna,hnd⟩:=List.nodup_cons.1 hnd;have h4:=ihl hnd;rw[List.flatMap_cons,List.flatMap_cons,Yh,Yh,h1];by_cases hx:x.f=(a:Int)
      ·have hxa:x.f.toNat=a:=by omega
       rw[hxa,if_neg hna] at h4;rw[if_pos hx,hxa,if_pos (Yx:a∈a::l)];split<;>omega
      ·rw[if_neg hx];have:(if x.f.toNat∈l then 1 else 0)<=(if x.f.toNat∈a::l then 1 else 0):=by
        split
        ·rw[if_pos (by simp_all)];omega
        ·omega
       omega
    have:=h3 l hl;split at this<;>omega
   have:=h2 l hl;rw[Yyj];omega
theorem elems_nodup (p:Nat->Bool):(elems p).Nodup:=List.Nodup.sublist List.filter_sublist List.nodup_range
theorem take_flat_le {es:List Ed} {role:Int} {p:Nat->Bool} (i j n:Nat) (h:(elems p)[i]?=some n):(((elems p).take i).flatMap (visL es role)).length+((visL es role n).take j).length<=es.length:=by
 have h1:=vis_total es role ((elems p).take (i+1)) ((elems_nodup p).sublist (List.take_sublist _ _));rw[elems_snoc (f:=visL es role) _ h,Yh] at h1;rw[Yu];omega
theorem flat_map_len {α β:Type} (L:List Nat) (f:Nat->List α) (g:α->β):(L.flatMap fun n=>(f n).map g).length=(L.flatMap f).length:=by
 induction L with
 | nil=>rfl
 | cons a L ih=>rw[List.flatMap_cons,List.flatMap_cons,Yh,Yh,ih,Yc]
theorem flat_filter_len {α β:Type} (L:List Nat) (f:Nat->List α) (g:α->Option β):(L.flatMap fun n=>(f n).filterMap g).length<=(L.flatMap f).length:=by
 induction L with
 | nil=>simp
 | cons a L ih=>
  rw[List.flatMap_cons,List.flatMap_cons,Yh,Yh];have:=List.length_filterMap_le g (f a);omega
end Go.VC
end

section
/- Contracts: after, events. -/
namespace Go.VC
open Go.Proofs Go.LexS

theorem elems_get {p:Nat->Bool} {i:Nat} {d:Int} (g:((elems p).map fun n:Nat=>(n:Int))[i]?=some d):∃n:Nat,(elems p)[i]?=some n/\d=n:=by
 rw[Yd] at g;obtain⟨n,hn,rfl⟩:=Yya.1 g;exact⟨n,hn,rfl⟩
theorem range_get {n k d:Nat} (g:(List.range n)[k]?=some d):d=k:=by
 have hl:=(Ya.1 g).1;rw[Yyd] at hl;rw[Yyb hl] at g;exact (Yyp g).symm
set_option maxHeartbeats 1000000 in
theorem events87 (g:Gl) (role:Int) (b:Nat) (p:Nat->Bool) (s:Sl) (h:Heap) (hl:LkI h ⟨b,0,none⟩ g role) (hV:ValidS g) (hx:Gx h) (hs0:SetV h s p) (hp:∀j,p j=true->(j:Int)<g.n) :
  Fn Pz 217 #[.pointer (some ⟨b,0,none⟩),.slice s.a s.n s.c] h fun v h'=>Ext h h'/\∃r:Sl,v=.slice r.a r.n r.c/\OwnS h' h.size 327 3 r ((evs g.es role p).map Ev.cs).flatten:=by
 apply vc217;unfold W217;have hs:=St.refl h;have hm4:=hV.num.m;obtain⟨hq,hv,qs,vs,h1,h2,h3,h4,h5,h6,h7,h8⟩:=hl.ex;clear hl;refine (list42 p s h hx hs0).mono ?_;rintro _ hA ⟨EA,lst,rfl,ho⟩;replace hs:=hs.gift EA ho (inrows _);refine⟨_,rfl,?_⟩;have hln:=(hs.rows 0 rfl (by omega)).ln;rw[Yc] at hln;have hel:(elems p).length<=4096:=Yys (List.length_filter_le _ _) (by rw[Yyd];omega);have hs:=hs.nil_ 327 3;refine up_loopA (n:=lst.n) hs (fun i rows=>rows=(((elems p).take i).flatMap fun n=>(visL g.es role n).map (·.x)).map Ev.cs) rfl ?_;rintro-i out h9 rows hi hs rfl;refine sB_intro (fun l=>?_) (fun l=>?_)
 ·replace l:=lt_t l;refine (hs.rows 1 rfl (by omega)).nbI (by omega) (by omega) fun b10 o11 d10 g10 t10=>?_;obtain⟨n,hn,rfl⟩:=elems_get (i:=i) g10;refine⟨_,t10.hd,?_⟩;have hpn:=hp n (elems_mem.1 (Yb hn)).2;refine⟨_,(atC_ext hs.ext h2).nth 10 rfl,?_⟩;refine (h6.ext hs.ext).nbI (by omega) (by omega) fun b14 o15 k g14 t14=>?_;have hk:=range_get g14;rw[show ((n:Int)).toNat=n from rfl] at hk;subst hk;refine⟨_,t14.hd,?_⟩;have hrow:=h8 k (by omega);have hrn:=hrow.ln;have hvl:(visL g.es role k).length<=g.es.length:=List.length_filterMap_le _ _;refine up_loopA (n:=(vs k).n) hs (fun j rows=>rows=((((elems p).take i).flatMap fun n=>(visL g.es role n).map (·.x))++((visL g.es role k).take j).map (·.x)).map Ev.cs) (by simp) ?_;rintro-j out2 h22 rows2 hj hs rfl;refine sB_intro (fun l2=>?_) (fun l2=>?_)
  ·replace l2:=lt_t l2;refine (hrow.ext hs.ext).nbI (by omega) (by omega) fun b23 o24 a g23 t23=>?_;replace g23:(visL g.es role k)[j]?=some a:=g23;refine⟨_,_,_,_,t23,?_⟩;refine hs.newput (vs:=a.cs) rfl rfl fun h30 hs=>?_;refine⟨_,_,_,hs.at 0 rfl (n:=3) rfl,?_⟩;have hlen:=(hs.len 1 rfl (by omega)).1;rw[Yc,Yh,Yc,flat_map_len] at hlen;have hle:=take_flat_le (es:=g.es) (role:=role) i j k hn;refine hs.app 1 rfl app151 (m:=1) [a.x.cs] rfl rfl (fun r hr=>by rw[Ye] at hr;rw[hr];rfl) rfl (by omega) (by simp only[maxLen];omega) fun s35 h36 ns35 hs=>?_;refine UpA.next l2 (by omega) ⟨_,hs.drop 1,?_⟩;rw[take_snoc g23,Ym,Ym,Ym,Ym,Yz];rfl
  ·replace l2:=lt_f l2;refine UpA.next l (by omega) ⟨_,hs,?_⟩;rw[Yj (l:=visL g.es role k) (by omega),elems_snoc _ hn]
 ·replace l:=lt_f l;rw[Yj (by omega)] at hs;have hvt:((elems p).flatMap fun n=>(visL g.es role n).map (·.x)).length<=1048576:=by
   rw[flat_map_len];exact Yys (vis_total g.es role (elems p) (elems_nodup p)) (by omega)
  refine (sort137 hs 0 rfl hvt).mono ?_;rintro _ h40 ⟨rfl,l',hperm,hsrt,hs⟩;refine⟨rfl,?_⟩;refine (compact139 hs 0 rfl (by rw[hperm.length_eq];exact hvt)).mono ?_;rintro _ h43 ⟨r,rfl,hs⟩;refine⟨_,rfl,hs.ext,r,rfl,?_⟩;have:=hs.give 0 rfl;rw[compact_sortE hperm hsrt] at this;exact this
set_option maxHeartbeats 1000000 in
theorem after56 (g:Gl) (role:Int) (b:Nat) (p:Nat->Bool) (x:Ev) (s:Sl) (h:Heap) (hl:LkI h ⟨b,0,none⟩ g role) (hV:ValidS g) (hx:Gx h) (hs0:SetV h s p) (hp:∀j,p j=true->(j:Int)<g.n) :
  Fn Pz 218 #[.pointer (some ⟨b,0,none⟩),.slice s.a s.n s.c,.agg ⟨x.cs⟩] h fun v h'=>Ext h h'/\∃(c k:Nat) (ws:List Nat),v=.slice (some ⟨c,0,none⟩) k k/\h.size<=c/\Own h' c (ws.map wC).flatten 181/\SI ws k (clo g.es role (toL g.es role p x)):=by
 apply vc218 ⟨b,0,none⟩ s x.send x.peer x.label;unfold W218;have hs:=St.refl h;have hm4:=hV.num.m;have hE:=hV.num.e;have hl0:=hl;obtain⟨hq,hv,qs,vs,h1,h2,h3,h4,h5,h6,h7,h8⟩:=hl.ex;clear hl;refine hs.newb fun h4' hs=>?_;refine (list42 p s h4' (hx.ext hs.ext) (hs0.ext hs.ext)).mono ?_;rintro _ hA ⟨EA,lst,rfl,ho⟩;replace hs:=hs.gift EA ho (inrows _);refine⟨_,rfl,?_⟩;have hln:=(hs.rows 0 rfl (by omega)).ln;rw[Yc] at hln;have hel:(elems p).length<=4096:=Yys (List.length_filter_le _ _) (by rw[Yyd];omega);have hs:=hs.nil_ 3 1;refine up_loopA (n:=lst.n) hs (fun i rows=>rows=(((elems p).take i).flatMap fun n=>(visL g.es role n).filterMap fun a=>if a.x=x then some a.to else none).map inC) rfl ?_;rintro-i out h13 rows hi hs rfl;refine sB_intro (fun l=>?_) (fun l=>?_)
 ·replace l:=lt_t l;refine (hs.rows 1 rfl (by omega)).nbI (by omega) (by omega) fun b10 o11 d10 g10 t10=>?_;obtain⟨n,hn,rfl⟩:=elems_get (i:=i) g10;refine⟨_,t10.hd,?_⟩;have hpn:=hp n (elems_mem.1 (Yb hn)).2;refine⟨_,(atC_ext hs.ext h2).nth 10 rfl,?_⟩;refine (h6.ext hs.ext).nbI (by omega) (by omega) fun b14 o15 k g14 t14=>?_;have hk:=range_get g14;rw[show ((n:Int)).toNat=n from rfl] at hk;subst hk;refine⟨_,t14.hd,?_⟩;have hrow:=h8 k (by omega);have hrn:=hrow.ln;have hvl:(visL g.es role k).length<=g.es.length:=List.length_filterMap_le _ _;refine up_loopA (n:=(vs k).n) hs (fun j rows=>rows=((((elems p).take i).flatMap fun n=>(visL g.es role n).filterMap fun a=>if a.x=x then some a.to else none)++((visL g.es role k).take j).filterMap fun a=>if a.x=x then some a.to else none).map inC) (by simp) ?_;rintro-j out2 h26 rows2 hj hs rfl;refine sB_intro (fun l2=>?_) (fun l2=>?_)
  ·replace l2:=lt_t l2;refine (hrow.ext hs.ext).nbI (by omega) (by omega) fun b23 o24 a g23 t23=>?_;replace g23:(visL g.es role k)[j]?=some a:=g23;refine⟨_,_,_,_,t23,?_⟩;refine hs.newput (vs:=a.cs) rfl rfl fun h30 hs=>?_;refine⟨_,_,_,hs.at 0 rfl (n:=3) rfl,?_⟩;refine⟨_,_,_,hs.at 3 rfl (n:=3) rfl,?_⟩;have hdec:((a.x.send==x.send)&&((a.x.peer==x.peer)&&((a.x.label==x.label)&&true)))=decide (a.x=x):=by
    rw[Bool.eq_iff_iff,decide_eq_true_eq];simp only[Yt,beq_iff_eq,and_true];exact⟨fun ⟨e1,e2,e3⟩=>ev_ext e1 e2 e3,fun e=>by rw[e];exact⟨rfl,rfl,rfl⟩⟩
   rw[hdec];have hlen:=(hs.len 1 rfl (by omega)).1;rw[Yc,Yh] at hlen;have hf1:=flat_filter_len ((elems p).take i) (visL g.es role) (fun a:Ar=>if a.x=x then some a.to else none);have hf2:=List.length_filterMap_le (fun a:Ar=>if a.x=x then some a.to else none) ((visL g.es role k).take j);have hle:=take_flat_le (es:=g.es) (role:=role) i j k hn;refine sBi (fun c=>?_) (fun c=>?_)
   ·refine⟨_,hs.rd 0 rfl rfl,?_⟩;refine hs.app 1 rfl app42 (m:=1) [inC a.to] rfl rfl (fun r hr=>by rw[Ye] at hr;rw[hr];rfl) rfl (by omega) (by simp only[maxLen];omega) fun s35 h36 ns35 hs=>?_;refine UpA.next l2 (by omega) ⟨_,hs.drop 1,?_⟩;rw[take_snoc g23,List.filterMap_append,Ym,Ym,Ym,Yz];simp[c]
   ·refine UpA.next l2 (by omega) ⟨_,hs.drop 1,?_⟩;rw[take_snoc g23,List.filterMap_append];simp[c]
  ·replace l2:=lt_f l2;refine UpA.next l (by omega) ⟨_,hs,?_⟩;rw[Yj (l:=visL g.es role k) (by omega),elems_snoc _ hn]
 ·replace l:=lt_f l;rw[Yj (by omega)] at hs;have hf1:=flat_filter_len (elems p) (visL g.es role) (fun a:Ar=>if a.x=x then some a.to else none);have hf2:((elems p).flatMap (visL g.es role)).length<=g.es.length:=vis_total g.es role (elems p) (elems_nodup p);refine (closed53 g role b (toL g.es role p x) out h13 (hl0.ext hs.ext) hV (hs.rows 0 rfl (by omega)) (fun y hy=>?_) (by unfold toL;omega)).mono ?_
  ·unfold toL at hy;obtain⟨n,_,hy⟩:=List.mem_flatMap.1 hy;obtain⟨a,ha,hy⟩:=Yym.1 hy;unfold visL at ha;obtain⟨e,he,ha⟩:=Yym.1 ha;have hEe:=hE e he;unfold EdS at hEe;split at ha
   ·obtain⟨ev,_,rfl⟩:=Yya.1 ha;split at hy
    ·have:e.t=y:=Yyp hy;omega
    ·cases hy
   ·cases ha
  ·rintro _ h50 ⟨E,c,k,ws,rfl,hc,ho,hS⟩;exact⟨⟨some ⟨c,0,none⟩,k,k⟩,rfl,(hs.step E).ext,c,k,ws,rfl,Yys hs.ext.1 hc,ho,hS⟩
end Go.VC
end

section
/- Contract: the first events of a state. -/
namespace Go.VC
open Go.Proofs Go.LexS

def aC (role:Int) (x:Ev):List Value:=[.int .i64 role,.bool x.send,.int .i64 x.peer,.int .i64 x.label,.slice none 0 0]
theorem app56:appB Pz 333 125 5 56=true:=by kernel_rfl
theorem full194 (x:Ev) (role:Int) (h:Heap):Fn Pz 306 #[.agg ⟨x.cs⟩,.int .i64 role] h fun v h'=>v=.agg ⟨aC role x⟩/\Ext h h':=by
 apply vc306 x.send x.peer x.label role;unfold W306;have hs:=St.refl h;refine hs.newb fun h4 hs=>?_;refine hs.newb fun h5 hs=>?_;refine⟨_,hs.rd 1 rfl rfl,?_⟩;refine⟨_,hs.rd 1 rfl rfl,?_⟩;refine⟨_,hs.rd 1 rfl rfl,?_⟩;refine hs.put 0 rfl (o:=0) (vs:=aC role x) rfl (show 5<=5 by decide) fun h9 hs=>?_;refine⟨_,_,_,_,⟨none,0,0⟩,hs.at 0 rfl (n:=5) rfl,rfl,hs.ext⟩
theorem full140 (g:Gl) (role:Int) (b:Nat) (l:List Ev) (s:Sl) (h:Heap) (hl:LkI h ⟨b,0,none⟩ g role) (hr:Rw h 3 s (l.map Ev.cs)) (hm:l.length<=1048576) :
  Fn Pz 273 #[.pointer (some ⟨b,0,none⟩),.slice s.a s.n s.c] h fun v h'=>Ext h h'/\∃r:Sl,v=.slice r.a r.n r.c/\OwnS h' h.size 125 5 r ((l.map (aC role)).flatten):=by
 apply vc273;unfold W273;have hs:=(St.refl h).nil_ 125 5;have hn:=hr.ln;obtain⟨hq,hv,qs,vs,h1,h2,_⟩:=hl.ex;refine up_loopA (n:=s.n) hs (fun i rows=>rows=(l.take i).map (aC role)) rfl ?_;rintro-i out h6 rows hi hs rfl;refine sB_intro (fun l2=>?_) (fun l2=>?_)
 ·replace l2:=lt_t l2;refine (hr.ext hs.ext).nbI (by omega) (by omega) fun b7 o8 x g7 t7=>?_;replace g7:l[i]?=some x:=g7;refine⟨_,_,_,t7,?_⟩;refine hs.newput (vs:=x.cs) rfl rfl fun h13 hs=>?_;refine⟨_,_,_,hs.at 0 rfl (n:=3) rfl,?_⟩;refine⟨_,(atC_ext hs.ext h2).nth 8 rfl,?_⟩;refine (full194 x role h13).mono ?_;rintro _ h24 ⟨rfl,E⟩;replace hs:=hs.step E;refine⟨_,_,_,_,⟨none,0,0⟩,rfl,?_⟩;have hlen:=(hs.len 1 rfl (by omega)).1;rw[Yc,Yu] at hlen;refine hs.app 1 rfl app56 (m:=1) [aC role x] rfl rfl (fun r hr=>by rw[Ye] at hr;rw[hr];rfl) rfl (by omega) (by simp only[maxLen];omega) fun s26 h27 ns hs=>?_;refine UpA.next l2 (by omega) ⟨_,hs.drop 1,?_⟩;rw[take_snoc g7,Ym];rfl
 ·replace l2:=lt_f l2;rw[Yj (by omega)] at hs;exact⟨hs.ext,out,rfl,hs.give 0 rfl⟩
theorem Qr.lt {g:Gl} {role:Int} {l:List Int} (hV:ValidS g) (hl:∀x∈l,0<=x/\x<g.n) {a:Int} (h:Qr g.es role l a):0<=a/\a<g.n:=by
 induction h with
 | base hm=>exact hl _ hm
 | step _ hx _=>
  obtain⟨x,hx,_,_,rfl⟩:=hx;have:=hV.num.e x hx;unfold EdS at this;omega
theorem clo_lt {g:Gl} {role:Int} {l:List Int} (hV:ValidS g) (hl:∀x∈l,0<=x/\x<g.n) (j:Nat) (h:clo g.es role l j=true):(j:Int)<g.n:=((clo_iff.1 h).lt hV hl).2
theorem St.giftB {h0 h h':Heap} {L:List It} (hs:St h0 h L) (E:Ext h h') {c:Nat} {ws:List Nat} (hc:h.size<=c) (ho:Own h' c (ws.map wC).flatten 181):St h0 h' (setB c ws::L):=
 hs.more E (i:=setB c ws) ho fun b hb=>by cases hb;exact hc
theorem evs_le (es:List Ed) (role:Int) (p:Nat->Bool):(evL es role p).length<=es.length:=by
 unfold evL;rw[flat_map_len];exact vis_total es role (elems p) (elems_nodup p)
theorem insE_len (x:Ev):∀l:List Ev,(insE x l).length<=l.length+1
 | []=>by simp[insE]
 | y::r=>by
  rw[insE];split
  ·have:=insE_len x r;simp only[Yyj];omega
  ·split<;>simp
theorem sortE_len (l:List Ev):(sortE l).length<=l.length:=by
 unfold sortE
 induction l with
 | nil=>simp
 | cons a l ih=>rw[List.foldr_cons,Yyj];have:=insE_len a (l.foldr insE []);omega
noncomputable def firstE (g:Gl) (role:Int) (st:Int):List Ev:=evs g.es role (clo g.es role [st])
noncomputable def firstB (g:Gl) (role:Int) (st:Int):Bool:=clo g.es role [st] g.e.toNat
theorem first88 (g:Gl) (role st:Int) (h:Heap) (hg:GI h g) (hx:Gx h) (hV:ValidS g) (hr0:0<=role) (hr1:role<g.rs.length) (hs0:0<=st) (hs1:st<g.n) :
  Fn Pz 219 #[g.v,.int .i64 role,.int .i64 st] h fun v h'=>Ext h h'/\∃r:Sl,v=.tuple ⟨[.slice r.a r.n r.c,.bool (firstB g role st),.int .i64 0]⟩/\OwnS h' h.size 125 5 r (((firstE g role st).map (aC role)).flatten):=by
 apply vc219 (bs g.nm) g.hr g.hd g.n g.s g.e g.he g.ht;unfold W219;have hs:=St.refl h;have hN:=hV.num.n;refine hs.newb fun h9 hs=>?_;refine⟨_,_,_,_,_,_,_,_,hs.at 0 rfl (n:=8) rfl,?_⟩;refine (look52 g role h9 (hg.ext hs.ext) (hx.ext hs.ext)).mono ?_;rintro _ h21 ⟨E21,h1 | h1⟩
 ·exact absurd ⟨hV,hr0,hr1⟩ h1.1
 obtain⟨_,b,hb,rfl,hl⟩:=h1;replace hs:=hs.step E21;refine⟨_,_,rfl,?_⟩;refine sBn (fun c1=>absurd rfl c1) (fun _=>?_);refine sBi (fun c2=>by omega) (fun c2=>?_);refine⟨_,hs.rd 0 rfl rfl,?_⟩;refine sBi (fun c3=>by omega) (fun c3=>?_);refine hs.newbE fun h23 E23 hs=>?_;have hl2:∀x∈[st],0<=x/\x<g.n:=fun x hx=>by rw[Ye] at hx;omega
 have hsl:=hs.blkS 1 1 ([st].map inC) rfl (inrows _) rfl (by decide);refine (closed53 g role b [st] _ h23 (hl.ext E23) hV (hsl.rows 0 rfl (by omega)) hl2 (show 1<=1048576 by decide)).mono ?_;rintro _ h26 ⟨E26,c,k,ws,rfl,hc,ho,hS⟩;replace hs:=hs.giftB E26 hc ho;refine⟨⟨some ⟨c,0,none⟩,k,k⟩,rfl,?_⟩;refine⟨_,hs.rd 2 rfl rfl,?_⟩;refine (events87 g role b _ _ h26 (hl.ext (E23.trans E26)) hV (hx.ext hs.ext) (hS.v ho k) (clo_lt hV hl2)).mono ?_;rintro _ h30 ⟨E30,r,rfl,hor⟩;have hs0:=hs;replace hs:=hs.gift E30 hor (evrows _);refine⟨r,rfl,E30.sm,?_⟩;refine (full140 g role b _ r h30 (hl.ext ((E23.trans E26).trans E30)) (hs.rows 0 rfl (by omega)) (by
  have:=sortE_len (evL g.es role (clo g.es role [st]));have:=evs_le g.es role (clo g.es role [st]);have:=hV.num.m;show (sortE _).length<=_;omega)).mono ?_
 rintro _ h33 ⟨E33,r2,rfl,ho2⟩;refine⟨r2,rfl,E33.sm,?_⟩;refine (has29 (clo g.es role [st]) ⟨some ⟨c,0,none⟩,k,k⟩ g.e h33 ((hS.v ho k).ext (E30.trans E33))).mono ?_;rintro _ _ ⟨rfl,rfl⟩;refine⟨_,rfl,(hs.step E33).ext,r2,?_,ho2.mono hs.ext.1⟩;rw[decide_eq_true (by omega),Bool.true_and];rfl
end Go.VC
end

section
/- Contract: a row of the view table. -/
namespace Go.VC
open Go.Proofs Go.LexS

structure SE where
 b:Nat
 k:Nat
 ws:List Nat
 p:PSet
def SE.hd (e:SE):List Value:=[.slice (some ⟨e.b,0,none⟩) e.k e.k]
def SE.s (e:SE):Sl:=⟨some ⟨e.b,0,none⟩,e.k,e.k⟩
def SE.it (e:SE):It:=setB e.b e.ws
def bC (b:Bool):List Value:=[.bool b]
def TL (tb:Nat) (ge:Nat) (ss fs ars:Sl) (E:List SE) (M:List Mv):List It:=
 [.blk tb [.slice ss.a ss.n ss.c,.slice fs.a fs.n fs.c,.slice ars.a ars.n ars.c] 218,.sl ss 224 1 (E.map SE.hd),.sl fs 4 1 ((E.map fun e=>e.p ge).map bC),.sl ars 116 6 (M.map Mv.cs)]++E.map SE.it
theorem cal85:callable Pz 213=true:=by kernel_rfl
theorem eq85 (a b:Sl) (p q:PSet) (c:Addr) (h:Heap) (ha:SetV h a p) (hb:SetV h b q) (hc0:hc h c=some (.slice b.a b.n b.c)) :
  Fn Pz 213 #[.slice a.a a.n a.c,.pointer (some c)] h fun v h'=>(∃r:Bool,v=.bool r/\(r=true ↔ p=q))/\h'=h:=by
 apply vc213;unfold W213;refine⟨b,hc0,?_⟩;refine (equal86 p q a b h ha hb).mono ?_;rintro _ _ ⟨⟨r,rfl,hr⟩,rfl⟩;exact⟨_,rfl,⟨_,rfl,hr⟩,rfl⟩
theorem idx84 (E:List SE) (q:PSet) (s b:Sl) (c:Addr) (h:Heap) (hr:Rw h 1 s (E.map SE.hd)) (hE:∀e∈E,SetV h e.s e.p) (hb:SetV h b q) (hc0:hc h c=some (.slice b.a b.n b.c)) (hm:E.length<=1048576) :
  Fn Pz 212 #[.slice s.a s.n s.c,.func (.func 213) #[] #[.pointer (some c)]] h fun v h'=>(v=.int .i64 (if rowI (E.map (·.p)) q<E.length then ((rowI (E.map (·.p)) q:Nat):Int) else -1))/\h'=h:=by
 apply vc212;unfold W212;have hn:=hr.ln;refine up_loop (n:=s.n) (fun i h'=>h'=h/\∀(j:Nat) (e:SE),j<i->E[j]?=some e->e.p≠q) ⟨rfl,fun j e hj=>by omega⟩ ?_;rintro-i h5 hi ⟨rfl,hd⟩;refine sB_intro (fun l=>?_) (fun l=>?_)
 ·replace l:=lt_t l;refine hr.nbI (by omega) (by omega) fun b6 o7 e g t=>?_;replace g:E[i]?=some e:=g;refine⟨e.s,t.hd,?_⟩;rw[cal85,cond_true];refine (eq85 e.s b e.p q c h5 (hE e (Yb g)) hb hc0).mono ?_;rintro _ _ ⟨⟨r,rfl,hr2⟩,rfl⟩;refine⟨_,rfl,sB_intro (fun c1=>?_) (fun c1=>?_)⟩
  ·have hq:=hr2.1 c1;have:rowI (E.map (·.p)) q=i:=rowI_first (by rw[Yd,g,<-hq];rfl) fun j p' hj hp'=>by
    rw[Yd] at hp';obtain⟨e',he',rfl⟩:=Yya.1 hp';exact hd j e' hj he'
   exact⟨by rw[this,if_pos (by omega)],rfl⟩
  ·refine Up.next l (by omega) ⟨rfl,fun j e' hj he'=>?_⟩;by_cases e1:j=i
   ·subst e1;rw[g] at he';cases he';intro hp;rw[hr2.2 hp] at c1;cases c1
   ·exact hd j e' (by omega) he'
 ·replace l:=lt_f l;have:¬rowI (E.map (·.p)) q<E.length:=by
   have h1:=rowI_lt (S:=E.map (·.p)) (p:=q);rw[Yc] at h1;rw[h1];intro hm;obtain⟨e,he,hp⟩:=Yp.1 hm;obtain⟨j,hj⟩:=Yf.1 he;exact hd j e (by have:=(Ya.1 hj).1;omega) hj hp
  exact⟨by rw[if_neg this],rfl⟩
theorem app83:appB Pz 216 224 1 24=true:=by kernel_rfl
theorem app30:appB Pz 85 4 1 1=true:=by kernel_rfl
theorem St.oldb {h0 h h':Heap} {L L':List It} (hs:St h0 h L) (hs':St h0 h' L') {b:Nat} (hb:b<h0.size):h'[b]?=h[b]?:=(hs'.ext.2 b hb).trans (hs.ext.2 b hb).symm
theorem TL.set {h0 h:Heap} {A X:List It} {tb ge:Nat} {ss fs ars:Sl} {E:List SE} {M:List Mv} (hs:St h0 h (A++(TL tb ge ss fs ars E M++X))) (hE:∀e∈E,SI e.ws e.k e.p):∀e∈E,SetV h e.s e.p:=by
 intro e he;have hm:e.it∈A++(TL tb ge ss fs ars E M++X):=by
  rw[Yk];right;rw[Yk];left;unfold TL;rw[Yk];right;exact List.mem_map_of_mem he
 have:=(hs.ok _ hm).1;exact (hE e he).v this e.k
set_option maxHeartbeats 1000000 in
theorem row83 {H0 h:Heap} {X:List It} {tb bg ge:Nat} {ss fs ars:Sl} {E:List SE} {M:List Mv} {e:SE} (hs:St H0 h (e.it::(TL tb ge ss fs ars E M++X))) (hE:∀e∈E,SI e.ws e.k e.p) (he:SI e.ws e.k e.p) (hbg:bg<H0.size) (hge:hc h ⟨bg,5,none⟩=some (.int .i64 ge)) (hge2:ge<4096) (hm:E.length<=2000) :
  Fn Pz 211 #[.slice (some ⟨e.b,0,none⟩) e.k e.k,.pointer (some ⟨tb,0,none⟩),.pointer (some ⟨bg,0,none⟩)] h fun v h'=>v=.int .i64 (rowI (E.map (·.p)) e.p:Nat) /\
   ∃(E':List SE) (ss' fs':Sl),St H0 h' (TL tb ge ss' fs' ars E' M++X)/\E'.map (·.p)=rowS (E.map (·.p)) e.p/\∀e∈E',SI e.ws e.k e.p:=by
 apply vc211 e.s;unfold W211;have hsl:=hs.len 2 (s:=ss) (e:=224) (n:=1) rfl (by omega);have hfl:=hs.len 3 (s:=fs) (e:=4) (n:=1) rfl (by omega);rw[Yc] at hsl;rw[Yc,Yc] at hfl;have hge':=hge;refine hs.newbE fun h1 E1 hs=>?_;refine⟨ss,hs.rd 2 rfl rfl,?_⟩;refine (idx84 E e.p ss e.s ⟨h.size,0,none⟩ h1 (hs.rw 3 rfl (by omega)) (TL.set (A:=[_,_]) hs hE) (he.v (hs.get (k:=1) rfl) e.k) (hs.rd 0 rfl rfl) (by omega)).mono ?_;rintro _ h5 ⟨rfl,rfl⟩;refine⟨_,rfl,?_⟩;have hlen:(E.map (·.p)).length=E.length:=Yc _;by_cases hmem:rowI (E.map (·.p)) e.p<E.length
 ·rw[if_pos hmem];refine sB_t (decide_eq_true (by omega)) ⟨rfl,E,ss,fs,hs.drop 2,?_,hE⟩;unfold rowS;rw[if_pos (rowI_lt.1 (by rw[hlen];exact hmem))]
 ·rw[if_neg hmem];have hnm:e.p∉E.map (·.p):=fun hm=>hmem (by have:=rowI_lt.2 hm;omega);refine sB_f (decide_eq_false (by omega)) ?_;have hge5:=hc_ext E1 hge;refine⟨ss,hs.rd 2 rfl rfl,e.s,hs.rd 0 rfl rfl,fs,hs.rd 2 rfl rfl,e.s,hs.rd 0 rfl rfl,_,hge5,?_⟩;refine hs.newbE fun h11 E11 hs11=>⟨E11.sm,?_⟩;refine hs11.appended 4 (rows:=E.map SE.hd) rfl app83 (m:=1) (news:=[e.hd]) (hs11.at 0 rfl (n:=1) rfl) rfl (fun r hr=>by rw[Ye] at hr;rw[hr];rfl) rfl (by omega) (by simp only[maxLen];omega) fun s12 h13 n12 hs13=>?_;refine⟨sm_cons (hs11.oldb hs13 hbg) (sm_cons (hs11.same hs13 1 1 rfl rfl) (sm_cons (hs11.same hs13 3 3 rfl rfl) sm_nil)),?_⟩;refine (has29 e.p e.s ge h13 (he.v (hs13.get (k:=2) rfl) e.k)).mono ?_;rintro _ h16 ⟨rfl,rfl⟩;refine⟨_,rfl,fun _ _ _ _ hv=>hv,?_⟩;have hbb:(decide (0<=((ge:Nat):Int)/\((ge:Nat):Int)<4096)&&e.p ((ge:Nat):Int).toNat)=e.p ge:=by
   rw[decide_eq_true (by omega),Bool.true_and];rfl
  rw[hbb];refine hs13.newbE fun h17 E17 hs17=>⟨E17.sm,?_⟩;refine hs17.appended 6 (rows:=(E.map fun e=>e.p ge).map bC) rfl app30 (m:=1) (news:=[bC (e.p ge)]) (hs17.at 0 rfl (n:=1) rfl) rfl (fun r hr=>by rw[Ye] at hr;rw[hr];rfl) rfl (by omega) (by simp only[maxLen];omega) fun s18 h19 n18 hs19=>?_;refine⟨sm_cons (hs17.same hs19 2 2 rfl rfl) (sm_cons (hs17.same hs19 4 4 rfl rfl) sm_nil),?_⟩;refine hs19.put 4 rfl (o:=0) (vs:=[.slice s12.a s12.n s12.c]) rfl (show 1<=3 by decide) fun h20 hs20=>?_;refine⟨sm_cons (hs19.oldb hs20 hbg) (sm_cons (hs19.same hs20 2 2 rfl rfl) sm_nil),?_⟩;refine hs20.put 4 rfl (o:=1) (vs:=[.slice s18.a s18.n s18.c]) rfl (show 2<=3 by decide) fun h21 hs21=>?_;refine⟨s12,hs21.rd 4 rfl rfl,?_⟩;refine⟨?_,E++[e],s12,s18,?_,?_,fun x hx=>?_⟩
  ·rw[n12,hsl.1,w64 (by omega) (by omega),rowI_of_not hnm,hlen];congr 1;omega
  ·have e1:(E++[e]).map SE.hd=E.map SE.hd++[e.hd]:=by rw[Ym];rfl
   have e2:((E++[e]).map fun e=>e.p ge).map bC=(E.map fun e=>e.p ge).map bC++[bC (e.p ge)]:=by rw[Ym,Ym];rfl
   unfold TL;rw[e1,e2,Ym];have h4:=hs21.drop 3;have h5:St H0 h21 (e.it::([.blk tb [.slice s12.a s12.n s12.c,.slice s18.a s18.n s18.c,.slice ars.a ars.n ars.c] 218,.sl s12 224 1 (E.map SE.hd++[e.hd]),.sl s18 4 1 ((E.map fun e=>e.p ge).map bC++[bC (e.p ge)]),.sl ars 116 6 (M.map Mv.cs)]++E.map SE.it++X)):=h4;refine h5.perm ?_;rw[<-Yz];rw[<-List.cons_append];exact (List.Perm.append_right X (List.perm_append_singleton _ _)).symm
  ·unfold rowS;rw[if_neg hnm,Ym];rfl
  ·rcases Yk.1 hx with hx | hx
   ·exact hE x hx
   ·rw[Ye] at hx;rw[hx];exact he
end Go.VC
end

section
/- Contract: Views. -/
namespace Go.VC
open Go.Proofs Go.LexS

theorem app31:appB Pz 86 116 6 48=true:=by kernel_rfl
theorem St.join {h0 h1 h:Heap} {L1 L2:List It} (hs1:St h0 h1 L1) (hs2:St h1 h L2):St h0 h (L1++L2):=by
 have h3:=hs1.step hs2.ext;refine⟨h3.ext,fun i hi=>?_,List.pairwise_append.2 ⟨h3.ap,hs2.ap,fun i hi j hj b hb hc=>?_⟩⟩
 ·rcases Yk.1 hi with hi | hi
  ·exact h3.ok i hi
  ·exact⟨(hs2.ok i hi).1,fun b hb=>Yys hs1.ext.1 ((hs2.ok i hi).2 b hb)⟩
 ·have h4:=(hs1.ok i hi).1.lt hb;have h5:=(hs2.ok j hj).2 b hc;omega
theorem rowS_mem {S:List PSet} {p q:PSet}:q∈rowS S p ↔ q∈S\/q=p:=by
 unfold rowS;split
 ·rename_i h;constructor
  ·exact .inl
  ·rintro (h1 | rfl)
   ·exact h1
   ·exact h
 ·rw[Yk,Ye]
theorem rowS_len {S:List PSet} {p:PSet}:(rowS S p).length<=S.length+1/\S.length<=(rowS S p).length:=by
 unfold rowS;split
 ·omega
 ·rw[Yh,Yv];omega
theorem rowS_get {S:List PSet} {p q:PSet} {i:Nat} (h:S[i]?=some q):(rowS S p)[i]?=some q:=by
 unfold rowS;split
 ·exact h
 ·rw[Yyi (Ya.1 h).1];exact h
theorem toL_lt {g:Gl} {role:Int} {p:PSet} {x:Ev} (hV:ValidS g):∀y∈toL g.es role p x,0<=y/\y<g.n:=by
 intro y hy;unfold toL at hy;obtain⟨n,_,h2⟩:=List.mem_flatMap.1 hy;obtain⟨a,ha,h3⟩:=Yym.1 h2;unfold visL at ha;obtain⟨e,he,h4⟩:=Yym.1 ha;have:=hV.num.e e he;unfold EdS at this;split at h4
 ·rw[Yya] at h4;obtain⟨_,_,rfl⟩:=h4;split at h3
  ·cases h3;show 0<=e.t/\e.t<g.n;omega
  ·cases h3
 ·cases h4
def TR (ge:Nat) (ss fs ars:Sl) (E:List SE) (M:List Mv):List It:=
 [.sl ss 224 1 (E.map SE.hd),.sl fs 4 1 ((E.map fun e=>e.p ge).map bC),.sl ars 116 6 (M.map Mv.cs)]++E.map SE.it
def sl0:List Value:=[.slice none 0 0,.slice none 0 0,.slice none 0 0]
theorem drop_get {α:Type} {l:List α} {j:Nat} {x:α} (h:l[j]?=some x):l.drop j=x::l.drop (j+1):=by
 obtain⟨h1,h2⟩:=Ya.1 h;rw[<-h2];exact List.drop_eq_getElem_cons h1
theorem evs_len {g:Gl} {role:Int} {p:PSet} (hV:ValidS g):(evs g.es role p).length<=400:=by
 have h1:=sortE_len (evL g.es role p);have h2:=evs_le g.es role p;have h3:=hV.num.m;show (sortE _).length<=400;omega
inductive ViR (g:Gl) (role:Int) (h h':Heap):Value->Prop
 | bad (hn:¬(ValidS g/\0<=role/\role<g.rs.length)):ViR g role h h' (.tuple ⟨[.agg ⟨sl0⟩,.int .i64 1]⟩)
 | limit (hv:ValidS g/\0<=role/\role<g.rs.length) (hn:views g role=none):ViR g role h h' (.tuple ⟨[.agg ⟨sl0⟩,.int .i64 6]⟩)
 | good (hv:ValidS g/\0<=role/\role<g.rs.length) {ss fs ars:Sl} {E:List SE} {M:List Mv} (hn:views g role=some (E.map (·.p),M)) (hs:St h h' (TR g.e.toNat ss fs ars E M)) (hE:∀e∈E,SI e.ws e.k e.p) (hl:E.length<=200) (hp:∀p∈E.map (·.p),∀j:Nat,p j=true->(j:Int)<g.n) (hm:M.length<=80000) :
   ViR g role h h' (.tuple ⟨[.agg ⟨[.slice ss.a ss.n ss.c,.slice fs.a fs.n fs.c,.slice ars.a ars.n ars.c]⟩,.int .i64 0]⟩)
set_option maxHeartbeats 2000000 in
theorem views39 (g:Gl) (role:Int) (h:Heap) (hg:GI h g) (hx:Gx h) :
  Fn Pz 145 #[g.v,.int .i64 role] h fun v h'=>Ext h h'/\ViR g role h h' v:=by
 apply vc145 (bs g.nm) g.hr g.hd g.n g.s g.e g.he g.ht;unfold W145;have hs:=St.refl h;refine hs.newb fun h9 hs=>?_;refine hs.newb fun h10 hs=>?_;refine⟨_,_,_,_,_,_,_,_,hs.at 1 rfl (n:=8) rfl,?_⟩;refine (look52 g role h10 (hg.ext hs.ext) (hx.ext hs.ext)).mono ?_;rintro _ h22 ⟨Eh22,h1 | h1⟩
 ·obtain⟨hn,rfl⟩:=h1;replace hs:=hs.step Eh22;refine⟨_,_,rfl,?_⟩;refine sBn (fun c1=>?_) (fun c1=>by omega);refine hs.put 0 rfl (o:=0) (vs:=sl0) rfl (by decide) fun h23 hs=>?_;refine⟨⟨none,0,0⟩,⟨none,0,0⟩,⟨none,0,0⟩,hs.at 0 rfl (n:=3) rfl,?_⟩;exact⟨hs.ext,.bad hn⟩
 obtain⟨hv,bl,hbl,rfl,hl⟩:=h1;obtain⟨hV,hr0,hr1⟩:=hv;have hs1:=hs.step Eh22;clear hs;have hN:=hV.num.n;have hb9:h.size<h22.size:=hs1.get (k:=1) rfl |>.lt rfl
 refine⟨_,_,rfl,?_⟩;refine sBn (fun c1=>absurd rfl c1) (fun _=>?_);have hs:=St.refl h22;refine hs.newb fun h27 hs=>?_;refine⟨_,(hs1.step hs.ext).rd 1 rfl rfl,?_⟩;refine hs.newb fun h29 hs=>?_;have hl2:∀x∈[g.s],0<=x/\x<g.n:=fun x hx=>by rw[Ye] at hx;omega
 have hsl:=hs.blkS 1 1 ([g.s].map inC) rfl (inrows _) rfl (by decide);refine (closed53 g role bl [g.s] _ h29 (hl.ext hs.ext) hV (hsl.rows 0 rfl (by omega)) hl2 (show 1<=1048576 by decide)).mono ?_;clear hsl;rintro _ h32 ⟨E32,c,k,ws,rfl,hcc,ho,hS⟩;replace hs:=hs.giftB E32 hcc ho;refine⟨⟨some ⟨c,0,none⟩,k,k⟩,rfl,?_⟩;have hs:=(((hs.eras 1).nil_ 116 6).nil_ 4 1).nil_ 224 1;have hge:(g.e:Int)=((g.e.toNat:Nat):Int):=by omega
 have he5:∀ {h':Heap},Ext h22 h'->hc h' ⟨h.size,5,none⟩=some (.int .i64 ((g.e.toNat:Nat):Int)):=fun E=>by rw[<-hge];exact (hs1.step E).rd 1 rfl rfl
 have hs:St h22 h32 ((⟨c,k,ws,clo g.es role [g.s]⟩:SE).it::(TL h22.size g.e.toNat ⟨none,0,0⟩ ⟨none,0,0⟩ ⟨none,0,0⟩ [] []++[])):=
  hs.perm (List.perm_append_comm (l₁:=[_,_,_]) (l₂:=[_,_]))
 refine (row83 (bg:=h.size) hs (fun e he=>by cases he) hS hb9 (he5 hs.ext) (by omega) (by decide)).mono ?_;rintro _ h35 ⟨rfl,E',ss',fs',hs,hE',hSI'⟩;refine⟨_,rfl,?_⟩;have hE1:E'.map (·.p)=[clo g.es role [g.s]]:=by rw[hE'];rw[List.map_nil];unfold rowS;rw[if_neg (by simp)];rfl
 refine⟨fun x h' m=>∃(i:Nat) (ss fs ars:Sl) (E:List SE) (M:List Mv),x=i/\m=201-i/\i<=E.length/\St h22 h' (TL h22.size g.e.toNat ss fs ars E M++[])/\(∀e∈E,SI e.ws e.k e.p) /\
  (∀p∈E.map (·.p),∀j:Nat,p j=true->(j:Int)<g.n)/\E.length<=200/\M.length<=i*400/\views g role=viewsF g.es role (202-i) i (E.map (·.p)) M,⟨_,0,_,_,_,E',[],rfl,rfl,by omega,hs,hSI',?_,?_,by simp,?_⟩,?_⟩
 ·intro p hp j hj;rw[hE1,Ye] at hp;subst hp;exact clo_lt hV hl2 j hj
 ·have:=congrArg List.length hE1;rw[Yc] at this;rw[this];show 1<=200;decide
 ·rw[hE1];rfl
 clear hs hE1 hSI' hE' E' ss' fs';rintro-_ h40 m ⟨i,ss,fs,ars,E,M,rfl,rfl,hi,hs,hSI,hlt,hEl,hM,hvw⟩;have hsl:=hs.len 1 (s:=ss) (e:=224) (n:=1) rfl (by omega);rw[Yc] at hsl;refine⟨ss,hs.rd 0 rfl rfl,?_⟩;refine sBi (fun c2=>?_) (fun c2=>?_)
 ·have hiE:i<E.length:=by omega
  refine⟨ss,hs.rd 0 rfl rfl,?_⟩;refine (hs.rows 1 (cs:=SE.hd) rfl (by omega)).nbI (by omega) (by omega) fun b43 o44 e g43 t43=>?_;replace g43:E[i]?=some e:=g43;have heE:=Yb g43;have hEget:(E.map (·.p))[i]?=some e.p:=by rw[Yd,g43];rfl
  have hep:∀j:Nat,e.p j=true->(j:Int)<g.n:=hlt e.p (Yp.2 ⟨e,heE,rfl⟩);refine⟨e.s,t43.hd,?_⟩;refine (events87 g role bl e.p e.s h40 (hl.ext hs.ext) hV ((hx.ext (hs1.ext.trans hs.ext))) (TL.set (A:=[]) hs hSI e heE) hep).mono ?_;rintro _ h48 ⟨E48,x47,rfl,ho47⟩;replace hs:=hs.gift E48 ho47 (evrows _);refine⟨x47,rfl,?_⟩;have hln:=(hs.rows 0 (cs:=Ev.cs) rfl (by omega)).ln;have hev:=evs_len (g:=g) (role:=role) (p:=e.p) hV;generalize hL:evs g.es role e.p=L at *;refine⟨fun x h' m=>∃(j:Nat) (ss2 fs2 ars2:Sl) (E2:List SE) (M2:List Mv),x=j/\m=x47.n-j/\j<=L.length/\St h22 h' (.sl x47 327 3 (L.map Ev.cs)::(TL h22.size g.e.toNat ss2 fs2 ars2 E2 M2++[]))/\(∀e∈E2,SI e.ws e.k e.p) /\
   (∀p∈E2.map (·.p),∀j:Nat,p j=true->(j:Int)<g.n)/\E2.length<=E.length+j/\M2.length<=M.length+j/\(E2.map (·.p))[i]?=some e.p /\
   arcsF g.es role i e.p L (E.map (·.p)) M=arcsF g.es role i e.p (L.drop j) (E2.map (·.p)) M2,⟨_,0,_,_,_,E,M,rfl,rfl,by omega,hs,hSI,hlt,by omega,by omega,by rw[Yd,g43];rfl,by rw[List.drop_zero]⟩,?_⟩
  clear hs hSI hlt hsl heE g43 t43 c2 ho47 E48 hi;rintro-_ h53 m ⟨j,ss2,fs2,ars2,E2,M2,rfl,rfl,hj,hs,hSI,hlt,hE2l,hM2,hget,harc⟩;have hsl2:=hs.len 2 (s:=ss2) (e:=224) (n:=1) rfl (by omega);rw[Yc] at hsl2;have hEi:i<E2.length:=by have:=(Ya.1 hget).1;rwa [Yc] at this
  refine sBi (fun c3=>?_) (fun c3=>?_)
  ·refine (hs.rows 0 (cs:=Ev.cs) rfl (by omega)).nbI (by omega) (by omega) fun b54 o55 y g54 t54=>?_;replace g54:L[j]?=some y:=g54;refine⟨_,_,_,t54,?_⟩;refine hs.newput (vs:=y.cs) rfl rfl fun h60 hs=>?_;refine⟨ss2,hs.rd 2 rfl rfl,?_⟩;refine (hs.rows 3 (cs:=SE.hd) rfl (by omega)).nbI (by omega) (by omega) fun b62 o63 e2 g62 t62=>?_;replace g62:E2[i]?=some e2:=g62;have he2E:=Yb g62;have hpe:e2.p=e.p:=by rw[Yd,g62] at hget;exact Yyp hget
   refine⟨e2.s,t62.hd,?_⟩;refine⟨_,_,_,hs.at 0 rfl (n:=3) rfl,?_⟩;refine (after56 g role bl e2.p y e2.s h60 (hl.ext hs.ext) hV ((hx.ext (hs1.ext.trans hs.ext))) (TL.set (A:=[_,_]) hs hSI e2 he2E) (hlt e2.p (Yp.2 ⟨e2,he2E,rfl⟩))).mono ?_;rintro _ h70 ⟨E70,c4,k4,ws4,rfl,hc4,ho4,hS4⟩;replace hs:=hs.giftB E70 hc4 ho4;refine⟨⟨some ⟨c4,0,none⟩,k4,k4⟩,rfl,?_⟩;rw[hpe] at hS4;have hs:St h22 h70 ((⟨c4,k4,ws4,clo g.es role (toL g.es role e.p y)⟩:SE).it::(TL h22.size g.e.toNat ss2 fs2 ars2 E2 M2++[.blk h53.size y.cs 327,.sl x47 327 3 (L.map Ev.cs)])):=by
    rw[Yw] at hs;exact hs.perm (List.Perm.cons _ (List.perm_append_comm (l₁:=[_,_])))
   refine (row83 (bg:=h.size) hs hSI hS4 hb9 (he5 hs.ext) (by omega) (by omega)).mono ?_;rintro _ h73 ⟨rfl,E3,ss3,fs3,hs,hE3,hSI3⟩;refine⟨_,rfl,?_⟩;have hs:St h22 h73 (.blk h53.size y.cs 327 :: .sl x47 327 3 (L.map Ev.cs)::TL h22.size g.e.toNat ss3 fs3 ars2 E3 M2):=
    hs.perm (List.perm_append_comm (l₂:=[_,_]))
   refine⟨ars2,hs.rd 2 rfl rfl,?_⟩;refine⟨_,hs.rd 0 rfl rfl,?_⟩;refine⟨_,hs.rd 0 rfl rfl,?_⟩;refine⟨_,hs.rd 0 rfl rfl,?_⟩;have har:=(hs.rows 5 (s:=ars2) (cs:=Mv.cs) rfl (by omega)).ln;refine hs.app 5 rfl app31 (m:=1) [Mv.cs ⟨i,y.send,y.peer,y.label,rowI (E2.map (·.p)) (clo g.es role (toL g.es role e.p y)),false⟩] rfl rfl (fun r hr=>by rw[Ye] at hr;rw[hr];rfl) rfl (by omega) (by simp only[maxLen];omega) fun s79 h80 ns79 hs=>?_;refine hs.put 2 rfl (o:=2) (vs:=[.slice s79.a s79.n s79.c]) rfl (show 3<=3 by decide) fun h81 hs=>?_;have hrl:=rowS_len (S:=E2.map (·.p)) (p:=clo g.es role (toL g.es role e.p y));rw[<-hE3,Yc,Yc] at hrl;refine⟨_,by omega,j+1,ss3,fs3,s79,E3,M2++[⟨i,y.send,y.peer,y.label,rowI (E2.map (·.p)) (clo g.es role (toL g.es role e.p y)),false⟩],by rw[w64 (by omega) (by omega)];omega,rfl,by omega,?_,hSI3,?_,by omega,by rw[Yh,Yv];omega,by rw[hE3];exact rowS_get hget,?_⟩
   ·rw[Yw];unfold TL;rw[Ym];exact hs.drop 1
   ·intro p hp;rw[hE3,rowS_mem] at hp;rcases hp with hp | rfl
    ·exact hlt p hp
    ·exact clo_lt hV (toL_lt hV)
   ·rw[harc,drop_get g54,hE3];rfl
  ·have hjL:L.length<=j:=by omega
   rw[List.drop_eq_nil_of_le hjL] at harc;have harc:arcsF g.es role i e.p L (E.map (·.p)) M=(E2.map (·.p),M2):=harc;have hstep:views g role=if E2.length>200 then none else viewsF g.es role (202-(i+1)) (i+1) (E2.map (·.p)) M2:=by
    rw[hvw,show 202-i=(202-(i+1))+1 by omega,viewsF,hEget];show (if (arcsF g.es role i e.p (evs g.es role e.p) (E.map (·.p)) M).1.length>200 then none else _)=_;rw[hL,harc,Yc]
   refine⟨ss2,hs.rd 1 rfl rfl,?_⟩;refine sBi (fun c4=>?_) (fun c4=>?_)
   ·rw[if_pos (by omega)] at hstep;have hsA:=hs1.step hs.ext;refine hsA.put 0 rfl (o:=0) (vs:=sl0) rfl (by decide) fun h84 hs=>?_;refine⟨⟨none,0,0⟩,⟨none,0,0⟩,⟨none,0,0⟩,hs.at 0 rfl (n:=3) rfl,?_⟩;exact⟨hs.ext,.limit ⟨hV,hr0,hr1⟩ hstep⟩
   ·rw[if_neg (by omega)] at hstep;refine⟨_,by omega,i+1,ss2,fs2,ars2,E2,M2,by rw[w64 (by omega) (by omega)];omega,rfl,by omega,hs.drop 1,hSI,hlt,by omega,by omega,hstep⟩
 ·have hiE:E.length<=i:=by omega
  have hfin:views g role=some (E.map (·.p),M):=by
   rw[hvw,show 202-i=(201-i)+1 by omega,viewsF,Yl (by rw[Yc];exact hiE)]
  refine⟨ss,fs,ars,hs.at 0 rfl (n:=3) rfl,?_⟩;have hsJ:=hs1.join (hs.drop 1);refine hsJ.put 0 rfl (o:=0) (vs:=[.slice ss.a ss.n ss.c,.slice fs.a fs.n fs.c,.slice ars.a ars.n ars.c]) rfl (show 3<=3 by decide) fun h92 hs=>?_;refine⟨ss,fs,ars,hs.at 0 rfl (n:=3) rfl,?_⟩;have hs:=hs.drop 2;rw[show TL h22.size g.e.toNat ss fs ars E M++[]=_ from Yw _] at hs;exact⟨hs.ext,.good ⟨hV,hr0,hr1⟩ hfin hs hSI hEl hlt (by omega)⟩
end Go.VC
end
