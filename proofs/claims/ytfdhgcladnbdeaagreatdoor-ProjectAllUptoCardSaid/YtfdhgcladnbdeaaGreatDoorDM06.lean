/- PjI PjJ PjK PjL PjM PjN PjO PjP PjQ PjR PjS PjT1 PjStubB PjT PjU PjV0. -/
import Derived.Test.YtfdhgcladnbdeaaGreatDoorDM05
import Derived.DeepKeys4
set_option linter.all false
set_option maxRecDepth 100000
set_option maxHeartbeats 8000000

section
namespace Go.VC
open Go.Proofs Go.LexS
theorem word58 (ws:List Nat) (s:Sl) (i:Nat) (h:Heap) (hr:Rw h 1 s (ws.map wC)) (hl:ws.length<=64) :
  Fn Pz 58 #[.slice s.a s.n s.c,.int .i64 i] h fun v h'=>v=.int .u64 ((ws.getD i 0:Nat):Int)/\h'=h:=by
 apply vc58;unfold W58;have hn:=hr.ln;rw[imin_min];refine sBi (fun c1=>?_) (fun c1=>?_)
 .refine hr.nbI (by omega) (by omega) fun b1 o2 d1 g1 t1=>?_;refine⟨_,t1.hd,?_,rfl⟩;rw[Yo,show ws[i]?=some d1 from g1];rfl
 .refine⟨?_,rfl⟩;rw[Yo,Yl (by omega)];rfl
theorem has29 (p:Nat->Bool) (s:Sl) (n:Int) (h:Heap) (hr:SetV h s p) :
  Fn Pz 29 #[.slice s.a s.n s.c,.int .i64 n] h fun v h'=>v=.bool (decide (0<=n/\n<4096)&&p n.toNat)/\h'=h:=by
 apply vc29;unfold W29;obtain⟨ws,h1,h2,h3,h4⟩:=hr.ex;refine sBi (fun c1=>?_) (fun c1=>?_)
 .refine sBi (fun c2=>?_) (fun c2=>?_)
  .obtain⟨m,rfl⟩:=Int.eq_ofNat_of_zero_le c1;refine⟨by omega,?_⟩;have e1:IntKind.wrap .i64 (Int.tdiv (m:Int) 64)=((m/64:Nat):Int):=by
    have:Int.tdiv (m:Int) 64=((m/64:Nat):Int):=rfl;rw[this];exact w64 (by omega) (by omega)
   rw[e1];refine (word58 ws s (m/64) h h1 h2).mono ?_;rintro _ h5 ⟨rfl,rfl⟩;have e2:Int.tmod (m:Int) 64=((m%64:Nat):Int):=rfl;refine⟨_,rfl,by omega,by rw[e2];omega,?_,rfl⟩;rw[e2,bit_has (by
    rw[Yo];cases hw:ws[m/64]? with
    | none=>exact Nat.two_pow_pos 64
    | some w=>exact h3 w (Yb hw)) (by omega)]
   rw[decide_eq_true (by omega),Bool.true_and];have:=h4 m;unfold memB at this;rw[show ((m:Int)).toNat=m from rfl,<-this]
  .exact⟨by rw[decide_eq_false (by omega)];rfl,rfl⟩
 .exact⟨by rw[decide_eq_false (by omega)];rfl,rfl⟩
theorem sub136 (p q:Nat->Bool) (a b:Sl) (h:Heap) (ha:SetV h a p) (hb:SetV h b q) :
  Fn Pz 136 #[.slice a.a a.n a.c,.slice b.a b.n b.c] h fun v h'=>(∃r:Bool,v=.bool r/\(r=true ↔ ∀k,p k=true->q k=true))/\h'=h:=by
 apply vc136;unfold W136;obtain⟨ws,h1,h2,h3,h4⟩:=ha.ex;obtain⟨us,g1,g2,g3,g4⟩:=hb.ex;have hn:=h1.ln;have hlt:∀(l:List Nat),(∀w∈l,w<2^64)->∀i,l.getD i 0<2^64:=fun l hl i=>by
  rw[Yo];cases hw:l[i]? with
  | none=>exact Nat.two_pow_pos 64
  | some w=>exact hl w (Yb hw)
 rw[imin_min,show min (a.n:Int) 64=(a.n:Int) by omega];refine up_loop (n:=a.n) (fun i h'=>h'=h/\∀j,j<i->∀k,k<64->(ws.getD j 0).testBit k=true->(us.getD j 0).testBit k=true) ⟨rfl,fun j hj=>by omega⟩ ?_;rintro-i h5 hi ⟨rfl,hq⟩;refine sB_intro (fun l=>?_) (fun l=>?_)
 .replace l:=lt_t l;refine h1.nbI (by omega) (by omega) fun b6 o7 d6 g6 t6=>?_;replace g6:ws[i]?=some d6:=g6;have hd:d6=ws.getD i 0:=by rw[Yo,g6];rfl
  refine⟨_,t6.hd,?_⟩;refine (word58 us b i h5 g1 g2).mono ?_;rintro _ h11 ⟨rfl,rfl⟩;refine⟨_,rfl,fun _ _ _ _ hv=>hv,?_⟩;have hz:=clr_zero (a:=d6) (b:=us.getD i 0) (h3 _ (Yb g6)) (hlt us g3 i);refine sBn (fun c2=>?_) (fun c2=>?_)
  .refine⟨⟨_,rfl,⟨fun e=>(by cases e),fun hall=>absurd (hz.2 fun k hk hb=>?_) c2⟩⟩,rfl⟩;have:=hall (64*i+k);rw[<-h4,<-g4] at this;unfold memB at this;rw[show (64*i+k)/64=i by omega,show (64*i+k)%64=k by omega] at this;exact this (by rw[<-hd];exact hb)
  .refine Up.next l (by omega) ⟨rfl,fun j hj k hk hb=>?_⟩;by_cases e:j=i
   .subst e;rw[<-hd] at hb;exact hz.1 c2 k hk hb
   .exact hq j (by omega) k hk hb
 .replace l:=lt_f l;refine⟨⟨_,rfl,⟨fun _ k hk=>?_,fun _=>rfl⟩⟩,rfl⟩;rw[<-h4] at hk;rw[<-g4];unfold memB at hk ⊢;by_cases hkl:k/64<i
  .exact hq _ hkl _ (by omega) hk
  .rw[Yo,Yl (by omega)] at hk;simp at hk
theorem equal86 (p q:Nat->Bool) (a b:Sl) (h:Heap) (ha:SetV h a p) (hb:SetV h b q) :
  Fn Pz 86 #[.slice a.a a.n a.c,.slice b.a b.n b.c] h fun v h'=>(∃r:Bool,v=.bool r/\(r=true ↔ p=q))/\h'=h:=by
 apply vc86;unfold W86;refine (sub136 p q a b h ha hb).mono ?_;rintro _ h3 ⟨⟨r,rfl,hr⟩,rfl⟩;refine⟨_,rfl,sB_intro (fun c=>?_) (fun c=>?_)⟩
 .refine (sub136 q p b a h3 hb ha).mono ?_;rintro _ h6 ⟨⟨r2,rfl,hr2⟩,rfl⟩;refine⟨_,rfl,⟨_,rfl,⟨fun h=>?_,fun h=>?_⟩⟩,rfl⟩
  .funext k
   have h1:=hr.1 c k;have h2:=hr2.1 h k;cases hp:p k<;>cases hq:q k<;>simp_all
  .rw[hr2];intro k hk;rw[h];exact hk
 .refine⟨⟨_,rfl,⟨fun h=>(by cases h),fun h=>?_⟩⟩,rfl⟩;rw[<-c,hr];intro k hk;rw[<-h];exact hk
theorem cal101:callable Pz 101=true:=by kernel_rfl
theorem made121 (n:Nat):madeL Pz 121 n=((List.replicate n 0).map wC).flatten:=by
 have e:zeroC Pz 121=[.int .u64 0]:=by kernel_rfl
 unfold madeL;rw[e,List.map_replicate];rfl
theorem wrows (L:List Nat):∀r∈L.map wC,r.length=1:=fun r hr=>by obtain⟨x,_,rfl⟩:=Yp.1 hr;rfl
theorem wflat (ws:List Nat) (i:Nat):((ws.map wC).flatten)[i]?=(ws[i]?).map fun w=>.int .u64 (w:Int):=by
 by_cases h:i<ws.length
 .have:=getElem?_flatten (k:=1) (ws.map wC) i 0 (wC ws[i]) (wrows ws) (by rw[Yd,Yi h];rfl) (by omega);rw[Nat.mul_one,Nat.add_zero] at this;rw[this,Yi h];rfl
 .have hl:((ws.map wC).flatten).length=ws.length:=by rw[flatten_len _ (wrows ws),Yc,Nat.mul_one]
  rw[Yl (by omega),Yl (by omega)];rfl
theorem wsplice {ws:List Nat} {i:Nat} (hi:i<ws.length) (w:Nat):splice ((ws.map wC).flatten) (i*1) [.int .u64 (w:Int)]=((ws.set i w).map wC).flatten:=by
 have:=splice_flat (n:=1) (j:=0) (vs:=[.int .u64 (w:Int)]) (row:=wC ws[i]) (ws.map wC) i (wrows ws) (by rw[Yd,Yi hi];rfl) (by simp);rw[Nat.add_zero] at this;rw[this,List.map_set];rfl
structure SI (ws:List Nat) (k:Nat) (p:Nat->Bool):Prop where
 pl:ws.length<=64
 pk:k<=ws.length
 pw:∀w∈ws,w<2^64
 pz:∀(i w:Nat),k<=i->ws[i]?=some w->w=0
 pm:∀j,memB ws j=p j
def setB (b:Nat) (ws:List Nat):It:=.blk b (ws.map wC).flatten 121
theorem SI.v {ws:List Nat} {k:Nat} {p:Nat->Bool} (hS:SI ws k p) {h:Heap} {b:Nat} (ho:Own h b (ws.map wC).flatten 121) (c:Nat):SetV h ⟨some ⟨b,0,none⟩,k,c⟩ p:=by
 refine⟨ws.take k,⟨by rw[Yc,Yu];have:=hS.pk;simp only;omega,fun _=>⟨b,0,rfl,fun i row hi j v hj=>?_⟩⟩,by rw[Yu];have:=hS.pl;omega,fun w hw=>hS.pw w (List.mem_of_mem_take hw),fun j=>by rw[memB_take hS.pz];exact hS.pm j⟩;rw[Yd] at hi;obtain⟨w,hw,rfl⟩:=Yya.1 hi;have hj0:j=0:=by have:=(Ya.1 hj).1;simpa [wC] using this
 subst hj0;have hv:v=.int .u64 (w:Int):=by simpa [wC] using hj.symm
 subst hv;rw[addk_at,Own.hc ho,wflat];rw[Yyf] at hw;split at hw
 .rw[show 0+i*1+0=i by omega,hw];rfl
 .cases hw
theorem build100 (ws:List Nat) (p:Nat->Bool) (b:Nat) (h:Heap) (hl:ws.length=64) (hw:∀w∈ws,w<2^64) (hm:∀j,memB ws j=p j) (hb:∀(i w:Nat),ws[i]?=some w->hc h ⟨b,i,none⟩=some (.int .u64 (w:Int))) :
  Fn Pz 100 #[.int .i64 64,.func (.func 101) #[] #[.pointer (some ⟨b,0,none⟩)]] h fun v h'=>Ext h h'/\∃(k:Nat),v=.slice (some ⟨h.size,0,none⟩) k k/\Own h' h.size (ws.map wC).flatten 121/\SI ws k p:=by
 apply vc100;unfold W100 V100b V100a;have hs:=St.refl h;rw[show imin (64:Int) 64=64 from rfl,show Int.toNat 64=64 from rfl,made121];refine⟨by decide,?_⟩;refine hs.newb fun h1 hs=>?_;refine up_loop (n:=64) (fun i h'=>∃us:List Nat,us.length=64/\us.take i=ws.take i/\St h h' [.blk h.size (us.map wC).flatten 121]) ⟨List.replicate 64 0,by rw[Yg],rfl,hs⟩ ?_;rintro-i h6 hi ⟨us,hul,hut,hs⟩;refine sB_intro (fun l=>?_) (fun l=>?_)
 .replace l:=lt_t l;rw[cal101,cond_true];obtain⟨w,hw1⟩:=get_some (l:=ws) (i:=i) (by omega);have hfn:Fn Pz 101 #[.int .i64 (i:Int),.pointer (some ⟨b,0,none⟩)] h6 fun v h'=>v=.int .u64 (w:Int)/\h'=h6:=by
   apply vc101 (i:Int) b 0;unfold W101;refine⟨by omega,_,?_,rfl,rfl⟩;have:=hc_ext hs.ext (hb i w hw1);rw[show (0+Int.toNat (i:Int)*1)=i by simp];exact this
  refine hfn.mono ?_;rintro _ h9 ⟨rfl,rfl⟩;refine⟨_,rfl,by omega,?_⟩;rw[show (0+Int.toNat (i:Int)*1)=i*1 by simp];refine hs.put 0 rfl (o:=i*1) (vs:=[.int .u64 (w:Int)]) rfl (by rw[flatten_len _ (wrows us),Yc,Yv];omega) fun h10 hs=>?_;refine Up.next l (by omega) ⟨us.set i w,by rw[Yyh];exact hul,?_,?_⟩
  .rw[take_snoc hw1,<-hut,take_snoc (x:=w) (by rw[Yq (by omega)]),List.take_set_of_le (Yyt _)]
  .rw[<-wsplice (by omega)];exact hs
 .replace l:=lt_f l;have hi64:i=64:=by omega
  subst hi64;rw[Yj (by omega),Yj (by omega)] at hut;subst hut;refine⟨fun n h' m=>∃k:Nat,n=k/\m=k/\k<=64/\h'=h6/\∀i w,k<=i->us[i]?=some w->w=0,⟨_,64,rfl,rfl,by omega,rfl,fun i w hi hw=>by have:=(Ya.1 hw).1;omega⟩,?_⟩;rintro-_ h16 m ⟨k,rfl,rfl,hk,rfl,hz⟩;have hfin:∀v:Value,v=.slice (subA (some ⟨h.size,0,none⟩) (Int.toNat 0) (Int.toNat (m:Int)) 1) (Int.toNat (m:Int)-Int.toNat 0) (Int.toNat (m:Int)-Int.toNat 0) ->
    Ext h h16/\∃(k:Nat),v=.slice (some ⟨h.size,0,none⟩) k k/\Own h16 h.size (us.map wC).flatten 121/\SI us k p:=by
   rintro v rfl;refine⟨hs.ext,m,?_,hs.get (k:=0) rfl,⟨by omega,by omega,hw,hz,hm⟩⟩;rw[show subA (some (⟨h.size,0,none⟩:Addr)) (Int.toNat 0) (Int.toNat (m:Int)) 1=some ⟨h.size,0,none⟩ from subA_zero _ _ _];rfl
  refine sBi (fun c1=>?_) (fun c1=>?_)
  .have hk1:IntKind.wrap .i64 ((m:Int)-1)=((m-1:Nat):Int):=by rw[w64 (by omega) (by omega)];omega
   rw[hk1];obtain⟨w,hw2⟩:=get_some (l:=us) (i:=m-1) (by omega);refine⟨by omega,_,hs.rd 0 rfl (by rw[show (0+Int.toNat ((m-1:Nat):Int)*1)=m-1 by simp,wflat,hw2];rfl),?_⟩;refine sBe (fun c2=>?_) (fun c2=>?_)
   .refine⟨_,by omega,m-1,rfl,rfl,by omega,rfl,fun i w' hi hw'=>?_⟩;by_cases e:i=m-1
    .subst e;rw[hw2] at hw';cases hw';omega
    .exact hz i w' (by omega) hw'
   .exact⟨by omega,hfin _ rfl⟩
  .exact⟨by omega,hfin _ rfl⟩
theorem make55 (l:List Int) (s:Sl) (h:Heap) (hr:Rw h 1 s (l.map inC)) (hm:l.length<=1048576) :
  Fn Pz 55 #[.slice s.a s.n s.c] h fun v h'=>Ext h h'/\∃(b k:Nat) (ws:List Nat),v=.slice (some ⟨b,0,none⟩) k k/\h.size<=b/\Own h' b (ws.map wC).flatten 121/\SI ws k fun j=>decide (((j:Nat):Int)∈l/\j<4096):=by
 apply vc55;unfold W55;have hn:=hr.ln;have hs:=St.refl h;refine hs.newb fun h1 hs=>?_;refine up_loop (n:=s.n) (fun i h'=>∃ws:List Nat,ws.length=64/\(∀w∈ws,w<2^64)/\(∀j,memB ws j=decide (((j:Nat):Int)∈l.take i/\j<4096))/\St h h' [.blk h.size (ws.map wC).flatten 176]) ⟨List.replicate 64 0,by rw[Yg],fun w hw=>by rw[List.eq_of_mem_replicate hw];decide,fun j=>by rw[memB_zero,Yyk];exact (decide_eq_false (fun h=>by cases h.1)).symm,hs⟩ ?_;rintro-i h6 hi ⟨ws,hwl,hw,hmem,hs⟩;refine sB_intro (fun l2=>?_) (fun l2=>?_)
 .replace l2:=lt_t l2;refine (hr.ext hs.ext).nbI (by omega) (by omega) fun b7 o8 d7 g7 t7=>?_;replace g7:l[i]?=some d7:=g7;refine⟨_,t7.hd,?_⟩;have skip:¬(0<=d7/\d7<4096)->∃m,m<s.n-i/\Up s.n (fun i h'=>∃ws:List Nat,ws.length=64/\(∀w∈ws,w<2^64)/\(∀j,memB ws j=decide (((j:Nat):Int)∈l.take i/\j<4096))/\St h h' [.blk h.size (ws.map wC).flatten 176]) (IntKind.wrap .i64 ((i:Int)+1)) h6 m:=fun hno=>
   Up.next l2 (by omega) ⟨ws,hwl,hw,fun j=>by
    rw[hmem j,take_snoc g7];have:(j:Int)∈List.take i l/\j<4096 ↔ (j:Int)∈List.take i l++[d7]/\j<4096:=by
     rw[Yk,Ye];constructor
     .rintro⟨h1,h2⟩;exact⟨.inl h1,h2⟩
     .rintro⟨h1 | h1,h2⟩
      .exact⟨h1,h2⟩
      .omega
    exact decide_eq_decide.2 this,hs⟩
  refine sBi (fun c1=>?_) (fun c1=>?_)
  .refine sBi (fun c2=>?_) (fun c2=>?_)
   .obtain⟨n,rfl⟩:=Int.eq_ofNat_of_zero_le c1;have e1:IntKind.wrap .i64 (Int.tdiv (n:Int) 64)=((n/64:Nat):Int):=by
     have:Int.tdiv (n:Int) 64=((n/64:Nat):Int):=rfl;rw[this];exact w64 (by omega) (by omega)
    have e2:Int.tmod (n:Int) 64=((n%64:Nat):Int):=rfl;have e3:(0+Int.toNat ((n/64:Nat):Int)*1)=n/64*1:=Nat.zero_add _;rw[e1,e2,e3];have hnl:n/64<ws.length:=by omega
    have hg:ws[n/64]?=some (ws.getD (n/64) 0):=by rw[Yo,Yi hnl];rfl
    have hlt:=hw _ (Yb hg);refine⟨by omega,by omega,_,hs.rd 0 rfl (by rw[Nat.mul_one,wflat,hg];rfl),by omega,by omega,by omega,?_⟩;have h2k:2^(n%64)<2^64:=Nat.pow_lt_pow_right (by omega) (by omega);rw[shl_one (by omega),or_nat hlt h2k];refine hs.put 0 rfl (o:=n/64*1) (vs:=[.int .u64 ((ws.getD (n/64) 0|||2^(n%64):Nat):Int)]) rfl (by rw[flatten_len _ (wrows ws),Yc,Yv];omega) fun h11 hs=>?_;refine Up.next l2 (by omega) ⟨ws.set (n/64) (ws.getD (n/64) 0|||2^(n%64)),by rw[Yyh];exact hwl,fun w hw'=>?_,fun j=>?_,?_⟩
    .rcases List.mem_or_eq_of_mem_set hw' with hw' | rfl
     .exact hw w hw'
     .exact Nat.or_lt_two_pow hlt h2k
    .rw[memB_set hnl,hmem j,take_snoc g7,<-Bool.decide_or];refine decide_eq_decide.2 ?_;rw[Yk,Ye];constructor
     .rintro (rfl | ⟨h1,h2⟩)
      .exact⟨.inr rfl,by omega⟩
      .exact⟨.inl h1,h2⟩
     .rintro⟨h1 | h1,h2⟩
      .exact .inr ⟨h1,h2⟩
      .exact .inl (by omega)
    .have hs2:=hs;rw[show (List.set [It.blk h.size (ws.map wC).flatten 176] 0 (.blk h.size (splice (ws.map wC).flatten (n/64*1) [.int .u64 ((ws.getD (n/64) 0|||2^(n%64):Nat):Int)]) 176))=[.blk h.size (splice (ws.map wC).flatten (n/64*1) [.int .u64 ((ws.getD (n/64) 0|||2^(n%64):Nat):Int)]) 176] from rfl,wsplice hnl] at hs2;exact hs2
   .exact skip (by omega)
  .exact skip (by omega)
 .replace l2:=lt_f l2;rw[Yj (by omega)] at hmem;refine (build100 ws _ h.size h6 hwl hw hmem fun i w hiw=>hs.rd 0 rfl (by rw[wflat,hiw];rfl)).mono ?_;rintro _ h17 ⟨E,k,rfl,ho,hS⟩;exact⟨⟨some ⟨h6.size,0,none⟩,k,k⟩,rfl,(hs.step E).ext,_,k,ws,rfl,hs.ext.1,ho,hS⟩
theorem made42 (n:Nat):madeL Pz 42 n=((List.replicate n (⟨none,0,0⟩:Sl)).map slC).flatten:=by
 have e:zeroC Pz 42=[.slice none 0 0]:=by kernel_rfl
 unfold madeL;rw[e,List.map_replicate];rfl
theorem made173 (n:Nat):madeL Pz 173 n=((List.replicate n (⟨none,0,0⟩:Sl)).map slC).flatten:=by
 have e:zeroC Pz 173=[.slice none 0 0]:=by kernel_rfl
 unfold madeL;rw[e,List.map_replicate];rfl
theorem slrows (L:List Sl):∀r∈L.map slC,r.length=1:=fun r hr=>by obtain⟨x,_,rfl⟩:=Yp.1 hr;rfl
theorem app173:appB Pz 173 175 4 32=true:=by kernel_rfl
structure LkL (g:Gl) (role:Int) (i:Nat) (qs:List (Sl × List Int)) (vs:List (Sl × List Ar)):Prop where
 ql:qs.length=g.n.toNat
 vl:vs.length=g.n.toNat
 q:∀(n:Nat) q,qs[n]?=some q->q.2=quietL (g.es.take i) role n
 v:∀(n:Nat) q,vs[n]?=some q->q.2=visL (g.es.take i) role n
def lkA (g:Gl) (role:Int) (b bg:Nat) (hq hv:Sl) (qs:List (Sl × List Int)) (vs:List (Sl × List Ar)):List It:=
 [.blk b (g.cs++[.int .i64 role,.slice hq.a hq.n hq.c,.slice hv.a hv.n hv.c]) 172,.sl hq 42 1 ((qs.map Prod.fst).map slC),.sl hv 173 1 ((vs.map Prod.fst).map slC),.blk bg g.cs 27]
theorem LkL.len {g:Gl} {role:Int} {i n:Nat} {qs:List (Sl × List Int)} {vs:List (Sl × List Ar)} (h:LkL g role i qs vs) {q:Sl × List Int} (hq:qs[n]?=some q):q.2.length<=g.es.length:=by
 rw[h.q n q hq];exact Yys (List.length_filterMap_le _ _) (by rw[Yu];omega)
theorem LkL.lenv {g:Gl} {role:Int} {i n:Nat} {qs:List (Sl × List Int)} {vs:List (Sl × List Ar)} (h:LkL g role i qs vs) {q:Sl × List Ar} (hq:vs[n]?=some q):q.2.length<=g.es.length:=by
 rw[h.v n q hq];exact Yys (List.length_filterMap_le _ _) (by rw[Yu];omega)
theorem LkL.nextQ {g:Gl} {role:Int} {i m:Nat} {qs:List (Sl × List Int)} {vs:List (Sl × List Ar)} {x:Ed} {q:Sl × List Int} {r:Sl} (h:LkL g role i qs vs) (hx:g.es[i]?=some x) (hn:vis1 role x=none) (hm:x.f=(m:Int)) (hq:qs[m]?=some q):LkL g role (i+1) (qs.set m (r,q.2++[x.t])) vs:=by
 refine⟨by rw[Yyh];exact h.ql,h.vl,fun n q' hq'=>?_,fun n q' hq'=>?_⟩
 .rw[take_snoc hx,quietL_snoc];by_cases e:n=m
  .subst e;rw[Yq (Ya.1 hq).1] at hq';cases hq';rw[if_pos hm,hn];show q.2++[x.t]=_;rw[h.q n q hq]
  .rw[Yy (fun h=>e h.symm)] at hq';rw[if_neg (by omega),Yw];exact h.q n q' hq'
 .rw[take_snoc hx,visL_snoc,hn];rw[show (if x.f=(n:Int) then [] else []:List Ar)=[] by split<;>rfl,Yw];exact h.v n q' hq'
theorem LkL.nextV {g:Gl} {role:Int} {i m:Nat} {qs:List (Sl × List Int)} {vs:List (Sl × List Ar)} {x:Ed} {q:Sl × List Ar} {r:Sl} {e:Ev} (h:LkL g role i qs vs) (hx:g.es[i]?=some x) (hn:vis1 role x=some e) (hm:x.f=(m:Int)) (hq:vs[m]?=some q):LkL g role (i+1) qs (vs.set m (r,q.2++[⟨e,x.t⟩])):=by
 refine⟨h.ql,by rw[Yyh];exact h.vl,fun n q' hq'=>?_,fun n q' hq'=>?_⟩
 .rw[take_snoc hx,quietL_snoc,hn];rw[show (if x.f=(n:Int) then [] else []:List Int)=[] by split<;>rfl,Yw];exact h.q n q' hq'
 .rw[take_snoc hx,visL_snoc];by_cases e:n=m
  .subst e;rw[Yq (Ya.1 hq).1] at hq';cases hq';rw[if_pos hm,hn];show q.2++[_]=_;rw[h.v n q hq]
  .rw[Yy (fun h=>e h.symm)] at hq';rw[if_neg (by omega),Yw];exact h.v n q' hq'
theorem LkL.start (g:Gl) (role:Int):LkL g role 0 (List.replicate g.n.toNat (⟨none,0,0⟩,[])) (List.replicate g.n.toNat (⟨none,0,0⟩,[])):=
 ⟨by rw[Yg],by rw[Yg],fun n q hq=>by rw[List.eq_of_mem_replicate (Yb hq)];rfl,fun n q hq=>by rw[List.eq_of_mem_replicate (Yb hq)];rfl⟩
theorem fst_set {α β:Type} (Q:List (α × β)) (i:Nat) (r:α) (d:β):(Q.set i (r,d)).map Prod.fst=(Q.map Prod.fst).set i r:=List.map_set
theorem map_range {α β:Type} [Inhabited α] (Q:List α) (f:α->β):Q.map f=(List.range Q.length).map fun i=>f (Q.getD i default):=by
 apply Yyr;intro i;rw[Yd,Yd];by_cases h:i<Q.length
 .rw[Yyb h,Yi h];simp[Yo,Yi h]
 .rw[Yl (by omega),Yl (by rw[Yyd];omega)];rfl
instance {α:Type}:Inhabited (Sl × List α):=⟨⟨⟨none,0,0⟩,[]⟩⟩
theorem LkL.fin {g:Gl} {role:Int} {i:Nat} {h0 h:Heap} {b bg:Nat} {hq hv:Sl} {qs:List (Sl × List Int)} {vs:List (Sl × List Ar)} (hL:LkL g role i qs vs) (hi:g.es.length<=i)
  (hs:St h0 h (lkA g role b bg hq hv qs vs++qs.map (nest 3 1 inC)++vs.map (nest 175 4 Ar.cs))) (hqn:hq.n=g.n.toNat) (hvn:hv.n=g.n.toNat):LkI h ⟨b,0,none⟩ g role:=by
 have key:∀ {α:Type} (Q:List (Sl × List α)),(Q.map Prod.fst).map slC=(List.range Q.length).map fun i=>slC ((Q.getD i default).1):=fun Q=>by rw[List.map_map,map_range];rfl
 refine⟨hq,hv,fun i=>(qs.getD i default).1,fun i=>(vs.getD i default).1,rfl,hs.at 0 rfl (n:=11) rfl,hqn,hvn,?_,?_,fun i hi'=>?_,fun i hi'=>?_⟩
 .have:=hs.rw 1 rfl (by omega);rw[key,hL.ql] at this;exact this
 .have:=hs.rw 2 rfl (by omega);rw[key,hL.vl] at this;exact this
 .have hil:i<qs.length:=by rw[hL.ql];exact hi'
  have hg:qs[i]?=some (qs.getD i default):=by rw[Yo,Yi hil];rfl
  have:=hs.rw (4+i) (rows:=(qs.getD i default).2.map inC) (s:=(qs.getD i default).1) (e:=3) (n:=1) (by
   have:=get_mid (P:=lkA g role b bg hq hv qs vs) (Q:=qs.map (nest 3 1 inC)) (R:=vs.map (nest 175 4 Ar.cs)) (i:=i) (by rw[Yc];exact hil);rw[show (lkA g role b bg hq hv qs vs).length=4 from rfl] at this;rw[this,Yd,hg];rfl) (by omega)
  rw[hL.q i _ hg,Yj hi] at this;exact this
 .have hil:i<vs.length:=by rw[hL.vl];exact hi'
  have hg:vs[i]?=some (vs.getD i default):=by rw[Yo,Yi hil];rfl
  have:=hs.rw ((lkA g role b bg hq hv qs vs++qs.map (nest 3 1 inC)).length+i) (rows:=(vs.getD i default).2.map Ar.cs) (s:=(vs.getD i default).1) (e:=175) (n:=4) (by
   rw[Yyc (by omega),Nat.add_sub_cancel_left,Yd,hg];rfl) (by omega)
  rw[hL.v i _ hg,Yj hi] at this;exact this
theorem look52 (g:Gl) (role:Int) (h:Heap) (hg:GI h g) (hx:Gx h) :
  Fn Pz 52 #[g.v,.int .i64 role] h fun v h'=>Ext h h'/\((¬(ValidS g/\0<=role/\role<g.rs.length)/\v=.tuple ⟨[.pointer none,.int .i64 1]⟩) \/
   ((ValidS g/\0<=role/\role<g.rs.length)/\∃b,h.size<=b/\v=.tuple ⟨[.pointer (some ⟨b,0,none⟩),.int .i64 0]⟩/\LkI h' ⟨b,0,none⟩ g role)):=by
 apply vc52 (bs g.nm) g.hr g.hd g.n g.s g.e g.he g.ht;unfold W52 V52a V52c V52b;have hs:=St.refl h;have hn:=hg.e.ln;have hnr:=hg.r.ln;have hsm:=hg.e.sm;refine hs.newb fun h9 hs=>?_;refine⟨_,_,_,_,_,_,_,_,hs.at 0 rfl (n:=8) rfl,?_⟩;refine (valid38 g _ (hg.ext hs.ext) (hx.ext hs.ext)).mono ?_;rintro _ h20 ⟨rfl,Eh20⟩;replace hs:=hs.step Eh20;refine⟨_,rfl,?_⟩;refine sB_intro (fun c1=>?_) (fun c1=>?_)
 .exact⟨hs.ext,.inl ⟨fun hG=>Yyo (bF c1) hG.1,rfl⟩⟩
 .have hV:=Yyn (bT c1);refine sBi (fun c2=>?_) (fun c2=>?_)
  .exact⟨hs.ext,.inl ⟨fun hG=>by omega,rfl⟩⟩
  .refine⟨_,hs.rd 0 rfl rfl,?_⟩;refine sBi (fun c3=>?_) (fun c3=>?_)
   .exact⟨hs.ext,.inl ⟨fun hG=>by omega,rfl⟩⟩
   .refine⟨_,_,_,_,_,_,_,_,hs.at 0 rfl (n:=8) rfl,?_⟩;refine⟨_,hs.rd 0 rfl rfl,?_⟩;refine⟨_,hs.rd 0 rfl rfl,?_⟩;have hb:=hV.num.n;have hE:=hV.num.e;have hm4:=hV.num.m;have fin:ValidS g/\0<=role/\role<g.rs.length:=⟨hV,by omega,by omega⟩;rw[made42,made173];have hrep:∀ {α:Type},((List.replicate g.n.toNat ((⟨none,0,0⟩,[]):Sl × List α)).map Prod.fst)=List.replicate g.n.toNat (⟨none,0,0⟩:Sl):=List.map_replicate;have hmx:g.n.toNat<=maxLen:=by simp only[maxLen];omega
    refine⟨?_,?_⟩;refine⟨by omega,?_⟩;refine hs.newbE fun h32 E32 hs=>⟨E32.sm,?_⟩;have hs:=hs.blkS g.n.toNat 1 _ rfl (slrows _) (by rw[Yc,Yg]) hmx;refine⟨by omega,?_⟩;refine hs.newbE fun h33 E33 hs=>⟨E33.sm,?_⟩;have hs:=hs.blkS g.n.toNat 1 _ rfl (slrows _) (by rw[Yc,Yg]) hmx;have hle:h.size<=h33.size:=hs.ext.1;refine hs.newb fun h34 hs=>?_;have hs:St h h34 (lkA g role h33.size h.size ⟨some ⟨h20.size,0,none⟩,g.n.toNat,g.n.toNat⟩ ⟨some ⟨h32.size,0,none⟩,g.n.toNat,g.n.toNat⟩ (List.replicate g.n.toNat (⟨none,0,0⟩,[])) (List.replicate g.n.toNat (⟨none,0,0⟩,[]))++(List.replicate g.n.toNat ((⟨none,0,0⟩,[]):Sl × List Int)).map (nest 3 1 inC)++(List.replicate g.n.toNat ((⟨none,0,0⟩,[]):Sl × List Ar)).map (nest 175 4 Ar.cs)):=by
     have h1:St h h34 (lkA g role h33.size h.size ⟨some ⟨h20.size,0,none⟩,g.n.toNat,g.n.toNat⟩ ⟨some ⟨h32.size,0,none⟩,g.n.toNat,g.n.toNat⟩ (List.replicate g.n.toNat (⟨none,0,0⟩,[])) (List.replicate g.n.toNat (⟨none,0,0⟩,[]))++[]):=by
      unfold lkA;rw[hrep,hrep];exact hs.perm (.cons _ (.swap _ _ _))
     have h2:=h1.nests (α:=Ar) (e:=175) (k:=4) (cs:=Ar.cs) g.n.toNat;rw[Yw] at h2;exact h2.nests (α:=Int) (e:=3) (k:=1) (cs:=inC) g.n.toNat
    generalize esq:(⟨some ⟨h20.size,0,none⟩,g.n.toNat,g.n.toNat⟩:Sl)=sq at hs;have nsq:sq.n=g.n.toNat:=by rw[<-esq]
    clear esq;generalize esv:(⟨some ⟨h32.size,0,none⟩,g.n.toNat,g.n.toNat⟩:Sl)=sv at hs;rotate_left;refine⟨by omega,?_⟩;refine hs.newbE fun h32 E32 hs=>⟨E32.sm,?_⟩;have hs:=hs.blkS g.n.toNat 1 _ rfl (slrows _) (by rw[Yc,Yg]) hmx;refine⟨by omega,?_⟩;refine hs.newbE fun h33 E33 hs=>⟨E33.sm,?_⟩;have hs:=hs.blkS g.n.toNat 1 _ rfl (slrows _) (by rw[Yc,Yg]) hmx;have hle:h.size<=h33.size:=hs.ext.1;refine hs.newb fun h34 hs=>?_;have hs:St h h34 (lkA g role h33.size h.size ⟨some ⟨h32.size,0,none⟩,g.n.toNat,g.n.toNat⟩ ⟨some ⟨h20.size,0,none⟩,g.n.toNat,g.n.toNat⟩ (List.replicate g.n.toNat (⟨none,0,0⟩,[])) (List.replicate g.n.toNat (⟨none,0,0⟩,[]))++(List.replicate g.n.toNat ((⟨none,0,0⟩,[]):Sl × List Int)).map (nest 3 1 inC)++(List.replicate g.n.toNat ((⟨none,0,0⟩,[]):Sl × List Ar)).map (nest 175 4 Ar.cs)):=by
     have h1:St h h34 (lkA g role h33.size h.size ⟨some ⟨h32.size,0,none⟩,g.n.toNat,g.n.toNat⟩ ⟨some ⟨h20.size,0,none⟩,g.n.toNat,g.n.toNat⟩ (List.replicate g.n.toNat (⟨none,0,0⟩,[])) (List.replicate g.n.toNat (⟨none,0,0⟩,[]))++[]):=by
      unfold lkA;rw[hrep,hrep];exact hs
     have h2:=h1.nests (α:=Ar) (e:=175) (k:=4) (cs:=Ar.cs) g.n.toNat;rw[Yw] at h2;exact h2.nests (α:=Int) (e:=3) (k:=1) (cs:=inC) g.n.toNat
    generalize esq:(⟨some ⟨h32.size,0,none⟩,g.n.toNat,g.n.toNat⟩:Sl)=sq at hs;have nsq:sq.n=g.n.toNat:=by rw[<-esq]
    clear esq;generalize esv:(⟨some ⟨h20.size,0,none⟩,g.n.toNat,g.n.toNat⟩:Sl)=sv at hs;all_goals
     have nsv:sv.n=g.n.toNat:=by rw[<-esv]
     clear esv;refine⟨_,hs.rd 3 rfl rfl,?_⟩;refine up_loop (n:=g.he.n) (fun i h'=>∃qs vs,LkL g role i qs vs/\St h h' (lkA g role h33.size h.size sq sv qs vs++qs.map (nest 3 1 inC)++vs.map (nest 175 4 Ar.cs))) ⟨_,_,LkL.start g role,hs⟩ ?_;rintro-i h40 hi ⟨qs,vs,hL,hs⟩;refine sB_intro (fun l=>?_) (fun l=>?_)
     .replace l:=lt_t l;refine (hg.e.ext hs.ext).rw.nbI (by omega) (by omega) fun b41 o42 x g41 t41=>?_;replace g41:g.es[i]?=some x:=g41;have hxE:=hE x (Yb g41);unfold EdS at hxE;obtain⟨m,hm⟩:∃m:Nat,x.f=m:=⟨x.f.toNat,by omega⟩;obtain⟨q,hq⟩:=get_some (l:=qs) (i:=m) (by rw[hL.ql];omega);obtain⟨v,hv⟩:=get_some (l:=vs) (i:=m) (by rw[hL.vl];omega);have hql:=hL.len hq;have hvl:=hL.lenv hv;have hqn:q.1.n=q.2.length:=by
       have:=hs.len (4+m) (s:=q.1) (e:=3) (n:=1) (rows:=q.2.map inC) (by
        have:=get_mid (P:=lkA g role h33.size h.size sq sv qs vs) (Q:=qs.map (nest 3 1 inC)) (R:=vs.map (nest 175 4 Ar.cs)) (i:=m) (by rw[Yc];exact (Ya.1 hq).1);rw[show (lkA g role h33.size h.size sq sv qs vs).length=4 from rfl] at this;rw[this,Yd,hq];rfl) (by omega)
       rw[this.1,Yc]
      have hvn:v.1.n=v.2.length:=by
       have:=hs.len ((lkA g role h33.size h.size sq sv qs vs++qs.map (nest 3 1 inC)).length+m) (s:=v.1) (e:=175) (n:=4) (rows:=v.2.map Ar.cs) (by
        rw[Yyc (by omega),Nat.add_sub_cancel_left,Yd,hv];rfl) (by omega)
       rw[this.1,Yc]
      refine⟨_,_,_,_,_,_,t41,?_⟩;refine hs.newput (vs:=x.cs) rfl rfl fun h50 hs=>?_;refine⟨_,hs.rd 0 rfl rfl,?_⟩;refine sBe (fun c4=>?_) (fun c4=>?_)
      .have hvis:vis1 role x=some ⟨true,x.b,x.l⟩:=by unfold vis1;rw[if_pos c4]
       refine⟨_,hs.rd 1 rfl rfl,?_⟩;refine⟨_,hs.rd 0 rfl rfl,?_⟩;refine⟨_,hs.rd 1 rfl rfl,?_⟩;refine⟨_,hs.rd 0 rfl rfl,?_⟩;refine (hs.rows 3 rfl (by omega)).nbI (cs:=slC) (L:=vs.map Prod.fst) (by omega) (by omega) fun b56 o57 d56 g56 t56=>?_;have ed:d56=v.1:=by
        rw[hm,show ((m:Int)).toNat=m from rfl,Yd,hv] at g56;exact (Yyp g56).symm
       subst ed;refine⟨_,t56.hd,?_⟩;refine⟨_,hs.rd 0 rfl rfl,?_⟩;refine⟨_,hs.rd 0 rfl rfl,?_⟩;refine⟨_,hs.rd 0 rfl rfl,?_⟩;refine hs.newbE fun h62 E62 hs=>⟨E62.sm,?_⟩;have hs':St h h62 ((.blk h50.size (Ar.cs ⟨⟨true,x.b,x.l⟩,x.t⟩) 175 :: .blk h40.size x.cs 55::(lkA g role h33.size h.size sq sv qs vs++qs.map (nest 3 1 inC)))++vs.map (nest 175 4 Ar.cs)++[]):=by rw[Yw];exact hs
       refine hs'.nestAt hv app173 (⟨⟨true,x.b,x.l⟩,x.t⟩:Ar) (hs'.at 0 rfl (n:=4) rfl) rfl rfl (by omega) (by simp only[maxLen];omega) fun r h64 hr hs3=>?_;rw[Yw] at hs3;refine⟨sm_cons (hs'.same hs3 1 1 rfl rfl) (sm_cons (hs'.same hs3 2 2 rfl rfl) sm_nil),?_⟩;refine hs3.set 4 (cs:=slC) (l:=vs.map Prod.fst) rfl (by omega) (by omega) (by omega) r rfl rfl (fun b o h67 hs4=>?_) rfl;refine Up.next l (by omega) ⟨qs,vs.set m (r,v.2++[⟨⟨true,x.b,x.l⟩,x.t⟩]),hL.nextV g41 hvis hm hv,?_⟩;rw[hm] at hs4;have hs5:=hs4.drop 2;unfold lkA;rw[fst_set];exact hs5
      .refine⟨_,hs.rd 0 rfl rfl,?_⟩;refine sBe (fun c5=>?_) (fun c5=>?_)
       .have hvis:vis1 role x=some ⟨false,x.a,x.l⟩:=by unfold vis1;rw[if_neg c4,if_pos c5]
        refine⟨_,hs.rd 1 rfl rfl,?_⟩;refine⟨_,hs.rd 0 rfl rfl,?_⟩;refine⟨_,hs.rd 1 rfl rfl,?_⟩;refine⟨_,hs.rd 0 rfl rfl,?_⟩;refine (hs.rows 3 rfl (by omega)).nbI (cs:=slC) (L:=vs.map Prod.fst) (by omega) (by omega) fun b56 o57 d56 g56 t56=>?_;have ed:d56=v.1:=by
         rw[hm,show ((m:Int)).toNat=m from rfl,Yd,hv] at g56;exact (Yyp g56).symm
        subst ed;refine⟨_,t56.hd,?_⟩;refine⟨_,hs.rd 0 rfl rfl,?_⟩;refine⟨_,hs.rd 0 rfl rfl,?_⟩;refine⟨_,hs.rd 0 rfl rfl,?_⟩;refine hs.newbE fun h62 E62 hs=>⟨E62.sm,?_⟩;have hs':St h h62 ((.blk h50.size (Ar.cs ⟨⟨false,x.a,x.l⟩,x.t⟩) 175 :: .blk h40.size x.cs 55::(lkA g role h33.size h.size sq sv qs vs++qs.map (nest 3 1 inC)))++vs.map (nest 175 4 Ar.cs)++[]):=by rw[Yw];exact hs
        refine hs'.nestAt hv app173 (⟨⟨false,x.a,x.l⟩,x.t⟩:Ar) (hs'.at 0 rfl (n:=4) rfl) rfl rfl (by omega) (by simp only[maxLen];omega) fun r h64 hr hs3=>?_;rw[Yw] at hs3;refine⟨sm_cons (hs'.same hs3 1 1 rfl rfl) (sm_cons (hs'.same hs3 2 2 rfl rfl) sm_nil),?_⟩;refine hs3.set 4 (cs:=slC) (l:=vs.map Prod.fst) rfl (by omega) (by omega) (by omega) r rfl rfl (fun b o h67 hs4=>?_) rfl;refine Up.next l (by omega) ⟨qs,vs.set m (r,v.2++[⟨⟨false,x.a,x.l⟩,x.t⟩]),hL.nextV g41 hvis hm hv,?_⟩;rw[hm] at hs4;have hs5:=hs4.drop 2;unfold lkA;rw[fst_set];exact hs5
       .have hvis:vis1 role x=none:=by unfold vis1;rw[if_neg c4,if_neg c5]
        refine⟨_,hs.rd 1 rfl rfl,?_⟩;refine⟨_,hs.rd 0 rfl rfl,?_⟩;refine⟨_,hs.rd 1 rfl rfl,?_⟩;refine⟨_,hs.rd 0 rfl rfl,?_⟩;refine (hs.rows 2 rfl (by omega)).nbI (cs:=slC) (L:=qs.map Prod.fst) (by omega) (by omega) fun b56 o57 d56 g56 t56=>?_;have ed:d56=q.1:=by
         rw[hm,show ((m:Int)).toNat=m from rfl,Yd,hq] at g56;exact (Yyp g56).symm
        subst ed;refine⟨_,t56.hd,?_⟩;refine⟨_,hs.rd 0 rfl rfl,?_⟩;refine hs.newbE fun h62 E62 hs=>⟨E62.sm,?_⟩;have hs':St h h62 ((.blk h50.size (inC x.t) 3 :: .blk h40.size x.cs 55::lkA g role h33.size h.size sq sv qs vs)++qs.map (nest 3 1 inC)++vs.map (nest 175 4 Ar.cs)):=hs;refine hs'.nestAt hq app42 x.t (hs'.at 0 rfl (n:=1) rfl) rfl rfl (by omega) (by simp only[maxLen];omega) fun r h64 hr hs3=>⟨sm_cons (hs'.same hs3 1 1 rfl rfl) (sm_cons (hs'.same hs3 2 2 rfl rfl) sm_nil),?_⟩;refine hs3.set 3 (cs:=slC) (l:=qs.map Prod.fst) rfl (by omega) (by omega) (by omega) r rfl rfl (fun b o h67 hs4=>?_) rfl;refine Up.next l (by omega) ⟨qs.set m (r,q.2++[x.t]),vs,hL.nextQ g41 hvis hm hq,?_⟩;unfold lkA;rw[fst_set];rw[hm] at hs4;exact hs4.drop 2
     .replace l:=lt_f l;refine⟨hs.ext,.inr ⟨fin,h33.size,hle,rfl,hL.fin (by omega) hs nsq nsv⟩⟩
theorem made4 (n:Nat):madeL Pz 4 n=(List.replicate n false).map Value.bool:=by
 have e:zeroC Pz 4=[.bool false]:=by kernel_rfl
 unfold madeL;rw[e,List.map_replicate]
 induction n with
 | zero=>rfl
 | succ n ih=>rw[List.replicate_succ,List.replicate_succ,Yyu,ih];rfl
theorem SI.congr {ws:List Nat} {k:Nat} {p q:Nat->Bool} (h:SI ws k p) (e:p=q):SI ws k q:=e ▸ h
theorem closed53 (g:Gl) (role:Int) (b:Nat) (l:List Int) (s:Sl) (h:Heap) (hl:LkI h ⟨b,0,none⟩ g role) (hV:ValidS g) (hr:Rw h 1 s (l.map inC)) (hb:∀x∈l,0<=x/\x<g.n) (hsm:l.length<=1048576) :
  Fn Pz 53 #[.pointer (some ⟨b,0,none⟩),.slice s.a s.n s.c] h fun v h'=>Ext h h'/\∃(c k:Nat) (ws:List Nat),v=.slice (some ⟨c,0,none⟩) k k/\h.size<=c/\Own h' c (ws.map wC).flatten 121/\SI ws k (clo g.es role l):=by
 apply vc53;unfold W53 V53a;have hs:=St.refl h;have hn:=hr.ln;have hN:=hV.num.n;have hE:=hV.num.e;obtain⟨hq,hv,qs,vs,h1,h2,h3,h4,h5,h6,h7,h8⟩:=hl.ex;clear hl;refine⟨_,h2.nth 3 rfl,by omega,?_⟩;rw[made4];refine hs.newb fun h2' hs=>?_;have hs:=hs.nil_ 3 1;refine⟨fun todo x h' m=>∃(i:Nat) (D:List Bool) (T:List Int),x=i/\m=s.n-i/\i<=s.n/\St h h' [.sl todo 3 1 (T.map inC),.blk h.size (D.map Value.bool) 4]/\CL g.es role g.n.toNat l D T/\∀x∈l.take i,x∈T,⟨_,0,_,[],rfl,rfl,by omega,hs,CL.start _ _ _ _,fun x hx=>by rw[Yyk] at hx;cases hx⟩,?_⟩;rintro-todo_6 _ h8' m ⟨i,D,T,rfl,rfl,hi,hs,hC,hT⟩;have htl:=(hs.rows 0 rfl (by omega)).ln;have hle:=hC.le;have hDl:=hC.len;refine sBi (fun c1=>?_) (fun c1=>?_)
 .refine (hr.ext hs.ext).nbI (by omega) (by omega) fun b9 o10 d9 g9 t9=>?_;replace g9:l[i]?=some d9:=g9;have hd:=hb d9 (Yb g9);refine⟨_,t9.hd,⟨by omega,by omega⟩,?_⟩;obtain⟨y,hy⟩:=get_some (l:=D) (i:=d9.toNat) (by omega);have e0:0+Int.toNat d9*1=d9.toNat:=by omega
  rw[e0];refine⟨_,hs.rd 1 rfl (by rw[map_get,hy];rfl),?_⟩;refine sB_intro (fun c2=>?_) (fun c2=>?_)
  .have hyf:y=false:=bF c2;subst hyf;refine⟨⟨by omega,by omega⟩,?_⟩;refine hs.put 1 rfl (o:=d9.toNat) (vs:=[.bool true]) rfl (by rw[Yc,Yv];omega) fun h13 hs=>?_;refine hs.app 0 rfl app42 (m:=1) [[.int .i64 d9]] rfl rfl (by simp) rfl (by omega) (by simp only[maxLen];omega) fun s15 h16 ns15 hs=>?_;refine⟨_,by omega,i+1,D.set d9.toNat true,T++[d9],by rw[w64 (by omega) (by omega)];omega,rfl,by omega,?_,hC.push hd.1 hy (.base (Yb g9)),fun x hx=>?_⟩
   .rw[Ym,<-map_splice _ (by omega)];exact hs
   .rw[take_snoc g9] at hx;rw[Yk] at hx ⊢;exact hx.imp (hT x) id
  .have hyt:y=true:=bT c2;subst hyt;refine⟨_,by omega,i+1,D,T,by rw[w64 (by omega) (by omega)];omega,rfl,by omega,hs,hC,fun x hx=>?_⟩;rw[take_snoc g9,Yk,Ye] at hx;rcases hx with hx | rfl
   .exact hT x hx
   .exact (hC.mem x).2 ⟨hd.1,hy⟩
 .have hlT:∀x∈l,x∈T:=fun x hx=>hT x (by rw[Yj (by omega)];exact hx);clear hT;refine⟨fun todo x h' m=>∃(i:Nat) (D:List Bool) (T:List Int),x=i/\m=g.n.toNat-i/\i<=T.length/\St h h' [.sl todo 3 1 (T.map inC),.blk h.size (D.map Value.bool) 4]/\CL g.es role g.n.toNat l D T/\(∀x∈l,x∈T)/\∀v∈T.take i,∀b∈quietL g.es role v.toNat,b∈T,⟨_,0,D,T,rfl,rfl,by omega,hs,hC,hlT,fun v hv=>by rw[Yyk] at hv;cases hv⟩,?_⟩;clear hs hC htl hle hDl hlT;rintro-todo_22 _ h24 m ⟨i,D,T,rfl,rfl,hi,hs,hC,hlT,hcl⟩;have htl:=(hs.rows 0 rfl (by omega)).ln;have hle:=hC.le;refine sBi (fun c2=>?_) (fun c2=>?_)
  .refine⟨_,(atC_ext hs.ext h2).nth 9 rfl,?_⟩;refine (hs.rows 0 rfl (by omega)).nbI (by omega) (by omega) fun b26 o27 v g26 t26=>?_;replace g26:T[i]?=some v:=g26;have hvm:=(hC.mem v).1 (Yb g26);have hvl:v.toNat<g.n.toNat:=by have:=(Ya.1 hvm.2).1;have:=hC.len;omega
   refine⟨_,t26.hd,?_⟩;refine (h5.ext hs.ext).nbI (by omega) (by omega) fun b29 o30 k g29 t29=>?_;have hk:k=v.toNat:=by rw[Yyb hvl] at g29;exact (Yyp g29).symm
   subst hk;refine⟨_,t29.hd,?_⟩;have hrow:=h7 v.toNat hvl;have hrn:=hrow.ln;have hqb:∀x∈quietL g.es role v.toNat,0<=x/\x<g.n:=fun x hx=>by
    obtain⟨e,he,_,_,rfl⟩:=quietL_mem.1 hx;have:=hE e he;unfold EdS at this;omega
   have hql:(quietL g.es role v.toNat).length<=400:=Yys (List.length_filterMap_le _ _) hV.num.m;refine⟨fun todo x h' m=>∃(j:Nat) (D:List Bool) (T':List Int),x=j/\m=(qs v.toNat).n-j/\j<=(qs v.toNat).n/\St h h' [.sl todo 3 1 (T'.map inC),.blk h.size (D.map Value.bool) 4]/\CL g.es role g.n.toNat l D T'/\(∃R,T'=T++R)/\∀b∈(quietL g.es role v.toNat).take j,b∈T',⟨_,0,D,T,rfl,rfl,by omega,hs,hC,⟨[],by simp⟩,fun v hv=>by rw[Yyk] at hv;cases hv⟩,?_⟩;clear hs hC htl hle;rintro-todo_35 _ h37 m ⟨j,D,T',rfl,rfl,hj,hs,hC,⟨R,rfl⟩,hcl2⟩;have htl:=(hs.rows 0 rfl (by omega)).ln;have hle:=hC.le;have hDl:=hC.len;refine sBi (fun c3=>?_) (fun c3=>?_)
   .refine (hrow.ext hs.ext).nbI (by omega) (by omega) fun b38 o39 y g38 t38=>?_;replace g38:(quietL g.es role v.toNat)[j]?=some y:=g38;have hy:=hqb y (Yb g38);refine⟨_,t38.hd,⟨by omega,by omega⟩,?_⟩;obtain⟨z,hz⟩:=get_some (l:=D) (i:=y.toNat) (by omega);have e0:0+Int.toNat y*1=y.toNat:=by omega
    rw[e0];refine⟨_,hs.rd 1 rfl (by rw[map_get,hz];rfl),?_⟩;refine sB_intro (fun c4=>?_) (fun c4=>?_)
    .have hzf:z=false:=bF c4;subst hzf;refine⟨⟨by omega,by omega⟩,?_⟩;refine hs.put 1 rfl (o:=y.toNat) (vs:=[.bool true]) rfl (by rw[Yc,Yv];omega) fun h42 hs=>?_;refine hs.app 0 rfl app42 (m:=1) [[.int .i64 y]] rfl rfl (by simp) rfl (by omega) (by simp only[maxLen];omega) fun s44 h45 ns44 hs=>?_;have hqr:Qr g.es role l y:=by
      obtain⟨e,he,h9,h10,rfl⟩:=quietL_mem.1 (Yb g38);exact .step (hC.r v (by rw[Yk];exact .inl (Yb g26))) ⟨e,he,h9,by omega,rfl⟩
     refine⟨_,by omega,j+1,D.set y.toNat true,T++R++[y],by rw[w64 (by omega) (by omega)];omega,rfl,by omega,?_,hC.push hy.1 hz hqr,⟨R++[y],by rw[Yz]⟩,fun x hx=>?_⟩
     .rw[Ym,<-map_splice _ (by omega)];exact hs
     .rw[take_snoc g38] at hx;rw[Yk] at hx ⊢;exact hx.imp (hcl2 x) id
    .have hzt:z=true:=bT c4;subst hzt;refine⟨_,by omega,j+1,D,T++R,by rw[w64 (by omega) (by omega)];omega,rfl,by omega,hs,hC,⟨R,rfl⟩,fun x hx=>?_⟩;rw[take_snoc g38,Yk,Ye] at hx;rcases hx with hx | rfl
     .exact hcl2 x hx
     .exact (hC.mem x).2 ⟨hy.1,hz⟩
   .rw[Yj (by omega)] at hcl2;have hil:=(Ya.1 g26).1;rw[Yh] at hle;refine⟨_,by omega,i+1,D,T++R,by rw[w64 (by omega) (by omega)];omega,rfl,by rw[Yh];omega,hs,hC,fun x hx=>by rw[Yk];exact .inl (hlT x hx),fun w hw b hb=>?_⟩;rw[Yyq (by omega),take_snoc g26,Yk,Ye] at hw;rcases hw with hw | rfl
    .rw[Yk];exact .inl (hcl w hw b hb)
    .exact hcl2 b hb
  .rw[Yj (by omega)] at hcl;refine (make55 T todo_22 h24 (hs.rows 0 rfl (by omega)) (by omega)).mono ?_;rintro _ h51 ⟨E,c,k,ws,rfl,hc,ho,hS⟩;refine⟨⟨some ⟨c,0,none⟩,k,k⟩,rfl,(hs.step E).ext,c,k,ws,rfl,Yys hs.ext.1 hc,ho,hS.congr ?_⟩
   funext j
   rw[Bool.eq_iff_iff,decide_eq_true_eq,clo_iff,hC.end_ hlT hcl];refine⟨fun h=>h.1,fun h=>⟨h,?_⟩⟩;have:=(hC.mem (j:Int)).1 ((hC.end_ hlT hcl _).2 h);have h9:=(Ya.1 this.2).1;have h10:=hC.len;omega
theorem evrows (L:List Ev):∀r∈L.map Ev.cs,r.length=3:=fun r hr=>by obtain⟨x,_,rfl⟩:=Yp.1 hr;rfl
theorem app151:appB Pz 151 116 3 24=true:=by kernel_rfl
theorem nan151 (x:Int) (h:Heap):Fn Pz 151 #[.int .i64 x] h fun v h'=>v=.bool false/\h'=h:=by
 apply vc151;unfold W151;exact⟨by rw[bne_self_eq_false],rfl⟩
theorem cmp110 (x y:Int) (h:Heap):Fn Pz 110 #[.int .i64 x,.int .i64 y] h fun v h'=>v=.int .i64 (cmpI x y)/\h'=h:=by
 apply vc110;unfold W110;refine (nan151 x h).mono ?_;rintro _ _ ⟨rfl,rfl⟩;refine⟨_,rfl,?_⟩;refine (nan151 y _).mono ?_;rintro _ _ ⟨rfl,rfl⟩;refine⟨_,rfl,?_⟩;refine sB_f rfl (sB_f rfl ?_);unfold cmpI;refine sBi (fun c=>?_) (fun c=>sBi (fun d=>?_) (fun d=>?_))
 .exact⟨by rw[if_pos c],rfl⟩
 .exact⟨by rw[if_neg c,if_pos d],rfl⟩
 .exact⟨by rw[if_neg c,if_neg d],rfl⟩
theorem or109 (l:List Int) (s:Sl) (h:Heap) (hr:Rw h 1 s (l.map inC)) (hm:l.length<=1048576) :
  Fn Pz 109 #[.slice s.a s.n s.c] h fun v h'=>v=.int .i64 (l.foldr orI3 0)/\h'=h:=by
 apply vc109;unfold W109;have hn:=hr.ln;refine up_loop (n:=s.n) (fun i h'=>h'=h/\l.foldr orI3 0=(l.drop i).foldr orI3 0) ⟨rfl,rfl⟩ ?_;rintro-i h5 hi ⟨rfl,hq⟩;refine sB_intro (fun l2=>?_) (fun l2=>?_)
 .replace l2:=lt_t l2;refine hr.nbI (by omega) (by omega) fun b o d g t=>?_;replace g:l[i]?=some d:=g;have hd:l.drop i=d::l.drop (i+1):=by
   obtain⟨hl,he⟩:=Ya.1 g;rw[List.drop_eq_getElem_cons hl,he]
  rw[hd,List.foldr_cons] at hq;refine⟨_,t.hd,?_⟩;refine sBn (fun c=>?_) (fun c=>?_)
  .refine⟨?_,rfl⟩;rw[hq];unfold orI3;rw[if_pos c]
  .refine Up.next l2 (by omega) ⟨rfl,?_⟩;rw[hq];unfold orI3;rw[if_neg (by omega)]
 .replace l2:=lt_f l2;rw[List.drop_eq_nil_of_le (by omega)] at hq;exact⟨by rw[hq];rfl,rfl⟩
theorem compare138 (x y:Ev) (h:Heap):Fn Pz 138 #[.agg ⟨x.cs⟩,.agg ⟨y.cs⟩] h fun v h'=>v=.int .i64 (cmpE x y)/\Ext h h':=by
 apply vc138 x.send x.peer x.label y.send y.peer y.label;unfold W138;have hs:=St.refl h;refine hs.newb fun h7 hs=>?_;refine hs.newb fun h8 hs=>?_;refine⟨_,hs.rd 1 rfl rfl,?_⟩;refine⟨_,hs.rd 0 rfl rfl,?_⟩;refine sB_intro (fun c=>?_) (fun c=>?_)
 .have hne:x.send≠y.send:=by simpa using c
  refine⟨_,hs.rd 1 rfl rfl,?_⟩;unfold cmpE;rw[if_pos hne];refine sB_intro (fun d=>?_) (fun d=>?_)
  .exact⟨by rw[if_pos d],hs.ext⟩
  .exact⟨by rw[if_neg (by rw[d];simp)],hs.ext⟩
 .have he:x.send=y.send:=by simpa using c
  refine⟨_,hs.rd 1 rfl rfl,_,hs.rd 0 rfl rfl,_,hs.rd 1 rfl rfl,_,hs.rd 0 rfl rfl,?_⟩;refine (cmp110 _ _ _).mono ?_;rintro _ _ ⟨rfl,rfl⟩;refine⟨_,rfl,fun _ _ _ _ hv=>hv,?_⟩;refine (cmp110 _ _ _).mono ?_;rintro _ _ ⟨rfl,rfl⟩;refine⟨_,rfl,fun _ _ _ _ hv=>hv,?_⟩;refine hs.newb fun h22 hs=>?_;have hs2:=hs.blkS 2 1 ([cmpI x.peer y.peer,cmpI x.label y.label].map inC) rfl (inrows _) rfl (by decide);refine (or109 [cmpI x.peer y.peer,cmpI x.label y.label] _ h22 (hs2.rows 0 rfl (by omega)) (show 2<=1048576 by decide)).mono ?_;rintro _ _ ⟨rfl,rfl⟩;refine⟨_,rfl,?_,hs.ext⟩;unfold cmpE;rw[if_neg (by simpa using he)];show Value.int .i64 (orI3 _ (orI3 _ 0))=_;congr 1;unfold orI3;split
  .rfl
  .split<;>omega
theorem elems_snoc {α:Type} {f:Nat->List α} (L:List Nat) {i:Nat} {n:Nat} (h:L[i]?=some n):(L.take (i+1)).flatMap f=(L.take i).flatMap f++f n:=by
 rw[take_snoc h,List.flatMap_append,List.flatMap_singleton]
theorem vis_total (es:List Ed) (role:Int):∀(l:List Nat),l.Nodup->(l.flatMap fun n=>visL es role n).length<=es.length
 | l,hl=>by
  induction es with
  | nil=>
   have key:∀l:List Nat,(l.flatMap fun n=>visL [] role n)=[]:=by
    intro l
    induction l with
    | nil=>rfl
    | cons a l ih=>rw[List.flatMap_cons,ih];rfl
   rw[key];exact Yyt _
  | cons x es ih=>
   have h1:∀n,(visL (x::es) role n).length=(visL es role n).length+(if x.f=(n:Int) then (if (vis1 role x).isSome then 1 else 0) else 0):=fun n=>by
    unfold visL;rw[List.filterMap_cons];by_cases h:x.f=(n:Int)
    .rw[if_pos h,if_pos h];cases vis1 role x<;>simp
    .rw[if_neg h,if_neg h];rfl
   have h2:∀l:List Nat,l.Nodup->(l.flatMap fun n=>visL (x::es) role n).length<=(l.flatMap fun n=>visL es role n).length+1:=by
    intro l hl;have h3:∀l:List Nat,l.Nodup->(l.flatMap fun n=>visL (x::es) role n).length<=(l.flatMap fun n=>visL es role n).length+(if x.f.toNat∈l then 1 else 0):=by
     intro l
     induction l with
     | nil=>simp
     | cons a l ihl=>
      intro hnd;obtain⟨hna,hnd⟩:=List.nodup_cons.1 hnd;have h4:=ihl hnd;rw[List.flatMap_cons,List.flatMap_cons,Yh,Yh,h1];by_cases hx:x.f=(a:Int)
      .have hxa:x.f.toNat=a:=by omega
       rw[hxa,if_neg hna] at h4;rw[if_pos hx,hxa,if_pos (Yx:a∈a::l)];split<;>omega
      .rw[if_neg hx];have:(if x.f.toNat∈l then 1 else 0)<=(if x.f.toNat∈a::l then 1 else 0):=by
        split
        .rw[if_pos (by simp_all)];omega
        .omega
       omega
    have:=h3 l hl;split at this<;>omega
   have:=h2 l hl;rw[Yyj];omega
theorem elems_nodup (p:Nat->Bool):(elems p).Nodup:=List.Nodup.sublist List.filter_sublist List.nodup_range
theorem take_flat_le {es:List Ed} {role:Int} {p:Nat->Bool} (i j n:Nat) (h:(elems p)[i]?=some n):(((elems p).take i).flatMap (visL es role)).length+((visL es role n).take j).length<=es.length:=by
 have h1:=vis_total es role ((elems p).take (i+1)) ((elems_nodup p).sublist (List.take_sublist _ _));rw[elems_snoc (f:=visL es role) _ h,Yh] at h1;rw[Yu];omega
theorem flat_map_len {α β:Type} (L:List Nat) (f:Nat->List α) (g:α->β):(L.flatMap fun n=>(f n).map g).length=(L.flatMap f).length:=by
 induction L with
 | nil=>rfl
 | cons a L ih=>rw[List.flatMap_cons,List.flatMap_cons,Yh,Yh,ih,Yc]
theorem flat_filter_len {α β:Type} (L:List Nat) (f:Nat->List α) (g:α->Option β):(L.flatMap fun n=>(f n).filterMap g).length<=(L.flatMap f).length:=by
 induction L with
 | nil=>simp
 | cons a L ih=>
  rw[List.flatMap_cons,List.flatMap_cons,Yh,Yh];have:=List.length_filterMap_le g (f a);omega
theorem elems_get {p:Nat->Bool} {i:Nat} {d:Int} (g:((elems p).map fun n:Nat=>(n:Int))[i]?=some d):∃n:Nat,(elems p)[i]?=some n/\d=n:=by
 rw[Yd] at g;obtain⟨n,hn,rfl⟩:=Yya.1 g;exact⟨n,hn,rfl⟩
theorem range_get {n k d:Nat} (g:(List.range n)[k]?=some d):d=k:=by
 have hl:=(Ya.1 g).1;rw[Yyd] at hl;rw[Yyb hl] at g;exact (Yyp g).symm
theorem events87 (g:Gl) (role:Int) (b:Nat) (p:Nat->Bool) (s:Sl) (h:Heap) (hl:LkI h ⟨b,0,none⟩ g role) (hV:ValidS g) (hx:Gx h) (hs0:SetV h s p) (hp:∀j,p j=true->(j:Int)<g.n) :
  Fn Pz 87 #[.pointer (some ⟨b,0,none⟩),.slice s.a s.n s.c] h fun v h'=>Ext h h'/\∃r:Sl,v=.slice r.a r.n r.c/\OwnS h' h.size 116 3 r ((evs g.es role p).map Ev.cs).flatten:=by
 apply vc87;unfold W87;have hs:=St.refl h;have hm4:=hV.num.m;obtain⟨hq,hv,qs,vs,h1,h2,h3,h4,h5,h6,h7,h8⟩:=hl.ex;clear hl;refine (list42 p s h hx hs0).mono ?_;rintro _ hA ⟨EA,lst,rfl,ho⟩;replace hs:=hs.gift EA ho (inrows _);refine⟨_,rfl,?_⟩;have hln:=(hs.rows 0 rfl (by omega)).ln;rw[Yc] at hln;have hel:(elems p).length<=4096:=Yys (List.length_filter_le _ _) (by rw[Yyd];omega);have hs:=hs.nil_ 116 3;refine up_loopA (n:=lst.n) hs (fun i rows=>rows=(((elems p).take i).flatMap fun n=>(visL g.es role n).map (·.x)).map Ev.cs) rfl ?_;rintro-i out h9 rows hi hs rfl;refine sB_intro (fun l=>?_) (fun l=>?_)
 .replace l:=lt_t l;refine (hs.rows 1 rfl (by omega)).nbI (by omega) (by omega) fun b10 o11 d10 g10 t10=>?_;obtain⟨n,hn,rfl⟩:=elems_get (i:=i) g10;refine⟨_,t10.hd,?_⟩;have hpn:=hp n (elems_mem.1 (Yb hn)).2;refine⟨_,(atC_ext hs.ext h2).nth 10 rfl,?_⟩;refine (h6.ext hs.ext).nbI (by omega) (by omega) fun b14 o15 k g14 t14=>?_;have hk:=range_get g14;rw[show ((n:Int)).toNat=n from rfl] at hk;subst hk;refine⟨_,t14.hd,?_⟩;have hrow:=h8 k (by omega);have hrn:=hrow.ln;have hvl:(visL g.es role k).length<=g.es.length:=List.length_filterMap_le _ _;refine up_loopA (n:=(vs k).n) hs (fun j rows=>rows=((((elems p).take i).flatMap fun n=>(visL g.es role n).map (·.x))++((visL g.es role k).take j).map (·.x)).map Ev.cs) (by simp) ?_;rintro-j out2 h22 rows2 hj hs rfl;refine sB_intro (fun l2=>?_) (fun l2=>?_)
  .replace l2:=lt_t l2;refine (hrow.ext hs.ext).nbI (by omega) (by omega) fun b23 o24 a g23 t23=>?_;replace g23:(visL g.es role k)[j]?=some a:=g23;refine⟨_,_,_,_,t23,?_⟩;refine hs.newput (vs:=a.cs) rfl rfl fun h30 hs=>?_;refine⟨_,_,_,hs.at 0 rfl (n:=3) rfl,?_⟩;have hlen:=(hs.len 1 rfl (by omega)).1;rw[Yc,Yh,Yc,flat_map_len] at hlen;have hle:=take_flat_le (es:=g.es) (role:=role) i j k hn;refine hs.app 1 rfl app151 (m:=1) [a.x.cs] rfl rfl (fun r hr=>by rw[Ye] at hr;rw[hr];rfl) rfl (by omega) (by simp only[maxLen];omega) fun s35 h36 ns35 hs=>?_;refine UpA.next l2 (by omega) ⟨_,hs.drop 1,?_⟩;rw[take_snoc g23,Ym,Ym,Ym,Ym,Yz];rfl
  .replace l2:=lt_f l2;refine UpA.next l (by omega) ⟨_,hs,?_⟩;rw[Yj (l:=visL g.es role k) (by omega),elems_snoc _ hn]
 .replace l:=lt_f l;rw[Yj (by omega)] at hs;have hvt:((elems p).flatMap fun n=>(visL g.es role n).map (·.x)).length<=1048576:=by
   rw[flat_map_len];exact Yys (vis_total g.es role (elems p) (elems_nodup p)) (by omega)
  refine (sort137 hs 0 rfl hvt).mono ?_;rintro _ h40 ⟨rfl,l',hperm,hsrt,hs⟩;refine⟨rfl,?_⟩;refine (compact139 hs 0 rfl (by rw[hperm.length_eq];exact hvt)).mono ?_;rintro _ h43 ⟨r,rfl,hs⟩;refine⟨_,rfl,hs.ext,r,rfl,?_⟩;have:=hs.give 0 rfl;rw[compact_sortE hperm hsrt] at this;exact this
theorem after56 (g:Gl) (role:Int) (b:Nat) (p:Nat->Bool) (x:Ev) (s:Sl) (h:Heap) (hl:LkI h ⟨b,0,none⟩ g role) (hV:ValidS g) (hx:Gx h) (hs0:SetV h s p) (hp:∀j,p j=true->(j:Int)<g.n) :
  Fn Pz 56 #[.pointer (some ⟨b,0,none⟩),.slice s.a s.n s.c,.agg ⟨x.cs⟩] h fun v h'=>Ext h h'/\∃(c k:Nat) (ws:List Nat),v=.slice (some ⟨c,0,none⟩) k k/\h.size<=c/\Own h' c (ws.map wC).flatten 121/\SI ws k (clo g.es role (toL g.es role p x)):=by
 apply vc56 ⟨b,0,none⟩ s x.send x.peer x.label;unfold W56;have hs:=St.refl h;have hm4:=hV.num.m;have hE:=hV.num.e;have hl0:=hl;obtain⟨hq,hv,qs,vs,h1,h2,h3,h4,h5,h6,h7,h8⟩:=hl.ex;clear hl;refine hs.newb fun h4' hs=>?_;refine (list42 p s h4' (hx.ext hs.ext) (hs0.ext hs.ext)).mono ?_;rintro _ hA ⟨EA,lst,rfl,ho⟩;replace hs:=hs.gift EA ho (inrows _);refine⟨_,rfl,?_⟩;have hln:=(hs.rows 0 rfl (by omega)).ln;rw[Yc] at hln;have hel:(elems p).length<=4096:=Yys (List.length_filter_le _ _) (by rw[Yyd];omega);have hs:=hs.nil_ 3 1;refine up_loopA (n:=lst.n) hs (fun i rows=>rows=(((elems p).take i).flatMap fun n=>(visL g.es role n).filterMap fun a=>if a.x=x then some a.to else none).map inC) rfl ?_;rintro-i out h13 rows hi hs rfl;refine sB_intro (fun l=>?_) (fun l=>?_)
 .replace l:=lt_t l;refine (hs.rows 1 rfl (by omega)).nbI (by omega) (by omega) fun b10 o11 d10 g10 t10=>?_;obtain⟨n,hn,rfl⟩:=elems_get (i:=i) g10;refine⟨_,t10.hd,?_⟩;have hpn:=hp n (elems_mem.1 (Yb hn)).2;refine⟨_,(atC_ext hs.ext h2).nth 10 rfl,?_⟩;refine (h6.ext hs.ext).nbI (by omega) (by omega) fun b14 o15 k g14 t14=>?_;have hk:=range_get g14;rw[show ((n:Int)).toNat=n from rfl] at hk;subst hk;refine⟨_,t14.hd,?_⟩;have hrow:=h8 k (by omega);have hrn:=hrow.ln;have hvl:(visL g.es role k).length<=g.es.length:=List.length_filterMap_le _ _;refine up_loopA (n:=(vs k).n) hs (fun j rows=>rows=((((elems p).take i).flatMap fun n=>(visL g.es role n).filterMap fun a=>if a.x=x then some a.to else none)++((visL g.es role k).take j).filterMap fun a=>if a.x=x then some a.to else none).map inC) (by simp) ?_;rintro-j out2 h26 rows2 hj hs rfl;refine sB_intro (fun l2=>?_) (fun l2=>?_)
  .replace l2:=lt_t l2;refine (hrow.ext hs.ext).nbI (by omega) (by omega) fun b23 o24 a g23 t23=>?_;replace g23:(visL g.es role k)[j]?=some a:=g23;refine⟨_,_,_,_,t23,?_⟩;refine hs.newput (vs:=a.cs) rfl rfl fun h30 hs=>?_;refine⟨_,_,_,hs.at 0 rfl (n:=3) rfl,?_⟩;refine⟨_,_,_,hs.at 3 rfl (n:=3) rfl,?_⟩;have hdec:((a.x.send==x.send)&&((a.x.peer==x.peer)&&((a.x.label==x.label)&&true)))=decide (a.x=x):=by
    rw[Bool.eq_iff_iff,decide_eq_true_eq];simp only[Yt,beq_iff_eq,and_true];exact⟨fun ⟨e1,e2,e3⟩=>ev_ext e1 e2 e3,fun e=>by rw[e];exact⟨rfl,rfl,rfl⟩⟩
   rw[hdec];have hlen:=(hs.len 1 rfl (by omega)).1;rw[Yc,Yh] at hlen;have hf1:=flat_filter_len ((elems p).take i) (visL g.es role) (fun a:Ar=>if a.x=x then some a.to else none);have hf2:=List.length_filterMap_le (fun a:Ar=>if a.x=x then some a.to else none) ((visL g.es role k).take j);have hle:=take_flat_le (es:=g.es) (role:=role) i j k hn;refine sBi (fun c=>?_) (fun c=>?_)
   .refine⟨_,hs.rd 0 rfl rfl,?_⟩;refine hs.app 1 rfl app42 (m:=1) [inC a.to] rfl rfl (fun r hr=>by rw[Ye] at hr;rw[hr];rfl) rfl (by omega) (by simp only[maxLen];omega) fun s35 h36 ns35 hs=>?_;refine UpA.next l2 (by omega) ⟨_,hs.drop 1,?_⟩;rw[take_snoc g23,List.filterMap_append,Ym,Ym,Ym,Yz];simp[c]
   .refine UpA.next l2 (by omega) ⟨_,hs.drop 1,?_⟩;rw[take_snoc g23,List.filterMap_append];simp[c]
  .replace l2:=lt_f l2;refine UpA.next l (by omega) ⟨_,hs,?_⟩;rw[Yj (l:=visL g.es role k) (by omega),elems_snoc _ hn]
 .replace l:=lt_f l;rw[Yj (by omega)] at hs;have hf1:=flat_filter_len (elems p) (visL g.es role) (fun a:Ar=>if a.x=x then some a.to else none);have hf2:((elems p).flatMap (visL g.es role)).length<=g.es.length:=vis_total g.es role (elems p) (elems_nodup p);refine (closed53 g role b (toL g.es role p x) out h13 (hl0.ext hs.ext) hV (hs.rows 0 rfl (by omega)) (fun y hy=>?_) (by unfold toL;omega)).mono ?_
  .unfold toL at hy;obtain⟨n,_,hy⟩:=List.mem_flatMap.1 hy;obtain⟨a,ha,hy⟩:=Yym.1 hy;unfold visL at ha;obtain⟨e,he,ha⟩:=Yym.1 ha;have hEe:=hE e he;unfold EdS at hEe;split at ha
   .obtain⟨ev,_,rfl⟩:=Yya.1 ha;split at hy
    .have:e.t=y:=Yyp hy;omega
    .cases hy
   .cases ha
  .rintro _ h50 ⟨E,c,k,ws,rfl,hc,ho,hS⟩;exact⟨⟨some ⟨c,0,none⟩,k,k⟩,rfl,(hs.step E).ext,c,k,ws,rfl,Yys hs.ext.1 hc,ho,hS⟩
def aC (role:Int) (x:Ev):List Value:=[.int .i64 role,.bool x.send,.int .i64 x.peer,.int .i64 x.label,.slice none 0 0]
theorem app56:appB Pz 56 60 5 56=true:=by kernel_rfl
theorem full194 (x:Ev) (role:Int) (h:Heap):Fn Pz 194 #[.agg ⟨x.cs⟩,.int .i64 role] h fun v h'=>v=.agg ⟨aC role x⟩/\Ext h h':=by
 apply vc194 x.send x.peer x.label role;unfold W194;have hs:=St.refl h;refine hs.newb fun h4 hs=>?_;refine hs.newb fun h5 hs=>?_;refine⟨_,hs.rd 1 rfl rfl,?_⟩;refine⟨_,hs.rd 1 rfl rfl,?_⟩;refine⟨_,hs.rd 1 rfl rfl,?_⟩;refine hs.put 0 rfl (o:=0) (vs:=aC role x) rfl (show 5<=5 by decide) fun h9 hs=>?_;refine⟨_,_,_,_,⟨none,0,0⟩,hs.at 0 rfl (n:=5) rfl,rfl,hs.ext⟩
theorem full140 (g:Gl) (role:Int) (b:Nat) (l:List Ev) (s:Sl) (h:Heap) (hl:LkI h ⟨b,0,none⟩ g role) (hr:Rw h 3 s (l.map Ev.cs)) (hm:l.length<=1048576) :
  Fn Pz 140 #[.pointer (some ⟨b,0,none⟩),.slice s.a s.n s.c] h fun v h'=>Ext h h'/\∃r:Sl,v=.slice r.a r.n r.c/\OwnS h' h.size 60 5 r ((l.map (aC role)).flatten):=by
 apply vc140;unfold W140;have hs:=(St.refl h).nil_ 60 5;have hn:=hr.ln;obtain⟨hq,hv,qs,vs,h1,h2,_⟩:=hl.ex;refine up_loopA (n:=s.n) hs (fun i rows=>rows=(l.take i).map (aC role)) rfl ?_;rintro-i out h6 rows hi hs rfl;refine sB_intro (fun l2=>?_) (fun l2=>?_)
 .replace l2:=lt_t l2;refine (hr.ext hs.ext).nbI (by omega) (by omega) fun b7 o8 x g7 t7=>?_;replace g7:l[i]?=some x:=g7;refine⟨_,_,_,t7,?_⟩;refine hs.newput (vs:=x.cs) rfl rfl fun h13 hs=>?_;refine⟨_,_,_,hs.at 0 rfl (n:=3) rfl,?_⟩;refine⟨_,(atC_ext hs.ext h2).nth 8 rfl,?_⟩;refine (full194 x role h13).mono ?_;rintro _ h24 ⟨rfl,E⟩;replace hs:=hs.step E;refine⟨_,_,_,_,⟨none,0,0⟩,rfl,?_⟩;have hlen:=(hs.len 1 rfl (by omega)).1;rw[Yc,Yu] at hlen;refine hs.app 1 rfl app56 (m:=1) [aC role x] rfl rfl (fun r hr=>by rw[Ye] at hr;rw[hr];rfl) rfl (by omega) (by simp only[maxLen];omega) fun s26 h27 ns hs=>?_;refine UpA.next l2 (by omega) ⟨_,hs.drop 1,?_⟩;rw[take_snoc g7,Ym];rfl
 .replace l2:=lt_f l2;rw[Yj (by omega)] at hs;exact⟨hs.ext,out,rfl,hs.give 0 rfl⟩
theorem Qr.lt {g:Gl} {role:Int} {l:List Int} (hV:ValidS g) (hl:∀x∈l,0<=x/\x<g.n) {a:Int} (h:Qr g.es role l a):0<=a/\a<g.n:=by
 induction h with
 | base hm=>exact hl _ hm
 | step _ hx _=>
  obtain⟨x,hx,_,_,rfl⟩:=hx;have:=hV.num.e x hx;unfold EdS at this;omega
theorem clo_lt {g:Gl} {role:Int} {l:List Int} (hV:ValidS g) (hl:∀x∈l,0<=x/\x<g.n) (j:Nat) (h:clo g.es role l j=true):(j:Int)<g.n:=((clo_iff.1 h).lt hV hl).2
theorem St.giftB {h0 h h':Heap} {L:List It} (hs:St h0 h L) (E:Ext h h') {c:Nat} {ws:List Nat} (hc:h.size<=c) (ho:Own h' c (ws.map wC).flatten 121):St h0 h' (setB c ws::L):=
 hs.more E (i:=setB c ws) ho fun b hb=>by cases hb;exact hc
theorem evs_le (es:List Ed) (role:Int) (p:Nat->Bool):(evL es role p).length<=es.length:=by
 unfold evL;rw[flat_map_len];exact vis_total es role (elems p) (elems_nodup p)
theorem insE_len (x:Ev):∀l:List Ev,(insE x l).length<=l.length+1
 | []=>by simp[insE]
 | y::r=>by
  rw[insE];split
  .have:=insE_len x r;simp only[Yyj];omega
  .split<;>simp
theorem sortE_len (l:List Ev):(sortE l).length<=l.length:=by
 unfold sortE
 induction l with
 | nil=>simp
 | cons a l ih=>rw[List.foldr_cons,Yyj];have:=insE_len a (l.foldr insE []);omega
noncomputable def firstE (g:Gl) (role:Int) (st:Int):List Ev:=evs g.es role (clo g.es role [st])
noncomputable def firstB (g:Gl) (role:Int) (st:Int):Bool:=clo g.es role [st] g.e.toNat
theorem first88 (g:Gl) (role st:Int) (h:Heap) (hg:GI h g) (hx:Gx h) (hV:ValidS g) (hr0:0<=role) (hr1:role<g.rs.length) (hs0:0<=st) (hs1:st<g.n) :
  Fn Pz 88 #[g.v,.int .i64 role,.int .i64 st] h fun v h'=>Ext h h'/\∃r:Sl,v=.tuple ⟨[.slice r.a r.n r.c,.bool (firstB g role st),.int .i64 0]⟩/\OwnS h' h.size 60 5 r (((firstE g role st).map (aC role)).flatten):=by
 apply vc88 (bs g.nm) g.hr g.hd g.n g.s g.e g.he g.ht;unfold W88;have hs:=St.refl h;have hN:=hV.num.n;refine hs.newb fun h9 hs=>?_;refine⟨_,_,_,_,_,_,_,_,hs.at 0 rfl (n:=8) rfl,?_⟩;refine (look52 g role h9 (hg.ext hs.ext) (hx.ext hs.ext)).mono ?_;rintro _ h21 ⟨E21,h1 | h1⟩
 .exact absurd ⟨hV,hr0,hr1⟩ h1.1
 obtain⟨_,b,hb,rfl,hl⟩:=h1;replace hs:=hs.step E21;refine⟨_,_,rfl,?_⟩;refine sBn (fun c1=>absurd rfl c1) (fun _=>?_);refine sBi (fun c2=>by omega) (fun c2=>?_);refine⟨_,hs.rd 0 rfl rfl,?_⟩;refine sBi (fun c3=>by omega) (fun c3=>?_);refine hs.newbE fun h23 E23 hs=>?_;have hl2:∀x∈[st],0<=x/\x<g.n:=fun x hx=>by rw[Ye] at hx;omega
 have hsl:=hs.blkS 1 1 ([st].map inC) rfl (inrows _) rfl (by decide);refine (closed53 g role b [st] _ h23 (hl.ext E23) hV (hsl.rows 0 rfl (by omega)) hl2 (show 1<=1048576 by decide)).mono ?_;rintro _ h26 ⟨E26,c,k,ws,rfl,hc,ho,hS⟩;replace hs:=hs.giftB E26 hc ho;refine⟨⟨some ⟨c,0,none⟩,k,k⟩,rfl,?_⟩;refine⟨_,hs.rd 2 rfl rfl,?_⟩;refine (events87 g role b _ _ h26 (hl.ext (E23.trans E26)) hV (hx.ext hs.ext) (hS.v ho k) (clo_lt hV hl2)).mono ?_;rintro _ h30 ⟨E30,r,rfl,hor⟩;have hs0:=hs;replace hs:=hs.gift E30 hor (evrows _);refine⟨r,rfl,E30.sm,?_⟩;refine (full140 g role b _ r h30 (hl.ext ((E23.trans E26).trans E30)) (hs.rows 0 rfl (by omega)) (by
  have:=sortE_len (evL g.es role (clo g.es role [st]));have:=evs_le g.es role (clo g.es role [st]);have:=hV.num.m;show (sortE _).length<=_;omega)).mono ?_
 rintro _ h33 ⟨E33,r2,rfl,ho2⟩;refine⟨r2,rfl,E33.sm,?_⟩;refine (has29 (clo g.es role [st]) ⟨some ⟨c,0,none⟩,k,k⟩ g.e h33 ((hS.v ho k).ext (E30.trans E33))).mono ?_;rintro _ _ ⟨rfl,rfl⟩;refine⟨_,rfl,(hs.step E33).ext,r2,?_,ho2.mono hs.ext.1⟩;rw[decide_eq_true (by omega),Bool.true_and];rfl
structure SE where
 b:Nat
 k:Nat
 ws:List Nat
 p:PSet
def SE.hd (e:SE):List Value:=[.slice (some ⟨e.b,0,none⟩) e.k e.k]
def SE.s (e:SE):Sl:=⟨some ⟨e.b,0,none⟩,e.k,e.k⟩
def SE.it (e:SE):It:=setB e.b e.ws
def bC (b:Bool):List Value:=[.bool b]
def TL (tb:Nat) (ge:Nat) (ss fs ars:Sl) (E:List SE) (M:List Mv):List It:=
 [.blk tb [.slice ss.a ss.n ss.c,.slice fs.a fs.n fs.c,.slice ars.a ars.n ars.c] 85,.sl ss 67 1 (E.map SE.hd),.sl fs 4 1 ((E.map fun e=>e.p ge).map bC),.sl ars 45 6 (M.map Mv.cs)]++E.map SE.it
theorem cal85:callable Pz 85=true:=by kernel_rfl
theorem eq85 (a b:Sl) (p q:PSet) (c:Addr) (h:Heap) (ha:SetV h a p) (hb:SetV h b q) (hc0:hc h c=some (.slice b.a b.n b.c)) :
  Fn Pz 85 #[.slice a.a a.n a.c,.pointer (some c)] h fun v h'=>(∃r:Bool,v=.bool r/\(r=true ↔ p=q))/\h'=h:=by
 apply vc85;unfold W85;refine⟨b,hc0,?_⟩;refine (equal86 p q a b h ha hb).mono ?_;rintro _ _ ⟨⟨r,rfl,hr⟩,rfl⟩;exact⟨_,rfl,⟨_,rfl,hr⟩,rfl⟩
theorem idx84 (E:List SE) (q:PSet) (s b:Sl) (c:Addr) (h:Heap) (hr:Rw h 1 s (E.map SE.hd)) (hE:∀e∈E,SetV h e.s e.p) (hb:SetV h b q) (hc0:hc h c=some (.slice b.a b.n b.c)) (hm:E.length<=1048576) :
  Fn Pz 84 #[.slice s.a s.n s.c,.func (.func 85) #[] #[.pointer (some c)]] h fun v h'=>(v=.int .i64 (if rowI (E.map (·.p)) q<E.length then ((rowI (E.map (·.p)) q:Nat):Int) else -1))/\h'=h:=by
 apply vc84;unfold W84;have hn:=hr.ln;refine up_loop (n:=s.n) (fun i h'=>h'=h/\∀(j:Nat) (e:SE),j<i->E[j]?=some e->e.p≠q) ⟨rfl,fun j e hj=>by omega⟩ ?_;rintro-i h5 hi ⟨rfl,hd⟩;refine sB_intro (fun l=>?_) (fun l=>?_)
 .replace l:=lt_t l;refine hr.nbI (by omega) (by omega) fun b6 o7 e g t=>?_;replace g:E[i]?=some e:=g;refine⟨e.s,t.hd,?_⟩;rw[cal85,cond_true];refine (eq85 e.s b e.p q c h5 (hE e (Yb g)) hb hc0).mono ?_;rintro _ _ ⟨⟨r,rfl,hr2⟩,rfl⟩;refine⟨_,rfl,sB_intro (fun c1=>?_) (fun c1=>?_)⟩
  .have hq:=hr2.1 c1;have:rowI (E.map (·.p)) q=i:=rowI_first (by rw[Yd,g,<-hq];rfl) fun j p' hj hp'=>by
    rw[Yd] at hp';obtain⟨e',he',rfl⟩:=Yya.1 hp';exact hd j e' hj he'
   exact⟨by rw[this,if_pos (by omega)],rfl⟩
  .refine Up.next l (by omega) ⟨rfl,fun j e' hj he'=>?_⟩;by_cases e1:j=i
   .subst e1;rw[g] at he';cases he';intro hp;rw[hr2.2 hp] at c1;cases c1
   .exact hd j e' (by omega) he'
 .replace l:=lt_f l;have:¬rowI (E.map (·.p)) q<E.length:=by
   have h1:=rowI_lt (S:=E.map (·.p)) (p:=q);rw[Yc] at h1;rw[h1];intro hm;obtain⟨e,he,hp⟩:=Yp.1 hm;obtain⟨j,hj⟩:=Yf.1 he;exact hd j e (by have:=(Ya.1 hj).1;omega) hj hp
  exact⟨by rw[if_neg this],rfl⟩
theorem app83:appB Pz 83 67 1 24=true:=by kernel_rfl
theorem app30:appB Pz 30 4 1 1=true:=by kernel_rfl
theorem St.oldb {h0 h h':Heap} {L L':List It} (hs:St h0 h L) (hs':St h0 h' L') {b:Nat} (hb:b<h0.size):h'[b]?=h[b]?:=(hs'.ext.2 b hb).trans (hs.ext.2 b hb).symm
theorem TL.set {h0 h:Heap} {A X:List It} {tb ge:Nat} {ss fs ars:Sl} {E:List SE} {M:List Mv} (hs:St h0 h (A++(TL tb ge ss fs ars E M++X))) (hE:∀e∈E,SI e.ws e.k e.p):∀e∈E,SetV h e.s e.p:=by
 intro e he;have hm:e.it∈A++(TL tb ge ss fs ars E M++X):=by
  rw[Yk];right;rw[Yk];left;unfold TL;rw[Yk];right;exact List.mem_map_of_mem he
 have:=(hs.ok _ hm).1;exact (hE e he).v this e.k
theorem row83 {H0 h:Heap} {X:List It} {tb bg ge:Nat} {ss fs ars:Sl} {E:List SE} {M:List Mv} {e:SE} (hs:St H0 h (e.it::(TL tb ge ss fs ars E M++X))) (hE:∀e∈E,SI e.ws e.k e.p) (he:SI e.ws e.k e.p) (hbg:bg<H0.size) (hge:hc h ⟨bg,5,none⟩=some (.int .i64 ge)) (hge2:ge<4096) (hm:E.length<=2000) :
  Fn Pz 83 #[.slice (some ⟨e.b,0,none⟩) e.k e.k,.pointer (some ⟨tb,0,none⟩),.pointer (some ⟨bg,0,none⟩)] h fun v h'=>v=.int .i64 (rowI (E.map (·.p)) e.p:Nat) /\
   ∃(E':List SE) (ss' fs':Sl),St H0 h' (TL tb ge ss' fs' ars E' M++X)/\E'.map (·.p)=rowS (E.map (·.p)) e.p/\∀e∈E',SI e.ws e.k e.p:=by
 apply vc83 e.s;unfold W83;have hsl:=hs.len 2 (s:=ss) (e:=67) (n:=1) rfl (by omega);have hfl:=hs.len 3 (s:=fs) (e:=4) (n:=1) rfl (by omega);rw[Yc] at hsl;rw[Yc,Yc] at hfl;have hge':=hge;refine hs.newbE fun h1 E1 hs=>?_;refine⟨ss,hs.rd 2 rfl rfl,?_⟩;refine (idx84 E e.p ss e.s ⟨h.size,0,none⟩ h1 (hs.rw 3 rfl (by omega)) (TL.set (A:=[_,_]) hs hE) (he.v (hs.get (k:=1) rfl) e.k) (hs.rd 0 rfl rfl) (by omega)).mono ?_;rintro _ h5 ⟨rfl,rfl⟩;refine⟨_,rfl,?_⟩;have hlen:(E.map (·.p)).length=E.length:=Yc _;by_cases hmem:rowI (E.map (·.p)) e.p<E.length
 .rw[if_pos hmem];refine sB_t (decide_eq_true (by omega)) ⟨rfl,E,ss,fs,hs.drop 2,?_,hE⟩;unfold rowS;rw[if_pos (rowI_lt.1 (by rw[hlen];exact hmem))]
 .rw[if_neg hmem];have hnm:e.p∉E.map (·.p):=fun hm=>hmem (by have:=rowI_lt.2 hm;omega);refine sB_f (decide_eq_false (by omega)) ?_;have hge5:=hc_ext E1 hge;refine⟨ss,hs.rd 2 rfl rfl,e.s,hs.rd 0 rfl rfl,fs,hs.rd 2 rfl rfl,e.s,hs.rd 0 rfl rfl,_,hge5,?_⟩;refine hs.newbE fun h11 E11 hs11=>⟨E11.sm,?_⟩;refine hs11.appended 4 (rows:=E.map SE.hd) rfl app83 (m:=1) (news:=[e.hd]) (hs11.at 0 rfl (n:=1) rfl) rfl (fun r hr=>by rw[Ye] at hr;rw[hr];rfl) rfl (by omega) (by simp only[maxLen];omega) fun s12 h13 n12 hs13=>?_;refine⟨sm_cons (hs11.oldb hs13 hbg) (sm_cons (hs11.same hs13 1 1 rfl rfl) (sm_cons (hs11.same hs13 3 3 rfl rfl) sm_nil)),?_⟩;refine (has29 e.p e.s ge h13 (he.v (hs13.get (k:=2) rfl) e.k)).mono ?_;rintro _ h16 ⟨rfl,rfl⟩;refine⟨_,rfl,fun _ _ _ _ hv=>hv,?_⟩;have hbb:(decide (0<=((ge:Nat):Int)/\((ge:Nat):Int)<4096)&&e.p ((ge:Nat):Int).toNat)=e.p ge:=by
   rw[decide_eq_true (by omega),Bool.true_and];rfl
  rw[hbb];refine hs13.newbE fun h17 E17 hs17=>⟨E17.sm,?_⟩;refine hs17.appended 6 (rows:=(E.map fun e=>e.p ge).map bC) rfl app30 (m:=1) (news:=[bC (e.p ge)]) (hs17.at 0 rfl (n:=1) rfl) rfl (fun r hr=>by rw[Ye] at hr;rw[hr];rfl) rfl (by omega) (by simp only[maxLen];omega) fun s18 h19 n18 hs19=>?_;refine⟨sm_cons (hs17.same hs19 2 2 rfl rfl) (sm_cons (hs17.same hs19 4 4 rfl rfl) sm_nil),?_⟩;refine hs19.put 4 rfl (o:=0) (vs:=[.slice s12.a s12.n s12.c]) rfl (show 1<=3 by decide) fun h20 hs20=>?_;refine⟨sm_cons (hs19.oldb hs20 hbg) (sm_cons (hs19.same hs20 2 2 rfl rfl) sm_nil),?_⟩;refine hs20.put 4 rfl (o:=1) (vs:=[.slice s18.a s18.n s18.c]) rfl (show 2<=3 by decide) fun h21 hs21=>?_;refine⟨s12,hs21.rd 4 rfl rfl,?_⟩;refine⟨?_,E++[e],s12,s18,?_,?_,fun x hx=>?_⟩
  .rw[n12,hsl.1,w64 (by omega) (by omega),rowI_of_not hnm,hlen];congr 1;omega
  .have e1:(E++[e]).map SE.hd=E.map SE.hd++[e.hd]:=by rw[Ym];rfl
   have e2:((E++[e]).map fun e=>e.p ge).map bC=(E.map fun e=>e.p ge).map bC++[bC (e.p ge)]:=by rw[Ym,Ym];rfl
   unfold TL;rw[e1,e2,Ym];have h4:=hs21.drop 3;have h5:St H0 h21 (e.it::([.blk tb [.slice s12.a s12.n s12.c,.slice s18.a s18.n s18.c,.slice ars.a ars.n ars.c] 85,.sl s12 67 1 (E.map SE.hd++[e.hd]),.sl s18 4 1 ((E.map fun e=>e.p ge).map bC++[bC (e.p ge)]),.sl ars 45 6 (M.map Mv.cs)]++E.map SE.it++X)):=h4;refine h5.perm ?_;rw[<-Yz];rw[<-List.cons_append];exact (List.Perm.append_right X (List.perm_append_singleton _ _)).symm
  .unfold rowS;rw[if_neg hnm,Ym];rfl
  .rcases Yk.1 hx with hx | hx
   .exact hE x hx
   .rw[Ye] at hx;rw[hx];exact he
theorem app31:appB Pz 31 45 6 48=true:=by kernel_rfl
theorem St.join {h0 h1 h:Heap} {L1q L2q:List It} (hs1:St h0 h1 L1q) (hs2:St h1 h L2q):St h0 h (L1q++L2q):=by
 have h3:=hs1.step hs2.ext;refine⟨h3.ext,fun i hi=>?_,List.pairwise_append.2 ⟨h3.ap,hs2.ap,fun i hi j hj b hb hc=>?_⟩⟩
 .rcases Yk.1 hi with hi | hi
  .exact h3.ok i hi
  .exact⟨(hs2.ok i hi).1,fun b hb=>Yys hs1.ext.1 ((hs2.ok i hi).2 b hb)⟩
 .have h4:=(hs1.ok i hi).1.lt hb;have h5:=(hs2.ok j hj).2 b hc;omega
theorem rowS_mem {S:List PSet} {p q:PSet}:q∈rowS S p ↔ q∈S\/q=p:=by
 unfold rowS;split
 .rename_i h;constructor
  .exact .inl
  .rintro (h1 | rfl)
   .exact h1
   .exact h
 .rw[Yk,Ye]
theorem rowS_len {S:List PSet} {p:PSet}:(rowS S p).length<=S.length+1/\S.length<=(rowS S p).length:=by
 unfold rowS;split
 .omega
 .rw[Yh,Yv];omega
theorem rowS_get {S:List PSet} {p q:PSet} {i:Nat} (h:S[i]?=some q):(rowS S p)[i]?=some q:=by
 unfold rowS;split
 .exact h
 .rw[Yyi (Ya.1 h).1];exact h
theorem toL_lt {g:Gl} {role:Int} {p:PSet} {x:Ev} (hV:ValidS g):∀y∈toL g.es role p x,0<=y/\y<g.n:=by
 intro y hy;unfold toL at hy;obtain⟨n,_,h2⟩:=List.mem_flatMap.1 hy;obtain⟨a,ha,h3⟩:=Yym.1 h2;unfold visL at ha;obtain⟨e,he,h4⟩:=Yym.1 ha;have:=hV.num.e e he;unfold EdS at this;split at h4
 .rw[Yya] at h4;obtain⟨_,_,rfl⟩:=h4;split at h3
  .cases h3;show 0<=e.t/\e.t<g.n;omega
  .cases h3
 .cases h4
def TR (ge:Nat) (ss fs ars:Sl) (E:List SE) (M:List Mv):List It:=
 [.sl ss 67 1 (E.map SE.hd),.sl fs 4 1 ((E.map fun e=>e.p ge).map bC),.sl ars 45 6 (M.map Mv.cs)]++E.map SE.it
def sl0:List Value:=[.slice none 0 0,.slice none 0 0,.slice none 0 0]
theorem drop_get {α:Type} {l:List α} {j:Nat} {x:α} (h:l[j]?=some x):l.drop j=x::l.drop (j+1):=by
 obtain⟨h1,h2⟩:=Ya.1 h;rw[<-h2];exact List.drop_eq_getElem_cons h1
theorem evs_len {g:Gl} {role:Int} {p:PSet} (hV:ValidS g):(evs g.es role p).length<=400:=by
 have h1:=sortE_len (evL g.es role p);have h2:=evs_le g.es role p;have h3:=hV.num.m;show (sortE _).length<=400;omega
inductive ViR (g:Gl) (role:Int) (h h':Heap):Value->Prop
 | bad (hn:¬(ValidS g/\0<=role/\role<g.rs.length)):ViR g role h h' (.tuple ⟨[.agg ⟨sl0⟩,.int .i64 1]⟩)
 | limit (hv:ValidS g/\0<=role/\role<g.rs.length) (hn:views g role=none):ViR g role h h' (.tuple ⟨[.agg ⟨sl0⟩,.int .i64 6]⟩)
 | good (hv:ValidS g/\0<=role/\role<g.rs.length) {ss fs ars:Sl} {E:List SE} {M:List Mv} (hn:views g role=some (E.map (·.p),M)) (hs:St h h' (TR g.e.toNat ss fs ars E M)) (hE:∀e∈E,SI e.ws e.k e.p) (hl:E.length<=200) (hp:∀p∈E.map (·.p),∀j:Nat,p j=true->(j:Int)<g.n) (hm:M.length<=80000) :
   ViR g role h h' (.tuple ⟨[.agg ⟨[.slice ss.a ss.n ss.c,.slice fs.a fs.n fs.c,.slice ars.a ars.n ars.c]⟩,.int .i64 0]⟩)
theorem views39 (g:Gl) (role:Int) (h:Heap) (hg:GI h g) (hx:Gx h) :
  Fn Pz 39 #[g.v,.int .i64 role] h fun v h'=>Ext h h'/\ViR g role h h' v:=by
 apply vc39 (bs g.nm) g.hr g.hd g.n g.s g.e g.he g.ht;unfold W39;have hs:=St.refl h;refine hs.newb fun h9 hs=>?_;refine hs.newb fun h10 hs=>?_;refine⟨_,_,_,_,_,_,_,_,hs.at 1 rfl (n:=8) rfl,?_⟩;refine (look52 g role h10 (hg.ext hs.ext) (hx.ext hs.ext)).mono ?_;rintro _ h22 ⟨Eh22,h1 | h1⟩
 .obtain⟨hn,rfl⟩:=h1;replace hs:=hs.step Eh22;refine⟨_,_,rfl,?_⟩;refine sBn (fun c1=>?_) (fun c1=>by omega);refine hs.put 0 rfl (o:=0) (vs:=sl0) rfl (by decide) fun h23 hs=>?_;refine⟨⟨none,0,0⟩,⟨none,0,0⟩,⟨none,0,0⟩,hs.at 0 rfl (n:=3) rfl,?_⟩;exact⟨hs.ext,.bad hn⟩
 obtain⟨hv,bl,hbl,rfl,hl⟩:=h1;obtain⟨hV,hr0,hr1⟩:=hv;have hs1:=hs.step Eh22;clear hs;have hN:=hV.num.n;have hb9:h.size<h22.size:=hs1.get (k:=1) rfl |>.lt rfl
 refine⟨_,_,rfl,?_⟩;refine sBn (fun c1=>absurd rfl c1) (fun _=>?_);have hs:=St.refl h22;refine hs.newb fun h27 hs=>?_;refine⟨_,(hs1.step hs.ext).rd 1 rfl rfl,?_⟩;refine hs.newb fun h29 hs=>?_;have hl2:∀x∈[g.s],0<=x/\x<g.n:=fun x hx=>by rw[Ye] at hx;omega
 have hsl:=hs.blkS 1 1 ([g.s].map inC) rfl (inrows _) rfl (by decide);refine (closed53 g role bl [g.s] _ h29 (hl.ext hs.ext) hV (hsl.rows 0 rfl (by omega)) hl2 (show 1<=1048576 by decide)).mono ?_;clear hsl;rintro _ h32 ⟨E32,c,k,ws,rfl,hcc,ho,hS⟩;replace hs:=hs.giftB E32 hcc ho;refine⟨⟨some ⟨c,0,none⟩,k,k⟩,rfl,?_⟩;have hs:=(((hs.eras 1).nil_ 45 6).nil_ 4 1).nil_ 67 1;have hge:(g.e:Int)=((g.e.toNat:Nat):Int):=by omega
 have he5:∀ {h':Heap},Ext h22 h'->hc h' ⟨h.size,5,none⟩=some (.int .i64 ((g.e.toNat:Nat):Int)):=fun E=>by rw[<-hge];exact (hs1.step E).rd 1 rfl rfl
 have hs:St h22 h32 ((⟨c,k,ws,clo g.es role [g.s]⟩:SE).it::(TL h22.size g.e.toNat ⟨none,0,0⟩ ⟨none,0,0⟩ ⟨none,0,0⟩ [] []++[])):=
  hs.perm (List.perm_append_comm (l₁:=[_,_,_]) (l₂:=[_,_]))
 refine (row83 (bg:=h.size) hs (fun e he=>by cases he) hS hb9 (he5 hs.ext) (by omega) (by decide)).mono ?_;rintro _ h35 ⟨rfl,E',ss',fs',hs,hE',hSI'⟩;refine⟨_,rfl,?_⟩;have hE1:E'.map (·.p)=[clo g.es role [g.s]]:=by rw[hE'];rw[List.map_nil];unfold rowS;rw[if_neg (by simp)];rfl
 refine⟨fun x h' m=>∃(i:Nat) (ss fs ars:Sl) (E:List SE) (M:List Mv),x=i/\m=201-i/\i<=E.length/\St h22 h' (TL h22.size g.e.toNat ss fs ars E M++[])/\(∀e∈E,SI e.ws e.k e.p) /\
  (∀p∈E.map (·.p),∀j:Nat,p j=true->(j:Int)<g.n)/\E.length<=200/\M.length<=i*400/\views g role=viewsF g.es role (202-i) i (E.map (·.p)) M,⟨_,0,_,_,_,E',[],rfl,rfl,by omega,hs,hSI',?_,?_,by simp,?_⟩,?_⟩
 .intro p hp j hj;rw[hE1,Ye] at hp;subst hp;exact clo_lt hV hl2 j hj
 .have:=congrArg List.length hE1;rw[Yc] at this;rw[this];show 1<=200;decide
 .rw[hE1];rfl
 clear hs hE1 hSI' hE' E' ss' fs';rintro-_ h40 m ⟨i,ss,fs,ars,E,M,rfl,rfl,hi,hs,hSI,hlt,hEl,hM,hvw⟩;have hsl:=hs.len 1 (s:=ss) (e:=67) (n:=1) rfl (by omega);rw[Yc] at hsl;refine⟨ss,hs.rd 0 rfl rfl,?_⟩;refine sBi (fun c2=>?_) (fun c2=>?_)
 .have hiE:i<E.length:=by omega
  refine⟨ss,hs.rd 0 rfl rfl,?_⟩;refine (hs.rows 1 (cs:=SE.hd) rfl (by omega)).nbI (by omega) (by omega) fun b43 o44 e g43 t43=>?_;replace g43:E[i]?=some e:=g43;have heE:=Yb g43;have hEget:(E.map (·.p))[i]?=some e.p:=by rw[Yd,g43];rfl
  have hep:∀j:Nat,e.p j=true->(j:Int)<g.n:=hlt e.p (Yp.2 ⟨e,heE,rfl⟩);refine⟨e.s,t43.hd,?_⟩;refine (events87 g role bl e.p e.s h40 (hl.ext hs.ext) hV ((hx.ext (hs1.ext.trans hs.ext))) (TL.set (A:=[]) hs hSI e heE) hep).mono ?_;rintro _ h48 ⟨E48,x47,rfl,ho47⟩;replace hs:=hs.gift E48 ho47 (evrows _);refine⟨x47,rfl,?_⟩;have hln:=(hs.rows 0 (cs:=Ev.cs) rfl (by omega)).ln;have hev:=evs_len (g:=g) (role:=role) (p:=e.p) hV;generalize hL:evs g.es role e.p=L at *;refine⟨fun x h' m=>∃(j:Nat) (ss2 fs2 ars2:Sl) (E2:List SE) (M2:List Mv),x=j/\m=x47.n-j/\j<=L.length/\St h22 h' (.sl x47 116 3 (L.map Ev.cs)::(TL h22.size g.e.toNat ss2 fs2 ars2 E2 M2++[]))/\(∀e∈E2,SI e.ws e.k e.p) /\
   (∀p∈E2.map (·.p),∀j:Nat,p j=true->(j:Int)<g.n)/\E2.length<=E.length+j/\M2.length<=M.length+j/\(E2.map (·.p))[i]?=some e.p /\
   arcsF g.es role i e.p L (E.map (·.p)) M=arcsF g.es role i e.p (L.drop j) (E2.map (·.p)) M2,⟨_,0,_,_,_,E,M,rfl,rfl,by omega,hs,hSI,hlt,by omega,by omega,by rw[Yd,g43];rfl,by rw[List.drop_zero]⟩,?_⟩
  clear hs hSI hlt hsl heE g43 t43 c2 ho47 E48 hi;rintro-_ h53 m ⟨j,ss2,fs2,ars2,E2,M2,rfl,rfl,hj,hs,hSI,hlt,hE2l,hM2,hget,harc⟩;have hsl2:=hs.len 2 (s:=ss2) (e:=67) (n:=1) rfl (by omega);rw[Yc] at hsl2;have hEi:i<E2.length:=by have:=(Ya.1 hget).1;rwa [Yc] at this
  refine sBi (fun c3=>?_) (fun c3=>?_)
  .refine (hs.rows 0 (cs:=Ev.cs) rfl (by omega)).nbI (by omega) (by omega) fun b54 o55 y g54 t54=>?_;replace g54:L[j]?=some y:=g54;refine⟨_,_,_,t54,?_⟩;refine hs.newput (vs:=y.cs) rfl rfl fun h60 hs=>?_;refine⟨ss2,hs.rd 2 rfl rfl,?_⟩;refine (hs.rows 3 (cs:=SE.hd) rfl (by omega)).nbI (by omega) (by omega) fun b62 o63 e2 g62 t62=>?_;replace g62:E2[i]?=some e2:=g62;have he2E:=Yb g62;have hpe:e2.p=e.p:=by rw[Yd,g62] at hget;exact Yyp hget
   refine⟨e2.s,t62.hd,?_⟩;refine⟨_,_,_,hs.at 0 rfl (n:=3) rfl,?_⟩;refine (after56 g role bl e2.p y e2.s h60 (hl.ext hs.ext) hV ((hx.ext (hs1.ext.trans hs.ext))) (TL.set (A:=[_,_]) hs hSI e2 he2E) (hlt e2.p (Yp.2 ⟨e2,he2E,rfl⟩))).mono ?_;rintro _ h70 ⟨E70,c4,k4,ws4,rfl,hc4,ho4,hS4⟩;replace hs:=hs.giftB E70 hc4 ho4;refine⟨⟨some ⟨c4,0,none⟩,k4,k4⟩,rfl,?_⟩;rw[hpe] at hS4;have hs:St h22 h70 ((⟨c4,k4,ws4,clo g.es role (toL g.es role e.p y)⟩:SE).it::(TL h22.size g.e.toNat ss2 fs2 ars2 E2 M2++[.blk h53.size y.cs 116,.sl x47 116 3 (L.map Ev.cs)])):=by
    rw[Yw] at hs;exact hs.perm (List.Perm.cons _ (List.perm_append_comm (l₁:=[_,_])))
   refine (row83 (bg:=h.size) hs hSI hS4 hb9 (he5 hs.ext) (by omega) (by omega)).mono ?_;rintro _ h73 ⟨rfl,E3,ss3,fs3,hs,hE3,hSI3⟩;refine⟨_,rfl,?_⟩;have hs:St h22 h73 (.blk h53.size y.cs 116 :: .sl x47 116 3 (L.map Ev.cs)::TL h22.size g.e.toNat ss3 fs3 ars2 E3 M2):=
    hs.perm (List.perm_append_comm (l₂:=[_,_]))
   refine⟨ars2,hs.rd 2 rfl rfl,?_⟩;refine⟨_,hs.rd 0 rfl rfl,?_⟩;refine⟨_,hs.rd 0 rfl rfl,?_⟩;refine⟨_,hs.rd 0 rfl rfl,?_⟩;have har:=(hs.rows 5 (s:=ars2) (cs:=Mv.cs) rfl (by omega)).ln;refine hs.app 5 rfl app31 (m:=1) [Mv.cs ⟨i,y.send,y.peer,y.label,rowI (E2.map (·.p)) (clo g.es role (toL g.es role e.p y)),false⟩] rfl rfl (fun r hr=>by rw[Ye] at hr;rw[hr];rfl) rfl (by omega) (by simp only[maxLen];omega) fun s79 h80 ns79 hs=>?_;refine hs.put 2 rfl (o:=2) (vs:=[.slice s79.a s79.n s79.c]) rfl (show 3<=3 by decide) fun h81 hs=>?_;have hrl:=rowS_len (S:=E2.map (·.p)) (p:=clo g.es role (toL g.es role e.p y));rw[<-hE3,Yc,Yc] at hrl;refine⟨_,by omega,j+1,ss3,fs3,s79,E3,M2++[⟨i,y.send,y.peer,y.label,rowI (E2.map (·.p)) (clo g.es role (toL g.es role e.p y)),false⟩],by rw[w64 (by omega) (by omega)];omega,rfl,by omega,?_,hSI3,?_,by omega,by rw[Yh,Yv];omega,by rw[hE3];exact rowS_get hget,?_⟩
   .rw[Yw];unfold TL;rw[Ym];exact hs.drop 1
   .intro p hp;rw[hE3,rowS_mem] at hp;rcases hp with hp | rfl
    .exact hlt p hp
    .exact clo_lt hV (toL_lt hV)
   .rw[harc,drop_get g54,hE3];rfl
  .have hjL:L.length<=j:=by omega
   rw[List.drop_eq_nil_of_le hjL] at harc;have harc:arcsF g.es role i e.p L (E.map (·.p)) M=(E2.map (·.p),M2):=harc;have hstep:views g role=if E2.length>200 then none else viewsF g.es role (202-(i+1)) (i+1) (E2.map (·.p)) M2:=by
    rw[hvw,show 202-i=(202-(i+1))+1 by omega,viewsF,hEget];show (if (arcsF g.es role i e.p (evs g.es role e.p) (E.map (·.p)) M).1.length>200 then none else _)=_;rw[hL,harc,Yc]
   refine⟨ss2,hs.rd 1 rfl rfl,?_⟩;refine sBi (fun c4=>?_) (fun c4=>?_)
   .rw[if_pos (by omega)] at hstep;have hsA:=hs1.step hs.ext;refine hsA.put 0 rfl (o:=0) (vs:=sl0) rfl (by decide) fun h84 hs=>?_;refine⟨⟨none,0,0⟩,⟨none,0,0⟩,⟨none,0,0⟩,hs.at 0 rfl (n:=3) rfl,?_⟩;exact⟨hs.ext,.limit ⟨hV,hr0,hr1⟩ hstep⟩
   .rw[if_neg (by omega)] at hstep;refine⟨_,by omega,i+1,ss2,fs2,ars2,E2,M2,by rw[w64 (by omega) (by omega)];omega,rfl,by omega,hs.drop 1,hSI,hlt,by omega,by omega,hstep⟩
 .have hiE:E.length<=i:=by omega
  have hfin:views g role=some (E.map (·.p),M):=by
   rw[hvw,show 202-i=(201-i)+1 by omega,viewsF,Yl (by rw[Yc];exact hiE)]
  refine⟨ss,fs,ars,hs.at 0 rfl (n:=3) rfl,?_⟩;have hsJ:=hs1.join (hs.drop 1);refine hsJ.put 0 rfl (o:=0) (vs:=[.slice ss.a ss.n ss.c,.slice fs.a fs.n fs.c,.slice ars.a ars.n ars.c]) rfl (show 3<=3 by decide) fun h92 hs=>?_;refine⟨ss,fs,ars,hs.at 0 rfl (n:=3) rfl,?_⟩;have hs:=hs.drop 2;rw[show TL h22.size g.e.toNat ss fs ars E M++[]=_ from Yw _] at hs;exact⟨hs.ext,.good ⟨hV,hr0,hr1⟩ hfin hs hSI hEl hlt (by omega)⟩
theorem ev_eqb (x y:Ev):(((x.send==y.send)&&((x.peer==y.peer)&&((x.label==y.label)&&true))):Bool)=decide (x=y):=by
 cases x;cases y;simp[Bool.beq_eq_decide_eq,<-Bool.decide_and]
theorem equal89 (L M:List Ev) (a b:Sl) (h:Heap) (ha:Rw h 3 a (L.map Ev.cs)) (hb:Rw h 3 b (M.map Ev.cs)) (hm:L.length<=1048576) :
  Fn Pz 89 #[.slice a.a a.n a.c,.slice b.a b.n b.c] h fun v h'=>v=.bool (decide (L=M))/\h'=h:=by
 apply vc89;unfold W89;have hn:=ha.ln;have hn2:=hb.ln;refine sBn (fun c1=>⟨dF fun e=>c1 (by rw[hn,hn2,e]),rfl⟩) (fun c1=>?_);refine up_loop (n:=a.n) (fun i h'=>h'=h/\L.take i=M.take i) ⟨rfl,rfl⟩ ?_;rintro-i h5 hi ⟨rfl,hd⟩;refine sB_intro (fun l=>?_) (fun l=>?_)
 .replace l:=lt_t l;refine ha.nbI (by omega) (by omega) fun b6 o7 x g6 t6=>?_;replace g6:L[i]?=some x:=g6;refine⟨_,_,_,t6,?_⟩;refine hb.nbI (by omega) (by omega) fun b11 o12 y g11 t11=>?_;replace g11:M[i]?=some y:=g11;refine⟨_,_,_,t11,?_⟩;rw[ev_eqb];refine sB_intro (fun c2=>?_) (fun c2=>?_)
  .have hne:x≠y:=by simpa using c2
   refine⟨dF fun e=>hne ?_,rfl⟩;subst e;rw[g6] at g11;exact Yyp g11
  .have he:x=y:=by simpa using c2
   refine Up.next l (by omega) ⟨rfl,?_⟩;rw[take_snoc g6,take_snoc g11,hd,he]
 .replace l:=lt_f l;refine⟨dT ?_,rfl⟩
  rwa [Yj (by omega),Yj (by omega)] at hd
structure PrI (h:Heap) (p:Addr) (n:Nat) (F:Nat->List Ev) (en:Nat->Bool) (O:List Bool) (T:List Ti):Prop where
 ex:∃(sf se so st:Sl) (fs:Nat->Sl),atC h p [.slice sf.a sf.n sf.c,.slice se.a se.n se.c,.slice so.a so.n so.c,.slice st.a st.n st.c] /\
  Rw h 1 sf ((List.range n).map fun i=>slC (fs i))/\(∀i,i<n->Rw h 3 (fs i) ((F i).map Ev.cs))/\Rw h 1 se ((List.range n).map fun i=>bC (en i))/\Rw h 1 so (O.map bC)/\Rw h 5 st (T.map Ti.cs)/\O.length=n/\T.length=n
theorem made4b (n:Nat):madeL Pz 4 n=((List.replicate n false).map bC).flatten:=by
 have e:zeroC Pz 4=[.bool false]:=by kernel_rfl
 unfold madeL;rw[e,List.map_replicate];rfl
theorem made93 (n:Nat):madeL Pz 93 n=((List.replicate n ti0).map Ti.cs).flatten:=by
 have e:zeroC Pz 93=Ti.cs ti0:=by kernel_rfl
 unfold madeL;rw[e,List.map_replicate]
theorem app159:appB Pz 159 91 3 24=true:=by kernel_rfl
theorem app154:appB Pz 154 159 1 24=true:=by kernel_rfl
def prL0 (ps gb:Nat) (g:Gl) (sf se so st:Sl) (Q:List Sl) (B:List Bool) (O:List Bool) (T:List Ti):List It:=
 [.blk ps [.slice sf.a sf.n sf.c,.slice se.a se.n se.c,.slice so.a so.n so.c,.slice st.a st.n st.c] 156,.sl sf 159 1 (Q.map slC),.sl se 4 1 (B.map bC),.sl so 4 1 (O.map bC),.sl st 93 5 (T.map Ti.cs),.blk gb g.cs 27]
def prL (ps gb:Nat) (g:Gl) (sf se so st:Sl) (Q:List (Sl × List Ev)) (B:List Bool) (O:List Bool) (T:List Ti):List It:=
 prL0 ps gb g sf se so st (Q.map Prod.fst) B O T++Q.map (nest 91 3 Ev.cs)
theorem prL_fin {h h':Heap} {ps gb:Nat} {g:Gl} {sf se so st:Sl} {Q:List (Sl × List Ev)} {n:Nat} {F:Nat->List Ev} {en:Nat->Bool} {O:List Bool} {T:List Ti} (hs:St h h' (prL ps gb g sf se so st Q ((List.range n).map en) O T)) (hQ:Q.map Prod.snd=(List.range n).map F) (hO:O.length=n) (hT:T.length=n):PrI h' ⟨ps,0,none⟩ n F en O T:=by
 have hQl:Q.length=n:=by have:=congrArg List.length hQ;simpa using this
 have hget:∀i,i<n->∃q,Q[i]?=some (q,F i):=fun i hi=>by
  obtain⟨q,hq⟩:=get_some (l:=Q) (i:=i) (by omega);have:=congrArg (·[i]?) hQ;simp only[Yd,hq,Yyb hi,Option.map_some,Option.some.injEq] at this;exact⟨q.1,by rw[hq,<-this]⟩
 refine⟨sf,se,so,st,fun i=>((Q[i]?).map Prod.fst).getD ⟨none,0,0⟩,hs.at 0 rfl (n:=4) rfl,?_,fun i hi=>?_,?_,hs.rw 3 rfl (by omega),hs.rw 4 rfl (by omega),hO,hT⟩
 .have h1:=hs.rw 1 (s:=sf) (e:=159) (n:=1) (rows:=(Q.map Prod.fst).map slC) rfl (by omega);have e:(Q.map Prod.fst).map slC=(List.range n).map fun i=>slC (((Q[i]?).map Prod.fst).getD ⟨none,0,0⟩):=by
   apply Yyr;intro i;rw[Yd,Yd,Yd];by_cases hi:i<n
   .obtain⟨q,hq⟩:=hget i hi;rw[hq,Yyb hi,Option.map_some,Option.map_some,Option.map_some,hq];rfl
   .rw[Yl (by omega),Yl (by rw[Yyd];omega)];rfl
  rwa [e] at h1
 .obtain⟨q,hq⟩:=hget i hi;show Rw h' 3 ((Option.map Prod.fst Q[i]?).getD ⟨none,0,0⟩) _;rw[hq];have hm:nest 91 3 Ev.cs (q,F i)∈prL ps gb g sf se so st Q ((List.range n).map en) O T:=by
   unfold prL;rw[Yk];right;exact Yp.2 ⟨_,Yb hq,rfl⟩
  have:=(hs.ok _ hm).1;exact this.1.rw this.2 (by omega)
 .have h1:=hs.rw 2 (s:=se) (e:=4) (n:=1) (rows:=((List.range n).map en).map bC) rfl (by omega);rw[List.map_map] at h1;exact h1
theorem arows (role:Int) (L:List Ev):∀r∈L.map (aC role),r.length=5:=fun r hr=>by obtain⟨x,_,rfl⟩:=Yp.1 hr;rfl
theorem brows (L:List Bool):∀r∈L.map bC,r.length=1:=fun r hr=>by obtain⟨x,_,rfl⟩:=Yp.1 hr;rfl
theorem tirows (L:List Ti):∀r∈L.map Ti.cs,r.length=5:=fun r hr=>by obtain⟨x,_,rfl⟩:=Yp.1 hr;rfl
theorem prepare40 (g:Gl) (role:Int) (h:Heap) (hg:GI h g) (hx:Gx h) (hV:ValidS g) (hr0:0<=role) (hr1:role<g.rs.length) :
  Fn Pz 40 #[g.v,.int .i64 role] h fun v h'=>Ext h h'/\∃(ps gb:Nat) (sf se so st:Sl) (Q:List (Sl × List Ev)),v=.pointer (some ⟨ps,0,none⟩)/\St h h' (prL ps gb g sf se so st Q ((List.range g.n.toNat).map fun j:Nat=>firstB g role j) (ownE g.es role g.n.toNat).1 (ownT g.es g.ts role g.n.toNat))/\Q.map Prod.snd=(List.range g.n.toNat).map fun j:Nat=>firstE g role j:=by
 apply vc40 (bs g.nm) g.hr g.hd g.n g.s g.e g.he g.ht;unfold W40 V40a V40b;have hs:=St.refl h;have hN:=hV.num.n;have hM:=hV.num.m;have hmx:g.n.toNat<=maxLen:=by simp only[maxLen];omega
 refine hs.newb fun h9 hs=>?_;refine⟨_,hs.rd 0 rfl rfl,_,hs.rd 0 rfl rfl,?_⟩;rw[made4b,made93];refine⟨?_,?_⟩;refine⟨by omega,?_⟩;refine hs.newbE fun h12 E12 hs=>⟨E12.sm,?_⟩;have hs:=hs.blkS g.n.toNat 1 _ rfl (brows _) (by rw[Yc,Yg]) hmx;refine⟨by omega,?_⟩;refine hs.newbE fun h13 E13 hs=>⟨E13.sm,?_⟩;have hs:=hs.blkS g.n.toNat 5 _ rfl (tirows _) (by rw[Yc,Yg]) hmx;have hsz:h.size<=h13.size:=hs.ext.1;refine hs.newb fun h14 hs=>?_;have hs:St h h14 (prL h13.size h.size g ⟨none,0,0⟩ ⟨none,0,0⟩ ⟨some ⟨h9.size,0,none⟩,g.n.toNat,g.n.toNat⟩ ⟨some ⟨h12.size,0,none⟩,g.n.toNat,g.n.toNat⟩ [] [] (List.replicate g.n.toNat false) (List.replicate g.n.toNat ti0)):=
  ((hs.nil_ 4 1).nil_ 159 1).perm (((List.perm_append_comm (l₁:=[_,_]) (l₂:=[_])).append_right _).trans (List.Perm.cons _ (List.Perm.cons _ (List.Perm.cons _ (List.Perm.swap _ _ _)))))
 generalize (⟨some ⟨h9.size,0,none⟩,g.n.toNat,g.n.toNat⟩:Sl)=so at hs;generalize (⟨some ⟨h12.size,0,none⟩,g.n.toNat,g.n.toNat⟩:Sl)=st at hs;rotate_left;refine⟨by omega,?_⟩;refine hs.newbE fun h12 E12 hs=>⟨E12.sm,?_⟩;have hs:=hs.blkS g.n.toNat 5 _ rfl (tirows _) (by rw[Yc,Yg]) hmx;refine⟨by omega,?_⟩;refine hs.newbE fun h13 E13 hs=>⟨E13.sm,?_⟩;have hs:=hs.blkS g.n.toNat 1 _ rfl (brows _) (by rw[Yc,Yg]) hmx;have hsz:h.size<=h13.size:=hs.ext.1;refine hs.newb fun h14 hs=>?_;have hs:St h h14 (prL h13.size h.size g ⟨none,0,0⟩ ⟨none,0,0⟩ ⟨some ⟨h12.size,0,none⟩,g.n.toNat,g.n.toNat⟩ ⟨some ⟨h9.size,0,none⟩,g.n.toNat,g.n.toNat⟩ [] [] (List.replicate g.n.toNat false) (List.replicate g.n.toNat ti0)):=
  ((hs.nil_ 4 1).nil_ 159 1).perm ((List.perm_append_comm (l₁:=[_,_]) (l₂:=[_])).append_right _)
 generalize (⟨some ⟨h12.size,0,none⟩,g.n.toNat,g.n.toNat⟩:Sl)=so at hs;generalize (⟨some ⟨h9.size,0,none⟩,g.n.toNat,g.n.toNat⟩:Sl)=st at hs;all_goals
  refine⟨_,hs.rd 5 rfl rfl,?_⟩;refine⟨fun x h' m=>∃(i:Nat) (sf se:Sl) (Q:List (Sl × List Ev)),x=i/\m=g.n.toNat-i/\i<=g.n.toNat/\St h h' (prL h13.size h.size g sf se so st Q ((List.range i).map fun j:Nat=>firstB g role j) (List.replicate g.n.toNat false) (List.replicate g.n.toNat ti0))/\Q.map Prod.snd=(List.range i).map fun j:Nat=>firstE g role j,⟨_,0,_,_,[],rfl,rfl,by omega,hs,rfl⟩,?_⟩;rintro-_ h20 m ⟨i,sf,se,Q,rfl,rfl,hi,hs,hQ⟩;have hQl:Q.length=i:=by have:=congrArg List.length hQ;simpa using this
  have hsfl:=hs.len 1 (s:=sf) (e:=159) (n:=1) rfl (by omega);have hsel:=hs.len 2 (s:=se) (e:=4) (n:=1) rfl (by omega);rw[Yc,Yc] at hsfl;rw[Yc,Yc,Yyd] at hsel;refine sBi (fun c1=>?_) (fun c1=>?_)
  .refine⟨_,_,_,_,_,_,_,_,hs.at 5 rfl (n:=8) rfl,?_⟩;refine (first88 g role i h20 (hg.ext hs.ext) (hx.ext hs.ext) hV hr0 hr1 (by omega) (by omega)).mono ?_;rintro _ h33 ⟨E33,x30,rfl,ho30⟩;replace hs:=hs.gift E33 ho30 (arows role _);refine⟨x30,_,_,rfl,?_⟩;have hlen:=(hs.rows 0 (cs:=aC role) rfl (by omega)).ln;have hev:(firstE g role i).length<=400:=evs_len hV;generalize hL:firstE g role i=L at *;have hs:=hs.nil_ 91 3;refine up_loopA (n:=x30.n) hs (fun i rows=>rows=(L.take i).map Ev.cs) rfl ?_;clear hs;rintro-j out h39 rows hj hs rfl;have holn:=(hs.rows 0 (cs:=Ev.cs) rfl (by omega)).ln;rw[Yu] at holn;refine sB_intro (fun l2=>?_) (fun l2=>?_)
   .replace l2:=lt_t l2;refine (hs.rows 1 (cs:=aC role) rfl (by omega)).nbI (by omega) (by omega) fun b40 o41 y g40 t40=>?_;replace g40:L[j]?=some y:=g40;refine⟨_,_,_,_,⟨none,0,0⟩,t40,?_⟩;refine hs.newput (vs:=aC role y) rfl rfl fun h48 hs=>?_;refine⟨_,hs.rd 0 rfl rfl,?_⟩;refine⟨_,hs.rd 0 rfl rfl,?_⟩;refine⟨_,hs.rd 0 rfl rfl,?_⟩;refine hs.app 1 rfl app159 (m:=1) [Ev.cs y] rfl rfl (fun r hr=>by rw[Ye] at hr;rw[hr];rfl) rfl (by omega) (by simp only[maxLen];omega) fun s53 h54 ns hs=>?_;refine UpA.next l2 (by omega) ⟨_,hs.drop 1,?_⟩;rw[take_snoc g40,Ym];rfl
   .replace l2:=lt_f l2;rw[Yj (by omega)] at hs;replace hs:=hs.eras 1;refine⟨sf,hs.rd 1 rfl rfl,se,hs.rd 1 rfl rfl,?_⟩;have fin:∀ {h':Heap} {sf' se':Sl},St h h' (.sl out 91 3 (L.map Ev.cs)::prL0 h13.size h.size g sf' se' so st (Q.map Prod.fst++[out]) (((List.range i).map fun j:Nat=>firstB g role j)++[firstB g role i]) (List.replicate g.n.toNat false) (List.replicate g.n.toNat ti0)++Q.map (nest 91 3 Ev.cs)) ->
      ∃m,m<g.n.toNat-i/\∃(i2:Nat) (sf se:Sl) (Q:List (Sl × List Ev)),IntKind.wrap .i64 ((i:Int)+1)=i2/\m=g.n.toNat-i2/\i2<=g.n.toNat/\St h h' (prL h13.size h.size g sf se so st Q ((List.range i2).map fun j:Nat=>firstB g role j) (List.replicate g.n.toNat false) (List.replicate g.n.toNat ti0))/\Q.map Prod.snd=(List.range i2).map fun j:Nat=>firstE g role j:=by
     intro h' sf' se' h1;refine⟨_,by omega,i+1,sf',se',Q++[(out,L)],by rw[w64 (by omega) (by omega)];omega,rfl,by omega,?_,?_⟩
     .have e1:(List.range (i+1)).map (fun j:Nat=>firstB g role j)=((List.range i).map fun j:Nat=>firstB g role j)++[firstB g role i]:=by rw[List.range_succ,Ym];rfl
      unfold prL;rw[e1,Ym (f:=Prod.fst),Ym (f:=nest 91 3 Ev.cs),<-Yz];refine h1.perm ?_;exact (List.perm_append_singleton _ _).symm
     .rw[Ym,hQ,List.range_succ,Ym,<-hL];rfl
    have hrow1:∀r∈[slC out],r.length=1:=fun r hr=>by rw[Ye] at hr;rw[hr];rfl
    have hrow2:∀r∈[bC (firstB g role i)],r.length=1:=fun r hr=>by rw[Ye] at hr;rw[hr];rfl
    have fin2:∀ {h':Heap} {sf' se':Sl} {a b:It},St h h' (a::b :: .sl out 91 3 (L.map Ev.cs) :: .blk h13.size [.slice sf'.a sf'.n sf'.c,.slice se'.a se'.n se'.c,.slice so.a so.n so.c,.slice st.a st.n st.c] 156 :: .sl sf' 159 1 ((Q.map Prod.fst).map slC++[slC out]) :: .sl se' 4 1 (((List.range i).map fun j:Nat=>firstB g role j).map bC++[bC (firstB g role i)]) :: .sl so 4 1 ((List.replicate g.n.toNat false).map bC) :: .sl st 93 5 ((List.replicate g.n.toNat ti0).map Ti.cs) :: .blk h.size g.cs 27::Q.map (nest 91 3 Ev.cs)) ->
      ∃m,m<g.n.toNat-i/\∃(i2:Nat) (sf se:Sl) (Q:List (Sl × List Ev)),IntKind.wrap .i64 ((i:Int)+1)=i2/\m=g.n.toNat-i2/\i2<=g.n.toNat/\St h h' (prL h13.size h.size g sf se so st Q ((List.range i2).map fun j:Nat=>firstB g role j) (List.replicate g.n.toNat false) (List.replicate g.n.toNat ti0))/\Q.map Prod.snd=(List.range i2).map fun j:Nat=>firstE g role j:=by
     intro h' sf' se' a b h1;refine fin (sf':=sf') (se':=se') ?_;unfold prL0;rw[Ym (f:=slC),Ym (f:=bC)];exact h1.drop 2
    refine⟨?_,?_⟩
    .refine hs.newbE fun h58 E58 hs=>⟨E58.sm,?_⟩;refine⟨?_,?_⟩
     .refine hs.appended 3 (rows:=(Q.map Prod.fst).map slC) rfl app154 (m:=1) (news:=[slC out]) (hs.at 0 rfl (n:=1) rfl) rfl hrow1 rfl (by omega) (by simp only[maxLen];omega) fun s59 h60 n59 hs60=>?_;refine⟨sm_cons (hs.same hs60 2 2 rfl rfl) sm_nil,?_⟩;clear hs;refine hs60.newbE fun h61 E61 hs=>⟨E61.sm,?_⟩;refine hs.appended 5 (rows:=((List.range i).map fun j:Nat=>firstB g role j).map bC) rfl app30 (m:=1) (news:=[bC (firstB g role i)]) (hs.at 0 rfl (n:=1) rfl) rfl hrow2 rfl (by omega) (by simp only[maxLen];omega) fun s62 h63 n62 hs63=>?_;refine⟨sm_cons (hs.same hs63 3 3 rfl rfl) sm_nil,?_⟩;refine hs63.put 3 rfl (o:=0) (vs:=[.slice s59.a s59.n s59.c]) rfl (show 1<=4 by decide) fun h64 hs=>?_;refine hs.put 3 rfl (o:=1) (vs:=[.slice s62.a s62.n s62.c]) rfl (show 2<=4 by decide) fun h65 hs=>?_;exact fin2 hs
     .refine hs.newbE fun h67 E67 hs=>⟨E67.sm,?_⟩;refine hs.appended 4 (rows:=(Q.map Prod.fst).map slC) rfl app154 (m:=1) (news:=[slC out]) (hs.at 1 rfl (n:=1) rfl) rfl hrow1 rfl (by omega) (by simp only[maxLen];omega) fun s59 h60 n59 hs60=>?_;refine⟨sm_cons (hs.same hs60 3 3 rfl rfl) sm_nil,?_⟩;refine hs60.appended 5 (rows:=((List.range i).map fun j:Nat=>firstB g role j).map bC) rfl app30 (m:=1) (news:=[bC (firstB g role i)]) (hs60.at 0 rfl (n:=1) rfl) rfl hrow2 rfl (by omega) (by simp only[maxLen];omega) fun s62 h63 n62 hs63=>?_;refine⟨sm_cons (hs60.same hs63 3 3 rfl rfl) sm_nil,?_⟩;refine hs63.put 3 rfl (o:=0) (vs:=[.slice s59.a s59.n s59.c]) rfl (show 1<=4 by decide) fun h64 hs=>?_;refine hs.put 3 rfl (o:=1) (vs:=[.slice s62.a s62.n s62.c]) rfl (show 2<=4 by decide) fun h65 hs=>?_;exact fin2 hs
    .refine hs.newbE fun h75 E75 hs=>⟨E75.sm,?_⟩;refine hs.newbE fun h76 E76 hs=>⟨E76.sm,?_⟩;refine hs.appended 4 (rows:=(Q.map Prod.fst).map slC) rfl app154 (m:=1) (news:=[slC out]) (hs.at 0 rfl (n:=1) rfl) rfl hrow1 rfl (by omega) (by simp only[maxLen];omega) fun s59 h60 n59 hs60=>?_;refine⟨sm_cons (hs.same hs60 3 3 rfl rfl) sm_nil,?_⟩;refine hs60.appended 5 (rows:=((List.range i).map fun j:Nat=>firstB g role j).map bC) rfl app30 (m:=1) (news:=[bC (firstB g role i)]) (hs60.at 1 rfl (n:=1) rfl) rfl hrow2 rfl (by omega) (by simp only[maxLen];omega) fun s62 h63 n62 hs63=>?_;refine⟨sm_cons (hs60.same hs63 3 3 rfl rfl) sm_nil,?_⟩;refine hs63.put 3 rfl (o:=0) (vs:=[.slice s59.a s59.n s59.c]) rfl (show 1<=4 by decide) fun h64 hs=>?_;refine hs.put 3 rfl (o:=1) (vs:=[.slice s62.a s62.n s62.c]) rfl (show 2<=4 by decide) fun h65 hs=>?_;exact fin2 hs
  .have hi2:i=g.n.toNat:=by omega
   subst hi2;refine⟨_,hs.rd 5 rfl rfl,?_⟩;have hE:=hg.e.ln;refine up_loop (n:=g.he.n) (fun i h'=>St h h' (prL h13.size h.size g sf se so st Q ((List.range g.n.toNat).map fun j:Nat=>firstB g role j) (ownE (g.es.take i) role g.n.toNat).1 (ownE (g.es.take i) role g.n.toNat).2)) hs ?_;clear hs;rintro-j h89 hj hs;have hol:=ownE_len (g.es.take j) role g.n.toNat;have hso:=hs.len 3 (s:=so) (e:=4) (n:=1) rfl (by omega);have hst:=hs.len 4 (s:=st) (e:=93) (n:=5) rfl (by omega);rw[Yc] at hso hst;refine sB_intro (fun l=>?_) (fun l=>?_)
   .replace l:=lt_t l;refine (hg.e.ext hs.ext).rw.nbI (by omega) (by omega) fun b90 o91 x g90 t90=>?_;replace g90:g.es[j]?=some x:=g90;have hEx:=hV.num.e x (Yb g90);unfold EdS at hEx;have hstep:ownE (g.es.take (j+1)) role g.n.toNat=own1 role (ownE (g.es.take j) role g.n.toNat) x:=by unfold ownE;exact foldl_snoc g90
    refine⟨_,_,_,_,_,_,t90,?_⟩;refine hs.newput (vs:=x.cs) rfl rfl fun h99 hs=>?_;refine⟨_,hs.rd 0 rfl rfl,?_⟩;refine sBe (fun c2=>?_) (fun c2=>?_)
    .refine⟨so,hs.rd 1 rfl rfl,_,hs.rd 0 rfl rfl,st,hs.rd 1 rfl rfl,_,hs.rd 0 rfl rfl,_,hs.rd 0 rfl rfl,?_⟩;obtain⟨t0,ht0⟩:=get_some (l:=(ownE (g.es.take j) role g.n.toNat).2) (i:=x.f.toNat) (by omega);refine hs.set 4 rfl (by omega) (by omega) (by omega) true rfl rfl (fun b106 o107 h108 hs2=>?_) rfl;refine⟨sm_cons (hs.same hs2 0 0 rfl rfl) (sm_cons (hs.same hs2 0 0 rfl rfl) sm_nil),?_⟩;refine hs2.setf 5 rfl (by omega) (by omega) (by omega) 0 ht0 { t0 with ag:=x.ag } (vs:=[.bool x.ag]) rfl (show 1<=5 by decide) rfl fun b109 o110 h111 hs3=>?_;refine Up.next l (by omega) ?_;rw[hstep];unfold own1;rw[if_pos c2,updT_get ht0];exact hs3.drop 1
    .refine Up.next l (by omega) ?_;rw[hstep];unfold own1;rw[if_neg c2];exact hs.drop 1
   .replace l:=lt_f l;rw[Yj (by omega)] at hs;clear hol hso hst;refine⟨_,hs.rd 5 rfl rfl,?_⟩;have hTl:=hg.t.ln;have hTs:=hg.t.sm;have hO:(ownE g.es role g.n.toNat).1.length=g.n.toNat:=(ownE_len _ _ _).1;refine up_loop (n:=g.ht.n) (fun i h'=>St h h' (prL h13.size h.size g sf se so st Q ((List.range g.n.toNat).map fun j:Nat=>firstB g role j) (ownE g.es role g.n.toNat).1 (ownT g.es (g.ts.take i) role g.n.toNat))) hs ?_;clear hs;rintro-k h119 hk hs;have hol:=ownT_len g.es (g.ts.take k) role g.n.toNat;have hso:=hs.len 3 (s:=so) (e:=4) (n:=1) rfl (by omega);have hst:=hs.len 4 (s:=st) (e:=93) (n:=5) rfl (by omega);rw[Yc] at hso hst;refine sB_intro (fun l=>?_) (fun l=>?_)
    .replace l:=lt_t l;refine (hg.t.ext hs.ext).rw.nbI (by omega) (by omega) fun b120 o121 t g120 t120=>?_;replace g120:g.ts[k]?=some t:=g120;obtain⟨ht1,ht2,ht3,x,ht4,ht5,ht6⟩:=hV.tim k t g120;have hEx:=hV.num.e x (Yb ht4);unfold EdS at hEx;have hstep:ownT g.es (g.ts.take (k+1)) role g.n.toNat=own2 g.es (ownE g.es role g.n.toNat).1 (ownT g.es (g.ts.take k) role g.n.toNat) t:=by unfold ownT;exact foldl_snoc g120
     refine⟨_,_,_,t120,?_⟩;refine hs.newput (vs:=t.cs) rfl rfl fun h126 hs=>?_;refine⟨so,hs.rd 1 rfl rfl,_,hs.rd 0 rfl rfl,?_⟩;refine (hs.rows 4 (cs:=bC) rfl (by omega)).nbI (by omega) (by omega) fun b129 o130 ob g129 t129=>?_;refine⟨_,t129.hd,?_⟩;refine sB_intro (fun c2=>?_) (fun c2=>?_)
     .subst c2;refine⟨_,hs.rd 6 rfl rfl,_,hs.rd 0 rfl rfl,?_⟩;have hee:=(Ya.1 ht4).1;refine (hg.e.ext hs.ext).rw.nbI (by omega) (by omega) fun b134 o135 x' g134 t134=>?_;rw[ht4] at g134;cases g134;refine⟨_,_,_,t134.sub 1 3 rfl,?_⟩;refine hs.newput (vs:=[.int .i64 x.a,.int .i64 x.b,.int .i64 x.l]) rfl rfl fun h140 hs=>?_;refine⟨st,hs.rd 2 rfl rfl,_,hs.rd 1 rfl rfl,st,hs.rd 2 rfl rfl,_,hs.rd 1 rfl rfl,_,hs.rd 1 rfl rfl,_,hs.rd 0 rfl rfl,_,hs.rd 0 rfl rfl,?_⟩;obtain⟨t0,ht0⟩:=get_some (l:=ownT g.es (g.ts.take k) role g.n.toNat) (i:=t.s.toNat) (by omega);refine hs.setf 6 rfl (by omega) (by omega) (by omega) 1 ht0 { t0 with k:=t.k } (vs:=[.int .i64 t.k]) rfl (show 2<=5 by decide) rfl fun b148 o149 h150 hs2=>?_;refine⟨sm_cons (hs.same hs2 0 0 rfl rfl) (sm_cons (hs.same hs2 0 0 rfl rfl) (sm_cons (hs.same hs2 1 1 rfl rfl) sm_nil)),?_⟩;refine hs2.setf 6 rfl (by omega) (by omega) (by omega) 2 (Yq (by omega)) ⟨t0.ag,t.k,⟨true,x.b,x.l⟩⟩ (vs:=[.bool true,.int .i64 x.b,.int .i64 x.l]) rfl (show 5<=5 by decide) rfl fun b151 o152 h153 hs3=>?_;refine Up.next l (by omega) ?_;rw[hstep];unfold own2;rw[g129,ht4];show St h h153 (prL _ _ _ _ _ _ _ _ _ _ (updT _ _ _));rw[updT_get ht0];rw[List.set_set,List.set_set] at hs3;exact hs3.drop 2
     .subst c2;refine Up.next l (by omega) ?_;rw[hstep];unfold own2;rw[g129,ht4];exact hs.drop 1
    .replace l:=lt_f l;rw[Yj (by omega)] at hs;exact⟨hs.ext,h13.size,h.size,sf,se,so,st,Q,rfl,hs,hQ⟩
theorem rangeG {n i k:Nat} (h:(List.range n)[i]?=some k):i=k/\i<n:=by
 obtain⟨h1,h2⟩:=Ya.1 h;rw[List.getElem_range] at h2;rw[Yyd] at h1;exact⟨h2,h1⟩
theorem view41 (p:Nat) (n:Nat) (F:Nat->List Ev) (en:Nat->Bool) (O:List Bool) (T:List Ti) (l:List Nat) (s:Sl) (h:Heap) (hP:PrI h ⟨p,0,none⟩ n F en O T) (hl:Rw h 1 s ((l.map fun k:Nat=>(k:Int)).map inC)) (hln:∀k∈l,k<n) (hll:l.length<=4096) (hF:∀k,k<n->(F k).length<=400) :
  Fn Pz 41 #[.pointer (some ⟨p,0,none⟩),.slice s.a s.n s.c] h fun v h'=>Ext h h'/\∃(o:Ti) (ok:Bool),v=.tuple ⟨[.agg ⟨Ti.cs o⟩,.bool ok]⟩/\viewV F en O T l=if ok then some o else none:=by
 apply vc41;unfold W41 V41b V41a;obtain⟨sf,se,so,st,fs,h1,h2,h3,h4,h5,h6,hO,hT⟩:=hP.ex;have hs:=St.refl h;refine hs.newb fun h1' hs=>?_;refine hs.newb fun h2' hs=>?_;have hsn:=hl.ln;rw[Yc] at hsn;have hfn:=h2.ln;have hen:=h4.ln;have hon:=h5.ln;have htn:=h6.ln;rw[Yyd] at hfn hen;refine⟨fun known x h' m=>∃(i:Nat) (o:Ti),x=i/\m=l.length-i/\i<=l.length/\St h h' [.blk h1'.size o.cs 93,.blk h.size ti0.cs 93]/\(l.take i).foldl (stepV F en O T l) (some (false,ti0))=some (known,o),⟨_,0,ti0,rfl,rfl,by omega,hs,rfl⟩,?_⟩;clear hs;rintro-known _ h8 m ⟨i,o,rfl,rfl,hi,hs,hst⟩;refine sBi (fun c1=>?_) (fun c1=>?_)
 .refine (hl.ext hs.ext).nbI (by omega) (by omega) fun b9 o10 d9 g9 t9=>?_;rw[Ys,Yd] at g9;obtain⟨k,gk,rfl⟩:=Yya.1 g9;have hk:=hln k (Yb gk);refine⟨_,t9.hd,?_⟩;have nth0:=(atC_ext hs.ext h1).nth 0 rfl;have nth1:=(atC_ext hs.ext h1).nth 1 rfl;have nth2:=(atC_ext hs.ext h1).nth 2 rfl;have nth3:=(atC_ext hs.ext h1).nth 3 rfl;have h2e:=h2.ext hs.ext;have h4e:=h4.ext hs.ext;have h5e:=h5.ext hs.ext;have h6e:=h6.ext hs.ext;have h3e:∀i,i<n->Rw h8 3 (fs i) ((F i).map Ev.cs):=fun i hi=>(h3 i hi).ext hs.ext;have hfk:=(h3e k hk).ln;have hFk:=hF k hk;have hsk:stepV F en O T l (some (known,o)) k=if badV F en l k then none else match O[k]?,T[k]? with | some true,some t=>if known&&decide (t≠o) then none else some (true,t) | _,_=>some (known,o):=rfl
  refine⟨fun h'=>h'=h8/\badV F en l k=false,?_,?_⟩
  .refine⟨sf,nth0,?_⟩;refine h2e.nbI (by omega) (by omega) fun b14 o15 d g14 t14=>?_;obtain⟨rfl,_⟩:=rangeG g14
   (try rw[Ys] at t14);(try rw[Ys])
   refine⟨_,t14.hd,?_⟩;refine sBi (fun c2=>?_) (fun c2=>?_)
   .refine⟨sf,nth0,?_⟩;refine h2e.nbI (by omega) (by omega) fun b18 o19 d g18 t18=>?_;obtain⟨rfl,_⟩:=rangeG g18
    (try rw[Ys] at t18);(try rw[Ys])
    refine⟨_,t18.hd,?_⟩;refine (h3e k hk).nbI (by omega) (by omega) fun b21 o22 e0 g21 t21=>?_;replace g21:(F k)[0]?=some e0:=g21;refine⟨_,t21.hd,?_⟩;have hs0:sndAt (F k) 0=e0.send:=by unfold sndAt;rw[g21]
    refine sB_intro (fun c3=>?_) (fun c3=>?_)
    .refine⟨se,nth1,?_⟩;refine h4e.nbI (by omega) (by omega) fun b25 o26 d g25 t25=>?_;obtain⟨rfl,_⟩:=rangeG g25
     (try rw[Ys] at t25);(try rw[Ys])
     refine⟨_,t25.hd,?_⟩;refine sB_intro (fun c4=>?_) (fun c4=>?_)
     .refine⟨_,_,_,_,_,hs.at 0 rfl (n:=5) rfl,?_⟩;refine hs.put 1 rfl (o:=0) (vs:=Ti.cs o) rfl (show 5<=5 by decide) fun h33 hs=>?_;refine⟨_,_,_,_,_,hs.at 1 rfl (n:=5) rfl,hs.ext,o,false,rfl,?_⟩;exact viewV_none hst gk (by rw[hsk,if_pos];unfold badV;rw[hs0,c3,c4];rfl)
     .refine⟨sf,nth0,?_⟩;refine h2e.nbI (by omega) (by omega) fun b40 o41 d g40 t40=>?_;obtain⟨rfl,_⟩:=rangeG g40
      (try rw[Ys] at t40);(try rw[Ys])
      refine⟨_,t40.hd,?_⟩;refine⟨sf,nth0,?_⟩;refine h2e.nbI (by omega) (by omega) fun b44 o45 d g44 t44=>?_;obtain⟨rfl,_⟩:=rangeG g44
      (try rw[Ys] at t44);(try rw[Ys])
      refine⟨_,t44.hd,?_⟩;rw[w64 (by omega) (by omega)];refine (h3e k hk).nbI (by omega) (by omega) fun b47 o48 e1 g47 t47=>?_;replace g47:(F k)[((fs k).n-1:Int).toNat]?=some e1:=g47;refine⟨_,t47.hd,?_⟩;have hs1:sndAt (F k) ((F k).length-1)=e1.send:=by
       unfold sndAt;rw[show (F k).length-1=((fs k).n-1:Int).toNat by omega,g47]
      refine sB_intro (fun c5=>?_) (fun c5=>?_)
      .refine⟨_,_,_,_,_,hs.at 0 rfl (n:=5) rfl,?_⟩;refine hs.put 1 rfl (o:=0) (vs:=Ti.cs o) rfl (show 5<=5 by decide) fun h33 hs=>?_;refine⟨_,_,_,_,_,hs.at 1 rfl (n:=5) rfl,hs.ext,o,false,rfl,?_⟩;have c5:=bF c5;exact viewV_none hst gk (by rw[hsk,if_pos];unfold badV;rw[hs0,c3,hs1,c5];simp)
      .have c5:=bT c5;refine up_loop (n:=s.n) (fun j h'=>h'=h8/\(l.take j).any (fun q=>en q||decide (F k≠F q))=false) ⟨rfl,rfl⟩ ?_;rintro-j h65 hj ⟨rfl,hany⟩;refine sB_intro (fun l6=>?_) (fun l6=>?_)
       .replace l6:=lt_t l6;refine (hl.ext hs.ext).nbI (by omega) (by omega) fun b66 o67 d66 g66 t66=>?_;rw[Ys,Yd] at g66;obtain⟨q,gq,rfl⟩:=Yya.1 g66;have hq:=hln q (Yb gq);have hnone:(en q||decide (F k≠F q))=true->viewV F en O T l=none:=fun hc=>viewV_none hst gk (by
         rw[hsk,if_pos];unfold badV;have:(l.any fun k'=>en k'||decide (F k≠F k'))=true:=List.any_eq_true.2 ⟨q,Yb gq,hc⟩;rw[hs0,c3,this];simp)
        refine⟨_,t66.hd,se,nth1,?_⟩;refine h4e.nbI (by omega) (by omega) fun b70 o71 d g70 t70=>?_;obtain⟨rfl,_⟩:=rangeG g70
        (try rw[Ys] at t70);(try rw[Ys])
        refine⟨_,t70.hd,?_⟩;refine sB_intro (fun c7=>?_) (fun c7=>?_)
        .refine⟨_,_,_,_,_,hs.at 0 rfl (n:=5) rfl,?_⟩;refine hs.put 1 rfl (o:=0) (vs:=Ti.cs o) rfl (show 5<=5 by decide) fun h33 hs=>?_;refine⟨_,_,_,_,_,hs.at 1 rfl (n:=5) rfl,hs.ext,o,false,rfl,?_⟩;exact hnone (by rw[c7];rfl)
        .refine⟨sf,nth0,?_⟩;refine h2e.nbI (by omega) (by omega) fun b85 o86 d g85 t85=>?_;obtain⟨rfl,_⟩:=rangeG g85
         (try rw[Ys] at t85);(try rw[Ys])
         refine⟨_,t85.hd,sf,nth0,?_⟩;refine h2e.nbI (by omega) (by omega) fun b89 o90 d g89 t89=>?_;obtain⟨rfl,_⟩:=rangeG g89
         (try rw[Ys] at t89);(try rw[Ys])
         refine⟨_,t89.hd,?_⟩;refine (equal89 (F k) (F q) _ _ h65 (h3e k hk) (h3e q hq) (by omega)).mono ?_;rintro _ _ ⟨rfl,rfl⟩;refine⟨_,rfl,fun _ _ _ _ hv=>hv,?_⟩;refine sB_intro (fun c8=>?_) (fun c8=>?_)
         .refine⟨_,_,_,_,_,hs.at 0 rfl (n:=5) rfl,?_⟩;refine hs.put 1 rfl (o:=0) (vs:=Ti.cs o) rfl (show 5<=5 by decide) fun h33 hs=>?_;refine⟨_,_,_,_,_,hs.at 1 rfl (n:=5) rfl,hs.ext,o,false,rfl,?_⟩;exact hnone (by simp at c8 ⊢;exact .inr c8)
         .refine Up.next (by omega) (by omega) ⟨rfl,?_⟩;rw[take_snoc gq,List.any_append,hany,Bool.false_or];simp at c8 ⊢;exact⟨c7,c8⟩
       .replace l6:=lt_f l6;rw[Yj (by omega)] at hany;refine⟨rfl,?_⟩;unfold badV;rw[c4,hs1,c5,hany];simp
    .exact⟨rfl,by unfold badV;rw[hs0,c3];rfl⟩
   .have hs0:sndAt (F k) 0=false:=by
     have:F k=[]:=List.length_eq_zero_iff.1 (by omega);unfold sndAt;rw[this];rfl
    exact⟨rfl,by unfold badV;rw[hs0];rfl⟩
  .rintro-h107 ⟨rfl,hbad⟩;rw[hbad,if_neg (by simp)] at hsk;refine⟨so,nth2,?_⟩;refine h5e.nbI (by omega) (by omega) fun b109 o110 ob g109 t109=>?_;rw[Ys] at g109;refine⟨_,t109.hd,?_⟩;refine sB_intro (fun c2=>?_) (fun c2=>?_)
   .have c2:=bF c2;subst c2;refine⟨_,by omega,i+1,o,by rw[w64 (by omega) (by omega)];omega,rfl,by omega,hs,?_⟩;rw[foldl_snoc gk,hst,hsk,g109]
   .have c2:=bT c2;subst c2;obtain⟨t,gt⟩:=get_some (l:=T) (i:=k) (by omega);rw[g109,gt] at hsk;replace hsk:stepV F en O T l (some (known,o)) k=if known&&decide (t≠o) then none else some (true,t):=hsk
    refine sB_intro (fun c3=>?_) (fun c3=>?_)
    .refine⟨st,nth3,?_⟩;refine h6e.nbI (by omega) (by omega) fun b114 o115 t' g114 t114=>?_;rw[Ys,gt] at g114;cases g114;refine⟨_,_,_,_,_,t114,_,_,_,_,_,hs.at 0 rfl (n:=5) rfl,?_⟩;rw[ti_eqb];refine sB_intro (fun c4=>?_) (fun c4=>?_)
     .refine⟨_,_,_,_,_,hs.at 0 rfl (n:=5) rfl,?_⟩;refine hs.put 1 rfl (o:=0) (vs:=Ti.cs o) rfl (show 5<=5 by decide) fun h33 hs=>?_;refine⟨_,_,_,_,_,hs.at 1 rfl (n:=5) rfl,hs.ext,o,false,rfl,?_⟩;exact viewV_none hst gk (by rw[hsk,if_pos (by rw[c3];simpa using c4)])
     .have he:t=o:=by simpa using c4
      refine⟨st,nth3,?_⟩;refine h6e.nbI (by omega) (by omega) fun b138 o139 t' g138 t138=>?_;rw[Ys,gt] at g138;cases g138;refine⟨_,_,_,_,_,t138,?_⟩;refine hs.put 0 rfl (o:=0) (vs:=Ti.cs t) rfl (show 5<=5 by decide) fun h145 hs=>?_;refine⟨_,by omega,i+1,t,by rw[w64 (by omega) (by omega)];omega,rfl,by omega,hs,?_⟩;rw[foldl_snoc gk,hst,hsk,if_neg (by rw[he];simp)]
    .refine⟨st,nth3,?_⟩;refine h6e.nbI (by omega) (by omega) fun b148 o149 t' g148 t148=>?_;rw[Ys,gt] at g148;cases g148;refine⟨_,_,_,_,_,t148,?_⟩;refine hs.put 0 rfl (o:=0) (vs:=Ti.cs t) rfl (show 5<=5 by decide) fun h155 hs=>?_;refine⟨_,by omega,i+1,t,by rw[w64 (by omega) (by omega)];omega,rfl,by omega,hs,?_⟩;rw[foldl_snoc gk,hst,hsk,if_neg (by rw[c3];simp)]
 .rw[Yj (by omega)] at hst;refine⟨_,_,_,_,_,hs.at 0 rfl (n:=5) rfl,?_⟩;refine hs.put 1 rfl (o:=0) (vs:=Ti.cs o) rfl (show 5<=5 by decide) fun h33 hs=>?_;refine⟨_,_,_,_,_,hs.at 1 rfl (n:=5) rfl,hs.ext,o,true,rfl,?_⟩;unfold viewV;rw[hst];rfl
theorem app25:appB Pz 25 63 3 24=true:=by kernel_rfl
noncomputable def vwG (g:Gl) (role:Int):List Nat->Option Ti:=viewV (fun j:Nat=>firstE g role j) (fun j:Nat=>firstB g role j) (ownE g.es role g.n.toNat).1 (ownT g.es g.ts role g.n.toNat)
noncomputable def raw (g:Gl) (role:Int):Option Mch × Int:=
 if ¬(ValidS g/\0<=role/\role<g.rs.length) then (none,1) else
 match views g role with
 | none=>(none,6)
 | some (S,M)=>if M.length>400 then (none,6) else
  match rawL (vwG g role) 0 S M [] with
  | none=>(none,18)
  | some (M',L)=>(some ⟨role,S.length,0,S.map (fun p=>p g.e.toNat),M',L⟩,0)
def m0:List Value:=[.int .i64 0,.int .i64 0,.int .i64 0,.slice none 0 0,.slice none 0 0,.slice none 0 0]
def mC (m:Mch) (sf sm sl:Sl):List Value:=[.int .i64 m.role,.int .i64 m.n,.int .i64 m.s,.slice sf.a sf.n sf.c,.slice sm.a sm.n sm.c,.slice sl.a sl.n sl.c]
def mL (m:Mch) (sf sm sl:Sl):List It:=[.sl sf 4 1 (m.fin.map bC),.sl sm 45 6 (m.mv.map Mv.cs),.sl sl 63 3 (m.li.map To.cs)]
inductive MaR (o:Option Mch × Int) (h h':Heap):Value->Prop
 | err {e:Int} (he:o=(none,e)) (h0:e≠0):MaR o h h' (.tuple ⟨[.agg ⟨m0⟩,.int .i64 e]⟩)
 | ok {m:Mch} {sf sm sl:Sl} (he:o=(some m,0)) (hs:St h h' (mL m sf sm sl)):MaR o h h' (.tuple ⟨[.agg ⟨mC m sf sm sl⟩,.int .i64 0]⟩)
def rwL (mb tb rb gb:Nat) (g:Gl) (role:Int) (ss fs ars sl:Sl) (E:List SE) (M:List Mv) (L:List To):List It:=
 [.blk mb [.int .i64 role,.int .i64 (ss.n:Nat),.int .i64 0,.slice fs.a fs.n fs.c,.slice ars.a ars.n ars.c,.slice sl.a sl.n sl.c] 33,.blk tb [.slice ss.a ss.n ss.c,.slice fs.a fs.n fs.c,.slice ars.a ars.n ars.c] 85,.sl ss 67 1 (E.map SE.hd),
  .sl fs 4 1 ((E.map fun e:SE=>e.p g.e.toNat).map bC),.sl ars 45 6 (M.map Mv.cs),.sl sl 63 3 (L.map To.cs),.blk rb m0 33,.blk gb g.cs 27]++E.map SE.it
theorem rwL.set {h0 h:Heap} {A:List It} {mb tb rb gb:Nat} {g:Gl} {role:Int} {ss fs ars sl:Sl} {E:List SE} {M:List Mv} {L:List To} (hs:St h0 h (A++rwL mb tb rb gb g role ss fs ars sl E M L)) (hE:∀e∈E,SI e.ws e.k e.p):∀e∈E,SetV h e.s e.p:=by
 intro e he;have hm:e.it∈A++rwL mb tb rb gb g role ss fs ars sl E M L:=by
  rw[Yk];right;unfold rwL;rw[Yk];right;exact List.mem_map_of_mem he
 have:=(hs.ok _ hm).1;exact (hE e he).v this e.k
theorem perm8 {α:Type} (f a b g i c d e:α) (R:List α):(f::a::b::g::i::c::d::e::R).Perm (a::b::c::d::e::f::g::i::R):=
 (List.perm_append_comm_assoc [f] [a,b] _).trans (List.Perm.append_left [a,b] (List.perm_append_comm_assoc [f,g,i] [c,d,e] R))
theorem get_split2 {α:Type} {i:Nat} {f:α->α} {M:List α} {y:α} (h:M[i]?=some y):((M.take (i+1)).map f++M.drop (i+1))[i]?=some (f y):=by
 have h1:=(Ya.1 h).1;rw[Yyi (by rw[Yc,Yu];omega),Yd,Yyf,if_pos (by omega),h];rfl
theorem raw14 (g:Gl) (role:Int) (h:Heap) (hg:GI h g) (hx:Gx h) :
  Fn Pz 14 #[g.v,.int .i64 role] h fun v h'=>Ext h h'/\MaR (raw g role) h h' v:=by
 apply vc14 (bs g.nm) g.hr g.hd g.n g.s g.e g.he g.ht;unfold W14 V14a;have hs:=St.refl h;have hrn:=hg.r.ln;refine hs.newb fun h9 hs=>?_;refine hs.newb fun h10 hs=>?_;refine⟨_,_,_,_,_,_,_,_,hs.at 1 rfl (n:=8) rfl,?_⟩;refine (valid38 g h10 (hg.ext hs.ext) (hx.ext hs.ext)).mono ?_;rintro _ h21 ⟨rfl,E21⟩;replace hs:=hs.step E21;refine⟨_,rfl,?_⟩;have hbad:∀ {o:Prop},¬(ValidS g/\0<=role/\role<g.rs.length)->raw g role=(none,1):=fun h=>by unfold raw;rw[if_pos h]
 refine sB_intro (fun c1=>?_) (fun c1=>?_)
 .have c1:=Yyo (bF c1);refine hs.put 0 rfl (o:=0) (vs:=m0) rfl (by decide) fun h22 hs=>?_;refine⟨0,0,0,⟨none,0,0⟩,⟨none,0,0⟩,⟨none,0,0⟩,hs.at 0 rfl (n:=6) rfl,hs.ext,?_⟩;exact .err (hbad (o:=True) fun hc=>c1 hc.1) (by decide)
 have hV:ValidS g:=Yyn (bT c1);refine sBi (fun c2=>?_) (fun c2=>?_)
 .refine hs.put 0 rfl (o:=0) (vs:=m0) rfl (by decide) fun h22 hs=>?_;refine⟨0,0,0,⟨none,0,0⟩,⟨none,0,0⟩,⟨none,0,0⟩,hs.at 0 rfl (n:=6) rfl,hs.ext,?_⟩;exact .err (hbad (o:=True) fun hc=>by omega) (by decide)
 refine⟨_,hs.rd 1 rfl rfl,?_⟩;refine sBi (fun c3=>?_) (fun c3=>?_)
 .refine hs.put 0 rfl (o:=0) (vs:=m0) rfl (by decide) fun h22 hs=>?_;refine⟨0,0,0,⟨none,0,0⟩,⟨none,0,0⟩,⟨none,0,0⟩,hs.at 0 rfl (n:=6) rfl,hs.ext,?_⟩;exact .err (hbad (o:=True) fun hc=>by omega) (by decide)
 have hgood:ValidS g/\0<=role/\role<g.rs.length:=⟨hV,by omega,by omega⟩;have hraw:raw g role=(match views g role with
  | none=>(none,6)
  | some (S,M)=>if M.length>400 then (none,6) else
   match rawL (vwG g role) 0 S M [] with
   | none=>(none,18)
   | some (M',L)=>(some ⟨role,S.length,0,S.map (fun p=>p g.e.toNat),M',L⟩,0)):=by unfold raw;rw[if_neg (by simpa using hgood)]
 have hN:=hV.num.n;refine⟨_,_,_,_,_,_,_,_,hs.at 1 rfl (n:=8) rfl,?_⟩;refine (views39 g role h21 (hg.ext hs.ext) (hx.ext hs.ext)).mono ?_;rintro _ h57 ⟨E57,hvi⟩;cases hvi with
 | bad hn=>exact absurd hgood hn
 | limit hv hn=>
  replace hs:=hs.step E57;refine⟨⟨none,0,0⟩,⟨none,0,0⟩,⟨none,0,0⟩,_,rfl,?_⟩;refine hs.newput (vs:=sl0) rfl rfl fun h59 hs=>?_;refine sBn (fun c4=>?_) (fun c4=>by omega);refine hs.put 1 rfl (o:=0) (vs:=m0) rfl (by decide) fun h22 hs=>?_;refine⟨0,0,0,⟨none,0,0⟩,⟨none,0,0⟩,⟨none,0,0⟩,hs.at 1 rfl (n:=6) rfl,hs.ext,?_⟩;exact .err (by rw[hraw,hn]) (by decide)
 | @good _ ss fs ars E M hvw hsT hSI hEl hlt hMl=>
  rw[hvw] at hraw;replace hs:=hs.join hsT;clear hsT E57 E21 hvw;refine⟨ss,fs,ars,_,rfl,?_⟩;refine hs.newput (vs:=[.slice ss.a ss.n ss.c,.slice fs.a fs.n fs.c,.slice ars.a ars.n ars.c]) rfl rfl fun h59 hs=>?_;refine sBn (fun c4=>absurd rfl c4) (fun _=>?_);have har:=(hs.rows 5 (s:=ars) (cs:=Mv.cs) rfl (by omega)).ln;have hsl:=(hs.rows 3 (s:=ss) (cs:=SE.hd) rfl (by omega)).ln;refine⟨ars,hs.rd 0 rfl rfl,?_⟩;refine sBi (fun c5=>?_) (fun c5=>?_)
  .refine hs.put 1 rfl (o:=0) (vs:=m0) rfl (by decide) fun h22 hs=>?_;refine⟨0,0,0,⟨none,0,0⟩,⟨none,0,0⟩,⟨none,0,0⟩,hs.at 1 rfl (n:=6) rfl,hs.ext,?_⟩;exact .err (by rw[hraw];show (if _ then _ else _)=_;rw[if_pos (by omega)]) (by decide)
  replace hraw:raw g role=(match rawL (vwG g role) 0 (E.map (·.p)) M [] with
   | none=>(none,18)
   | some (M',L)=>(some ⟨role,(E.map (·.p)).length,0,(E.map (·.p)).map (fun p=>p g.e.toNat),M',L⟩,0)):=by
   rw[hraw];show (if _ then _ else _)=_;rw[if_neg (by omega)]
  refine⟨_,_,_,_,_,_,_,_,hs.at 2 rfl (n:=8) rfl,?_⟩;refine (prepare40 g role h59 (hg.ext hs.ext) (hx.ext hs.ext) hV hgood.2.1 hgood.2.2).mono ?_;rintro _ h85 ⟨E85,pb,pg,sf,se,so,st,Q,rfl,hsP,hQ⟩;replace hs:=hs.join hsP;clear hsP E85;have hev:∀k,k<g.n.toNat->(firstE g role k).length<=400:=fun k _=>evs_len hV;have hprx:∀ {h':Heap} {A B:List It},St h h' (A++(B++prL pb pg g sf se so st Q ((List.range g.n.toNat).map fun j:Nat=>firstB g role j) (ownE g.es role g.n.toNat).1 (ownT g.es g.ts role g.n.toNat)))->PrI h' ⟨pb,0,none⟩ g.n.toNat (fun j:Nat=>firstE g role j) (fun j:Nat=>firstB g role j) (ownE g.es role g.n.toNat).1 (ownT g.es g.ts role g.n.toNat):=
   fun h1=>prL_fin (h1.sub ((List.sublist_append_right _ _).trans (List.sublist_append_right _ _))) hQ (ownE_len _ _ _).1 (ownT_len _ _ _ _)
  generalize prL pb pg g sf se so st Q ((List.range g.n.toNat).map fun j:Nat=>firstB g role j) (ownE g.es role g.n.toNat).1 (ownT g.es g.ts role g.n.toNat)=PL at *;clear hQ;refine⟨_,rfl,ss,hs.rd 0 rfl rfl,fs,hs.rd 0 rfl rfl,ars,hs.rd 0 rfl rfl,?_⟩;refine hs.newput (vs:=[.int .i64 role,.int .i64 (ss.n:Int),.int .i64 0,.slice fs.a fs.n fs.c,.slice ars.a ars.n ars.c,.slice none 0 0]) rfl rfl fun h90 hs=>?_;have hs:St h h90 (rwL h85.size h57.size h9.size h.size g role ss fs ars ⟨none,0,0⟩ E M []++PL):=by
   have h1:=hs.nil_ 63 3;exact h1.perm (perm8 _ _ _ _ _ _ _ _ (E.map SE.it++PL))
  refine⟨ss,hs.rd 1 rfl rfl,?_⟩;refine⟨fun x h' m=>∃(n:Nat) (sl:Sl) (M':List Mv) (L:List To),x=n/\m=E.length-n/\n<=E.length/\St h h' (rwL h85.size h57.size h9.size h.size g role ss fs ars sl E M' L++PL)/\M'.length=M.length/\L.length<=n*400 /\
   rawL (vwG g role) 0 (E.map (·.p)) M []=rawL (vwG g role) n ((E.drop n).map (·.p)) M' L,⟨_,0,_,M,[],rfl,rfl,by omega,hs,rfl,by decide,by rw[List.drop_zero]⟩,?_⟩
  clear hs;rintro-_ h96 m ⟨n,sl,M',L,rfl,rfl,hn,hs,hM',hL,hst⟩;refine sBi (fun c6=>?_) (fun c6=>?_)
  .refine (hs.rows 2 (s:=ss) (cs:=SE.hd) rfl (by omega)).nbI (by omega) (by omega) fun b97 o98 e g97 t97=>?_;replace g97:E[n]?=some e:=g97;have heE:=Yb g97;have hep:∀j:Nat,e.p j=true->(j:Int)<g.n:=hlt e.p (Yp.2 ⟨e,heE,rfl⟩);rw[drop_get g97,Yyl,rawL] at hst;refine⟨e.s,t97.hd,?_⟩;refine (list42 e.p e.s h96 (hx.ext hs.ext) (rwL.set (A:=[]) (hs.sub (List.sublist_append_left _ _)) hSI e heE)).mono ?_;rintro _ h102 ⟨E102,x101,rfl,ho101⟩;replace hs:=hs.gift E102 ho101 (inrows _);refine⟨x101,rfl,?_⟩;have hel:∀k∈elems e.p,k<g.n.toNat:=fun k hk=>by have:=hep k (elems_mem.1 hk).2;omega
   have hell:(elems e.p).length<=4096:=by unfold elems;exact Yys (List.length_filter_le _ _) (by rw[Yyd];exact Yyt _)
   refine (view41 pb g.n.toNat _ _ _ _ (elems e.p) x101 h102 (hprx (A:=[_]) (B:=rwL _ _ _ _ _ _ _ _ _ _ _ _ _) hs) (hs.rows 0 rfl (by omega)) hel hell hev).mono ?_;rintro _ h110 ⟨E110,o,ok,rfl,hvw⟩;replace hs:=(hs.step E110).eras 0;refine⟨_,_,_,_,_,_,rfl,?_⟩;refine hs.newput (vs:=Ti.cs o) rfl rfl fun h112 hs=>?_;rw[show vwG g role (elems e.p)=if ok then some o else none from hvw] at hst;refine sB_intro (fun c7=>?_) (fun c7=>?_)
   .have c7:=bF c7;subst c7;refine hs.put 7 rfl (o:=0) (vs:=m0) rfl (by decide) fun h22 hs=>?_;refine⟨0,0,0,⟨none,0,0⟩,⟨none,0,0⟩,⟨none,0,0⟩,hs.at 7 rfl (n:=6) rfl,hs.ext,?_⟩;exact .err (by rw[hraw,hst];rfl) (by decide)
   .have c7:=bT c7;subst c7;replace hst:rawL (vwG g role) 0 (E.map (·.p)) M []=rawL (vwG g role) (n+1) ((E.drop (n+1)).map (·.p)) (M'.map (updR n o)) (L++limR n o M'):=hst;refine⟨ars,hs.rd 1 rfl rfl,?_⟩;have har':=(hs.rows 5 (s:=ars) (cs:=Mv.cs) rfl (by omega)).ln;refine⟨fun x h' m=>∃(i:Nat) (sl:Sl),x=i/\m=M'.length-i/\i<=M'.length/\St h h' (.blk h110.size o.cs 93::(rwL h85.size h57.size h9.size h.size g role ss fs ars sl E ((M'.take i).map (updR n o)++M'.drop i) (L++limR n o (M'.take i))++PL)),⟨_,0,sl,rfl,rfl,by omega,?_⟩,?_⟩
    .have e1:limR n o (M'.take 0)=[]:=rfl;rw[e1,Yw,Yyk,List.drop_zero];exact hs
    clear hs;rintro-_ h125 m ⟨i,sl2,rfl,rfl,hi,hs⟩;have hll:=(hs.rows 6 (s:=sl2) (cs:=To.cs) rfl (by omega)).ln;rw[Yh] at hll;have hlr:=limR_len n o (M'.take i);rw[Yu] at hlr;refine sBi (fun c8=>?_) (fun c8=>?_)
    .refine⟨ars,hs.rd 1 rfl rfl,?_⟩;have hal:=(hs.rows 5 (s:=ars) (cs:=Mv.cs) rfl (by omega)).ln;obtain⟨y,gy⟩:=get_some (l:=M') (i:=i) (by omega);have hnext:∀ {h':Heap} {sl3:Sl} {q:List To},limC n o (y,i)=q[0]?->q.length<=1->St h h' (.blk h110.size o.cs 93::(rwL h85.size h57.size h9.size h.size g role ss fs ars sl3 E ((M'.take (i+1)).map (updR n o)++M'.drop (i+1)) (L++limR n o (M'.take i)++q)++PL)) ->
       ∃m,m<M'.length-i/\∃(i2:Nat) (sl:Sl),IntKind.wrap .i64 ((i:Int)+1)=i2/\m=M'.length-i2/\i2<=M'.length/\St h h' (.blk h110.size o.cs 93::(rwL h85.size h57.size h9.size h.size g role ss fs ars sl E ((M'.take i2).map (updR n o)++M'.drop i2) (L++limR n o (M'.take i2))++PL)):=by
      intro h' sl3 q hq hql h1;refine⟨_,by omega,i+1,sl3,by rw[w64 (by omega) (by omega)];omega,rfl,by omega,?_⟩;have e1:limR n o (M'.take (i+1))=limR n o (M'.take i)++q:=by
       unfold limR;rw[zip_snoc gy,List.filterMap_append];congr 1;rw[List.filterMap_cons,hq]
       match q,hql with
       | [],_=>rfl
       | [a],_=>rfl
      rw[e1,<-Yz];exact h1
     refine hs.nbw 5 (s:=ars) (cs:=Mv.cs) rfl (by omega) (by omega) (by omega) fun b127 o128 y' g127 ha127 t127 wr=>?_;rw[Ys,get_split,gy] at g127;cases g127;refine⟨_,t127.hd,?_⟩;refine sBn (fun c9=>?_) (fun c9=>?_)
     .have e2:updR n o y=y:=by unfold updR;rw[if_neg (fun hc=>c9 hc.1)]
      refine hnext (sl3:=sl2) (q:=[]) ?_ (by decide) ?_
      .unfold limC;rw[if_neg (fun hc=>c9 hc.1)];rfl
      .rw[Yw,take_snoc gy,Ym,Yz,List.map_singleton,e2,List.singleton_append,<-drop_get gy];exact hs
     refine⟨_,t127.nth 1 rfl,?_⟩;refine sB_intro (fun c10=>?_) (fun c10=>?_)
     .have c10:=bF c10;have e2:updR n o y=y:=by unfold updR;rw[if_neg (fun hc=>by rw[c10] at hc;cases hc.2)]
      refine hnext (sl3:=sl2) (q:=[]) ?_ (by decide) ?_
      .unfold limC;rw[if_neg (fun hc=>by rw[c10] at hc;cases hc.2.1)];rfl
      .rw[Yw,take_snoc gy,Ym,Yz,List.map_singleton,e2,List.singleton_append,<-drop_get gy];exact hs
     have c10:=bT c10;refine⟨_,hs.rd 0 rfl rfl,?_⟩;have e2:updR n o y={ y with ag:=o.ag }:=by unfold updR;rw[if_pos ⟨c9,c10⟩]
     refine wr 5 { y with ag:=o.ag } [.bool o.ag] rfl (show 6<=6 by decide) rfl fun h134 hs=>?_;rw[Ys,set_split (f:=updR n o) gy e2] at hs;have hat:=(hs.rows 5 (s:=ars) (cs:=Mv.cs) rfl (by omega)).atI ha127 (get_split2 (f:=updR n o) gy);rw[e2] at hat;refine⟨_,hs.rd 0 rfl rfl,?_⟩;have hno:¬(o.k>0/\o.x=⟨true,y.peer,y.label⟩)->limC n o (y,i)=([]:List To)[0]?:=fun hc=>by unfold limC;rw[if_neg (fun h=>hc ⟨h.2.2.1,h.2.2.2⟩)];rfl
     refine sBi (fun c11=>?_) (fun c11=>?_)
     .refine⟨_,_,_,hs.at 0 rfl (o:=2) (n:=3) rfl,_,hat.nth 2 rfl,_,hat.nth 3 rfl,?_⟩;refine sB_intro (fun c12=>?_) (fun c12=>?_)
      .have c12:=Yyn ((ev_eqb o.x ⟨true,y.peer,y.label⟩).symm.trans c12);refine⟨_,hs.rd 1 rfl rfl,_,hs.rd 0 rfl rfl,?_⟩;refine hs.app 6 rfl app25 (m:=1) [To.cs ⟨n,o.k,i⟩] rfl rfl (fun r hr=>by rw[Ye] at hr;rw[hr];rfl) rfl (by omega) (by simp only[maxLen];omega) fun s144 h145 ns hs=>?_;refine hs.put 1 rfl (o:=5) (vs:=[.slice s144.a s144.n s144.c]) rfl (show 6<=6 by decide) fun h146 hs=>?_;refine hnext (sl3:=s144) (q:=[⟨n,o.k,i⟩]) ?_ (by show 1<=1;decide) ?_
       .unfold limC;rw[if_pos ⟨c9,c10,c11,c12⟩];rfl
       .unfold rwL;rw[Ym (l₁:=L++limR n o (M'.take i))];exact hs
      .have c12:=Yyo ((ev_eqb o.x ⟨true,y.peer,y.label⟩).symm.trans c12);refine hnext (sl3:=sl2) (q:=[]) (hno fun hc=>c12 hc.2) (by decide) ?_;rw[Yw];exact hs
     .refine hnext (sl3:=sl2) (q:=[]) (hno fun hc=>c11 hc.1) (by decide) ?_;rw[Yw];exact hs
    .have hi2:i=M'.length:=by omega
     subst hi2;rw[Yye,List.drop_length,Yw] at hs;refine⟨_,by omega,n+1,sl2,M'.map (updR n o),L++limR n o M',by rw[w64 (by omega) (by omega)];omega,rfl,by omega,hs.drop 1,by rw[Yc];exact hM',by rw[Yh];have:=limR_len n o M';omega,hst⟩
  .have hn2:n=E.length:=by omega
   subst hn2;rw[List.drop_length] at hst;replace hst:rawL (vwG g role) 0 (E.map (·.p)) M []=some (M',L):=hst;refine⟨_,_,_,fs,ars,sl,hs.at 0 rfl (n:=6) rfl,?_⟩;refine hs.put 6 rfl (o:=0) (vs:=[.int .i64 role,.int .i64 (ss.n:Nat),.int .i64 0,.slice fs.a fs.n fs.c,.slice ars.a ars.n ars.c,.slice sl.a sl.n sl.c]) rfl (show 6<=6 by decide) fun h157 hs=>?_;refine⟨_,_,_,fs,ars,sl,hs.at 6 rfl (n:=6) rfl,hs.ext,?_⟩;have hfin:(E.map (·.p)).map (fun p=>p g.e.toNat)=E.map fun e:SE=>e.p g.e.toNat:=by rw[List.map_map];rfl
   have hm:raw g role=(some ⟨role,ss.n,0,E.map fun e:SE=>e.p g.e.toNat,M',L⟩,0):=by rw[hraw,hst,hsl,<-hfin,Yc]
   exact .ok (m:=⟨role,ss.n,0,E.map fun e:SE=>e.p g.e.toNat,M',L⟩) hm ((hs.drop 3).sub (List.sublist_append_left [_,_,_] _))
end Go.VC
end

section
namespace Go.VC
open Go.Proofs Go.Maps
theorem kl_int {P:Program} {d t:Nat} {q:IntKind} {n:Int} (hu:P.underlying t=some (.int q)) (hw:(Lit.int q n).wf=true):P.keyLits (d+1) t [.int q n]=some [.int q n]:=by simp[Program.keyLits,hu,hw]
theorem kl_bool {P:Program} {d t:Nat} {b:Bool} (hu:P.underlying t=some .bool):P.keyLits (d+1) t [.bool b]=some [.bool b]:=by simp[Program.keyLits,hu]
theorem kl_struct {P : Program} {d t : Nat} {fs : Array Field} {cs : List Value} (hu : P.underlying t = some (.struct fs)) (hl : cs.length = P.cellsOf t) (hn : fs.all (·.name != "_") = true) {l : List (TypeId × Nat)} (hf : fs.toList.map (fun f => (f.type, f.offset)) = l)
  {r:List (List Lit)} (hr:l.mapM (fun q=>P.keyLits d q.1 ((cs.drop q.2).take (P.cellsOf q.1)))=some r):P.keyLits (d+1) t cs=some r.flatten:=by
 have e:fs.toList.mapM (fun f=>P.keyLits d f.type ((cs.drop f.offset).take (P.cellsOf f.type)))=some r:=by
  rw[<-hr,<-hf,List.mapM_map];rfl
 unfold Program.keyLits;simp only[hu];rw[if_pos ⟨hl,hn⟩,e];rfl
def inR (n:Int):Prop:=-9223372036854775808<=n/\n<=9223372036854775807
theorem inR.wf {n:Int} (h:inR n):(Lit.int .i64 n).wf=true:=by
 unfold Lit.wf;simp only[Yt,decide_eq_true_eq];have e1:IntKind.i64.min=-9223372036854775808:=by decide
 have e2:IntKind.i64.max=9223372036854775807:=by decide
 rw[e1,e2];exact h
theorem u3:Pz.underlying 3=some (.int .i64):=by kernel_rfl
theorem u4:Pz.underlying 4=some .bool:=by kernel_rfl
theorem su {P : Program} {t : Nat} {l : List (TypeId × Nat)} (h : (match P.underlying t with | some (.struct fs) => decide (fs.toList.map (fun f => (f.type, f.offset)) = l) && fs.all (·.name != "_") | _ => false) = true) :
  ∃ fs, P.underlying t = some (.struct fs) /\ fs.all (·.name != "_") = true /\ fs.toList.map (fun f => (f.type, f.offset)) = l := by
 split at h
 .rename_i fs hu;simp only[Yt,decide_eq_true_eq] at h;exact⟨fs,hu,h.2,h.1⟩
 .cases h
theorem s91 : ∃ fs, Pz.underlying 91 = some (.struct fs) /\ fs.all (·.name != "_") = true /\ fs.toList.map (fun f => (f.type, f.offset)) = [(4, 0), (3, 1), (3, 2)] := su (by kernel_rfl)
theorem s212 : ∃ fs, Pz.underlying 212 = some (.struct fs) /\ fs.all (·.name != "_") = true /\ fs.toList.map (fun f => (f.type, f.offset)) = [(3, 0), (3, 1), (91, 2), (4, 5), (3, 6)] := su (by kernel_rfl)
theorem c3:Pz.cellsOf 3=1:=by kernel_rfl
theorem c4:Pz.cellsOf 4=1:=by kernel_rfl
theorem c91:Pz.cellsOf 91=3:=by kernel_rfl
theorem c212:Pz.cellsOf 212=7:=by kernel_rfl
def kokS (s:Sg):Prop:=inR s.b/\inR s.k/\inR s.x.peer/\inR s.x.label/\inR s.num
theorem lits_ev (x:Ev) (h1:inR x.peer) (h2:inR x.label) (d:Nat):∃r,Pz.keyLits (d+2) 91 x.cs=some r:=by
 obtain⟨fs,hu,hn,hf⟩:=s91;refine⟨_,kl_struct hu (by rw[c91];rfl) hn hf (r:=[[.bool x.send],[.int .i64 x.peer],[.int .i64 x.label]]) ?_⟩;simp only[List.mapM_cons,List.mapM_nil,c3,c4,Ev.cs,List.drop_zero,List.take_succ_cons,Yyk,List.drop_succ_cons,kl_bool u4,kl_int u3 h1.wf,kl_int u3 h2.wf];rfl
theorem key_sg (s:Sg) (h:kokS s):∃l,keyOf Pz 212 s.v=some l:=by
 obtain⟨fs,hu,hn,hf⟩:=s212;obtain⟨h1,h2,h3,h4,h5⟩:=h;have hsz:∃n,Pz.types.size+1=n+3:=⟨427,by kernel_rfl⟩;obtain⟨n,hsz⟩:=hsz;obtain⟨r,hr⟩:=lits_ev s.x h3 h4 n;have hl:Pz.keyLits (n+3) 212 [.int .i64 s.b,.int .i64 s.k,.bool s.x.send,.int .i64 s.x.peer,.int .i64 s.x.label,.bool s.ag,.int .i64 s.num]=some [[.int .i64 s.b],[.int .i64 s.k],r,[.bool s.ag],[.int .i64 s.num]].flatten:=by
  refine kl_struct hu (by rw[c212];rfl) hn hf ?_;simp only[List.mapM_cons,List.mapM_nil,c3,c4,c91,List.drop_zero,List.take_succ_cons,Yyk,List.drop_succ_cons,kl_bool u4,kl_int u3 h1.wf,kl_int u3 h2.wf,kl_int u3 h5.wf];unfold Ev.cs at hr;rw[hr];rfl
 have hkt:Pz.keyType 212=true:=by kernel_rfl
 have hfo:s.v.formed Pz 212=true:=by
  unfold Sg.v Value.formed;simp only[hu,c212];rfl
 have e:keyOf Pz 212 s.v=(Pz.keyLits (n+3) 212 [.int .i64 s.b,.int .i64 s.k,.bool s.x.send,.int .i64 s.x.peer,.int .i64 s.x.label,.bool s.ag,.int .i64 s.num]).map fun ls=>.string (keyBytes ls):=by
  unfold keyOf;simp only[hu,hkt,hfo,Bool.and_self,if_true,hsz];rfl
 rw[e,hl];exact⟨_,rfl⟩
theorem laid25:laidOutB Pz=true:=by kernel_rfl
def iv (n:Int):Value:=.int .i64 n
theorem M210:MT Pz 210 212 3 Sg.v kokS (.int .i64 0) where
 K:=Keyed.of_law (deep_law_laid laid25 (m:=3) (by omega) (Yyn (by kernel_rfl)) (by kernel_rfl) (by kernel_rfl))
 ht:=by kernel_rfl
 key:=key_sg
 inj:=Sg.v_inj
 z:=fun w=>by kernel_rfl
theorem key_int (n:Int) (h:inR n):∃l,keyOf Pz 3 (iv n)=some l:=⟨_,keyOf_int_mk u3 h.wf⟩
theorem iv_inj (a b:Int) (h:iv a=iv b):a=b:=by unfold iv at h;simpa using h
theorem M215:MT Pz 215 3 3 iv inR (.int .i64 0) where
 K:=int_keyed u3
 ht:=by kernel_rfl
 key:=key_int
 inj:=iv_inj
 z:=fun w=>by kernel_rfl
theorem M140:MT Pz 140 3 63 iv inR (.agg ⟨[.int .i64 0,.int .i64 0,.int .i64 0]⟩) where
 K:=int_keyed u3
 ht:=by kernel_rfl
 key:=key_int
 inj:=iv_inj
 z:=fun w=>by kernel_rfl
end Go.VC
end

section

end

section
namespace Go.VC
open Go.Proofs Go.LexS
theorem mvrows (L:List Mv):∀r∈L.map Mv.cs,r.length=6:=fun r hr=>by obtain⟨x,_,rfl⟩:=Yp.1 hr;rfl
theorem mv1 (x:Mv):x.cs.all oneB=true:=rfl
theorem flat_oneB {α:Type} {cs:α->List Value} (h:∀x,(cs x).all oneB=true):∀L:List α,(L.map cs).flatten.all oneB=true
 | []=>rfl
 | a::L=>by rw[Yyl,Yyu,List.all_append,h a,flat_oneB h L];rfl
theorem clone125 (L:List Mv) (s:Sl) (h:Heap) (hr:Rw h 6 s (L.map Mv.cs)) (hn0:s.a=none->s.n=0/\s.c=0) (hm:L.length<=1048576) :
  Fn Pz 125 #[.slice s.a s.n s.c] h fun v h'=>∃r:Sl,v=.slice r.a r.n r.c/\St h h' [.sl r 45 6 (L.map Mv.cs)]:=by
 apply vc125;unfold W125;have hs:=St.refl h;have hn:=hr.ln;refine sB_intro (fun c1=>?_) (fun c1=>?_)
 .have:L=[]:=by
   have:=hn0 (Option.isNone_iff_eq_none.1 c1);exact List.length_eq_zero_iff.1 (by omega)
  subst this;exact⟨⟨none,0,0⟩,rfl,hs.nil_ 45 6⟩
 .refine hs.newb fun h1 hs=>?_;have hs:=hs.blkS 0 6 [] rfl (by simp) rfl (by decide);refine hs.appRw 0 rfl app31 (y:=s) (hr.ext hs.ext) (mvrows L) hn0 (flat_oneB mv1 L) (by show (0+s.n)*48<=_;omega) (by show 0+s.n<=_;simp only[maxLen];omega) fun r h3 _ hs=>?_;exact⟨r,rfl,hs⟩
def Nv (N:List (Sg × Int)):List (Value × Value):=N.map fun q=>(q.1.v,iv q.2)
theorem next126 {h0 h:Heap} {L:List It} (hs:St h0 h L) (k1 k2:Nat) {nb b mb:Nat} {n:Int} {N:List (Sg × Int)} (hk1:L[k1]?=some (.blk nb [.map (some b)] 210)) (hk2:L[k2]?=some (.mp b (Nv N))) (hn:hc h ⟨mb,1,none⟩=some (.int .i64 n)) (hn0:0<=n/\n<=200)
  (hN:NOk n N) (hok:∀q∈N,kokS q.1) (s:Sg) (hsk:kokS s) (hl:N.length<=1048576) :
  Fn Pz 126 #[s.v,.pointer (some ⟨nb,0,none⟩),.pointer (some ⟨mb,0,none⟩)] h fun v h'=>v=.int .i64 (nextF n N s).1/\St h0 h' (L.set k2 (.mp b (Nv (nextF n N s).2))):=by
 apply vc126 s.b s.k s.x.send s.x.peer s.x.label s.ag s.num;unfold W126;refine hs.newbE fun h8 E8 hs=>?_;refine⟨_,hs.rd (k1+1) hk1 rfl,?_⟩;refine⟨_,_,_,_,_,_,_,hs.at 0 rfl (n:=7) rfl,?_⟩;refine hs.mlook (ck:=Sg.v) (cv:=iv) M210 (k2+1) (l:=N) hk2 hok hN.nd (a:=s) hsk true ?_;unfold nextF;cases hg:mget N s with
 | some v=>
  refine⟨v,true,rfl,?_⟩;refine sB_f rfl ?_;refine⟨rfl,?_⟩;have e:L.set k2 (.mp b (Nv N))=L:=by
   apply Yyr;intro m;by_cases hm:k2=m
   .subst hm;rw[Yq (Ya.1 hk2).1,hk2]
   .rw[Yy hm]
  show St h0 h8 (L.set k2 (.mp b (Nv N)));rw[e];exact hs.drop 1
 | none=>
  refine⟨0,false,rfl,?_⟩;refine sB_t rfl ?_;refine⟨_,hs.rd (k1+1) hk1 rfl,?_⟩;refine hs.mlen (ck:=Sg.v) (cv:=iv) M210 (k2+1) (l:=N) hk2 ?_;refine⟨_,rfl,n,hc_ext E8 hn,_,hs.rd (k1+1) hk1 rfl,_,_,_,_,_,_,_,hs.at 0 rfl (n:=7) rfl,?_⟩;have ew:IntKind.wrap .i64 (IntKind.wrap .i64 ((N.length:Int)+n)+2)=(N.length:Int)+n+2:=by rw[w64 (n:=(N.length:Int)+n) (by omega) (by omega),w64 (by omega) (by omega)]
  rw[ew];refine hs.mput (ck:=Sg.v) (cv:=iv) M210 (k2+1) (l:=N) hk2 hok hN.nd (a:=s) hsk ((N.length:Int)+n+2) fun h34 hs=>?_;rw[mset_none (mget_not hg)] at hs;exact⟨rfl,hs.drop 1⟩
structure MI (h:Heap) (m:Mch) (sf sm sl:Sl):Prop where
 pf:RL h 1 sf bC m.fin
 pm:RL h 6 sm Mv.cs m.mv
 pl:RL h 3 sl To.cs m.li
theorem MI.ext {h h':Heap} {m:Mch} {sf sm sl:Sl} (hm:MI h m sf sm sl) (E:Ext h h'):MI h' m sf sm sl:=⟨hm.pf.ext E,hm.pm.ext E,hm.pl.ext E⟩
def natV (c:Nat):Value:=.int .i64 (c:Int)
theorem made3n (n:Nat):madeL Pz 3 n=(List.replicate n 0).map natV:=by
 have e:zeroC Pz 3=[.int .i64 0]:=by kernel_rfl
 unfold madeL;rw[e,List.map_replicate]
 induction n with
 | zero=>rfl
 | succ n ih=>rw[List.replicate_succ,List.replicate_succ,Yyu,ih];rfl
theorem made3i (n:Nat):madeL Pz 3 n=(List.replicate n (0:Int)).map iv:=by
 rw[made3n,List.map_replicate,List.map_replicate];rfl
def HsA (N:List (Sg × Int)) (A:List Int) (n:Nat) (H:Nat->List Sg):Prop:=∀s,s<n->∃v,A[s]?=some v/\HsN N v (H s)
theorem HsA.step {n:Nat} {N:List (Sg × Int)} {A:List Int} {H H':Nat->List Sg} (hA:HsA N A n H) (hN:NOk n N) (hAl:A.length=n) {s0:Nat} (hs0:s0<n) {v0:Int} (hv0:A[s0]?=some v0) (sg:Sg) (hb:sg.b=v0) (hk:sg.k≠0) (sg0:Sg) (hsg0:({ sg with b:=0 }:Sg)=sg0)
  (hH:∀s:Nat,H' s=if s=s0 then sg0::H s else H s):HsA (nextF n N sg).2 (A.set s0 (nextF n N sg).1) n H':=by
 obtain⟨h1,h2,h3,_,_⟩:=nextF_spec hN sg;intro s hs;obtain⟨v,hv,hh⟩:=hA s hs;rw[hH];by_cases e:s=s0
 .subst e;rw[hv0] at hv;cases hv;rw[if_pos rfl,<-hsg0];exact⟨_,Yq (by omega),.step h3 hk (by rw[hb];exact hh.mono h2)⟩
 .rw[if_neg e];exact⟨v,by rw[Yy (fun h=>e h.symm)];exact hv,hh.mono h2⟩
def clL (ab nb mb cb gb:Nat) (m:Mch) (sf sm sl x10:Sl) (N:List (Sg × Int)) (A:List Int) (C:List Nat):List It:=
 [.blk ab (A.map iv) 3,.blk nb [.map (some mb)] 210,.mp mb (Nv N),.blk cb (C.map natV) 3,.sl x10 45 6 (m.mv.map Mv.cs),.blk gb (mC m sf sm sl) 33]
theorem getD_some {α:Type} {l:List α} {i:Nat} {d x:α} (h:l[i]?=some x):l.getD i d=x:=by rw[Yo,h];rfl
theorem HsN.bound {n:Int} {N:List (Sg × Int)} (hN:NOk n N) {v:Int} {l:List Sg} (h:HsN N v l):n+2<=v/\v<(N.length:Int)+n+2:=by
 cases h with
 | base hm _=>exact hN.bound hm
 | step hm _ _=>exact hN.bound hm
theorem class_step {A:List Int} {C:List Nat} {i:Nat} {a:Int} (ha:A[i]?=some a) (hC:C.length=A.length):((A.take i).map (idxF (dedF (A.take i)))++C.drop i).set i (idxF (dedF (A.take (i+1))) a)=(A.take (i+1)).map (idxF (dedF (A.take (i+1))))++C.drop (i+1):=by
 obtain⟨h1,h2⟩:=Ya.1 ha;have hl:((A.take i).map (idxF (dedF (A.take i)))).length=i:=by rw[Yc,Yu];omega
 have hm:(A.take i).map (idxF (dedF (A.take i)))=(A.take i).map (idxF (dedF (A.take (i+1)))):=by
  apply List.map_congr_left;intro x hx;have hx':=(dedF_mem _ _).2 hx;rw[dedF_take ha];split
  .rfl
  .rw[idxF_mem hx']
 rw[List.drop_eq_getElem_cons (by omega:i<C.length),List.set_append_right _ _ (by omega),hl,Nat.sub_self,List.set_cons_zero,hm];generalize idxF (dedF (A.take (i+1)))=F;rw[take_snoc ha,Ym,Yz];rfl
theorem inR0:inR 0:=⟨by decide,by decide⟩
theorem inR1:inR 1:=⟨by decide,by decide⟩
theorem inR2:inR 2:=⟨by decide,by decide⟩
theorem inRn {n:Int} (h0:0<=n) (h1:n<=1000000000):inR n:=⟨by omega,by omega⟩
theorem natflat (L:List Nat):L.map natV=((L.map fun c:Nat=>(c:Int)).map inC).flatten:=by
 induction L with
 | nil=>rfl
 | cons a L ih=>rw[Yyl,Yyl,Yyl,Yyu,<-ih];rfl
def Fv (F:List (Int × Int)):List (Value × Value):=F.map fun q=>(iv q.1,iv q.2)
theorem classes71 (m:Mch) (sf sm sl:Sl) (h:Heap) (hM:MI h m sf sm sl) (hO:MOk m) (hS:m.mv.Pairwise mvLt) :
  Fn Pz 71 #[.agg ⟨mC m sf sm sl⟩] h fun v h'=>∃sc:Sl,v=.tuple ⟨[.slice sc.a sc.n sc.c,.int .i64 ((cls m).2:Nat)]⟩/\St h h' [.sl sc 3 1 (((cls m).1.map fun c:Nat=>(c:Int)).map inC)]:=by
 apply vc71 m.role m.n m.s sf sm sl;unfold W71 V71b V71a;have hs:=St.refl h;have hn:=hO.n;have hfl:=hO.fl;have hml:=hO.ml;have hll:=hO.ll;have hMl:=hM.pl.ln;have hMf:=hM.pf.ln;have hMm:=hM.pm.ln;refine hs.newb fun h7 hs=>?_;refine⟨sm,hs.rd 0 rfl rfl,?_⟩;refine (clone125 m.mv sm h7 (hM.pm.ext hs.ext).rw hM.pm.nil (by omega)).mono ?_;rintro _ h11 ⟨x10,rfl,hsc⟩;have hs:=(hs.join hsc).perm (List.perm_append_comm (l₁:=[_]) (l₂:=[_]));refine⟨x10,rfl,?_⟩;refine (sort72 hs 0 rfl (by omega)).mono ?_;rintro _ h13 ⟨rfl,l',hp,hso,hs⟩;have hle:=mvSorted_same hp hS hso;subst hle;refine⟨rfl,?_⟩;refine⟨_,hs.rd 1 rfl rfl,by omega,?_⟩;rw[made3n];refine hs.newb fun h15 hs=>?_;have hx10:=(hs.rows 1 (s:=x10) (cs:=Mv.cs) rfl (by omega)).ln;have hsz13:h13.size<h15.size:=hs.get (k:=0) rfl |>.lt rfl
 refine⟨fun count h' μ=>∃(C:List Nat) (c f:Nat),count=(c:Int)/\μ=201-c/\c<=200/\202<=f+c/\C.length=m.n.toNat/\(∀x∈C,x<=200)/\(c=0\/(dedF C).length=c)/\cls m=clsN m f C c/\St h h' [.blk h13.size (C.map natV) 3,.sl x10 45 6 (m.mv.map Mv.cs),.blk h.size (mC m sf sm sl) 33],
  ⟨_,List.replicate m.n.toNat 0,0,202,rfl,rfl,by omega,by omega,Yg,fun x hx=>(by rw[List.mem_replicate] at hx;omega),.inl rfl,rfl,hs⟩,?_⟩
 clear hs;rintro-_ h20 μ ⟨C,c,f,rfl,rfl,hc,hf,hCl,hCb,hcd,hcls,hs⟩;refine hs.mmake 210 fun h23 E23 hs=>?_;refine⟨_,rfl,?_⟩;refine hs.newput (vs:=[.map (some h20.size)]) rfl rfl fun h25 hs=>?_;refine⟨_,hs.rd 4 rfl rfl,by omega,?_⟩;rw[made3i];refine hs.newb fun h27 hs=>?_;have hs:St h h27 (clL h25.size h23.size h20.size h13.size h.size m sf sm sl x10 [] (List.replicate m.n.toNat 0) C):=hs;refine⟨fun x h' μ=>∃(i:Nat) (N:List (Sg × Int)) (A:List Int),x=i/\μ=m.n.toNat-i/\i<=m.n.toNat/\St h h' (clL h25.size h23.size h20.size h13.size h.size m sf sm sl x10 N A C)/\NOk m.n.toNat N/\(∀q∈N,kokS q.1)/\N.length<=i/\A.length=m.n.toNat/\HsA N A i (keyH m C [] []),
  ⟨_,0,[],_,rfl,rfl,by omega,hs,.nil _,fun q hq=>(by cases hq),by decide,Yg,fun s hs=>(by omega)⟩,?_⟩
 clear hs;rintro-_ h32 μ ⟨i,N,A,rfl,rfl,hi,hs,hN,hok,hNl,hAl,hA⟩;refine sBi (fun c1=>?_) (fun c1=>?_)
 .obtain⟨ci,hci⟩:=get_some (l:=C) (i:=i) (by omega);have hcid:C.getD i 0=ci:=getD_some hci;refine⟨⟨by omega,by omega⟩,?_⟩;rw[show 0+Int.toNat (i:Int)*1=i by omega];refine⟨_,hs.rd 3 rfl (by rw[Yd,hci];rfl),sf,hs.rd 5 rfl rfl,?_⟩;refine (hM.pf.ext hs.ext).rw.nbI (by omega) (by omega) fun b35 o36 bf g35 t35=>?_;replace g35:m.fin[i]?=some bf:=g35;refine⟨_,t35.hd,?_⟩;have hsg:sgB C m.fin i=⟨(ci:Int),0,ev0,bf,0⟩:=by unfold sgB;rw[hcid,getD_some g35]
  have hcb:ci<=200:=hCb ci (Yb hci);have hkk:kokS ⟨(ci:Int),0,ev0,bf,0⟩:=⟨inRn (n:=(ci:Int)) (by omega) (by omega),inR0,inR0,inR0,inR0⟩;refine Fn.mono (next126 hs 1 2 (mb:=h.size) (n:=((m.n.toNat:Nat):Int)) rfl rfl (by rw[show ((m.n.toNat:Nat):Int)=m.n by omega];exact hs.rd 5 rfl rfl) (by omega) hN hok ⟨(ci:Int),0,ev0,bf,0⟩ hkk (by omega)) ?_;rintro _ h40 ⟨rfl,hs⟩;refine⟨_,rfl,⟨by omega,by omega⟩,?_⟩;rw[<-hsg] at hs hkk ⊢;obtain⟨e1,e2,e3,e4,e5⟩:=nextF_spec hN (sgB C m.fin i);refine hs.put 0 rfl (o:=i) (vs:=[iv (nextF m.n.toNat N (sgB C m.fin i)).1]) rfl (by rw[Yc,Yv];omega) fun h41 hs=>?_;rw[map_splice iv (by omega)] at hs;refine⟨_,by omega,i+1,_,_,by rw[w64 (by omega) (by omega)];omega,rfl,by omega,hs,e1,fun q hq=>?_,by omega,by rw[Yyh];exact hAl,fun s hs'=>?_⟩
  .rcases e5 q hq with h | h
   .exact hok q h
   .rw[h];exact hkk
  .by_cases e:s=i
   .subst e;exact⟨_,Yq (by omega),.base e3 rfl⟩
   .obtain⟨v,hv,hh⟩:=hA s (by omega);exact⟨v,by rw[Yy (fun h=>e h.symm)];exact hv,hh.mono e2⟩
 have hin:i=m.n.toNat:=by omega
 subst hin;refine⟨sl,hs.rd 5 rfl rfl,?_⟩;refine⟨fun x h' μ=>∃(j:Nat) (N:List (Sg × Int)) (A:List Int),x=j/\μ=m.li.length-j/\j<=m.li.length/\St h h' (clL h25.size h23.size h20.size h13.size h.size m sf sm sl x10 N A C)/\NOk m.n.toNat N/\(∀q∈N,kokS q.1)/\N.length<=m.n.toNat+j/\A.length=m.n.toNat/\HsA N A m.n.toNat (keyH m C (m.li.take j) []),
  ⟨_,0,N,A,rfl,rfl,by omega,hs,hN,hok,hNl,hAl,hA⟩,?_⟩
 clear hs hN hok hNl hAl hA hi c1;rintro-_ h48 μ ⟨j,N,A,rfl,rfl,hj,hs,hN,hok,hNl,hAl,hA⟩;refine sBi (fun c1=>?_) (fun c1=>?_)
 .refine (hM.pl.ext hs.ext).rw.nbI (by omega) (by omega) fun b49 o50 t g49 t49=>?_;replace g49:m.li[j]?=some t:=g49;obtain⟨ht1,ht2,ht3,ht4,ht5⟩:=hO.li t (Yb g49);refine⟨_,_,_,t49,?_⟩;refine hs.newput (vs:=t.cs) rfl rfl fun h55 hs=>?_;refine⟨sm,hs.rd 6 rfl rfl,_,hs.rd 0 rfl rfl,?_⟩;refine (hM.pm.ext hs.ext).rw.nbI (by omega) (by omega) fun b58 o59 y g58 t58=>?_;obtain⟨_,_,_,_,hy1,hy2⟩:=hO.mv y (Yb g58);refine⟨_,_,_,_,_,_,t58,?_⟩;refine hs.newput (vs:=y.cs) rfl rfl fun h67 hs=>?_;refine⟨_,hs.rd 1 rfl rfl,_,hs.rd 1 rfl rfl,⟨by omega,by omega⟩,?_⟩;obtain⟨v,hv,hh⟩:=hA t.s.toNat (by omega);have hvb:=hh.bound hN;rw[show 0+Int.toNat t.s*1=t.s.toNat by omega];refine⟨v,hs.rd 2 rfl (by rw[Yd,hv];rfl),_,hs.rd 0 rfl rfl,_,hs.rd 0 rfl rfl,_,hs.rd 0 rfl rfl,_,hs.rd 1 rfl rfl,?_⟩;have hkk:kokS ⟨v,1,y.ev,false,t.k⟩:=⟨inRn (n:=v) (by omega) (by omega),inR1,hy1,hy2,ht5⟩;refine Fn.mono (next126 hs 3 4 (mb:=h.size) (n:=((m.n.toNat:Nat):Int)) rfl rfl (by rw[show ((m.n.toNat:Nat):Int)=m.n by omega];exact hs.rd 7 rfl rfl) (by omega) hN hok ⟨v,1,y.ev,false,t.k⟩ hkk (by omega)) ?_;rintro _ h77 ⟨rfl,hs2⟩;refine⟨_,rfl,sm_cons (hs.same hs2 1 1 rfl rfl) sm_nil,⟨by omega,by omega⟩,?_⟩;obtain⟨e1,e2,e3,e4,e5⟩:=nextF_spec hN ⟨v,1,y.ev,false,t.k⟩;refine hs2.put 2 rfl (o:=t.s.toNat) (vs:=[iv (nextF m.n.toNat N ⟨v,1,y.ev,false,t.k⟩).1]) rfl (by rw[Yc,Yv];omega) fun h78 hs=>?_;rw[map_splice iv (by omega)] at hs;refine⟨_,by omega,j+1,_,_,by rw[w64 (by omega) (by omega)];omega,rfl,by omega,hs.drop 2,e1,fun q hq=>?_,by omega,by rw[Yyh];exact hAl,?_⟩
  .rcases e5 q hq with h | h
   .exact hok q h
   .rw[h];exact hkk
  .refine hA.step hN hAl (by omega) hv _ rfl (show (1:Int)≠0 by decide) (sgL m.mv t) ?_ fun s=>?_
   .unfold sgL;rw[g58]
   .rw[keyH_li g49];by_cases e:t.s=(s:Int)
    .rw[if_pos e,if_pos (by omega)]
    .rw[if_neg e,if_neg (by omega)]
 have hjn:j=m.li.length:=by omega
 subst hjn;rw[Yye] at hA;refine⟨fun x h' μ=>∃(j:Nat) (N:List (Sg × Int)) (A:List Int),x=j/\μ=m.mv.length-j/\j<=m.mv.length/\St h h' (clL h25.size h23.size h20.size h13.size h.size m sf sm sl x10 N A C)/\NOk m.n.toNat N/\(∀q∈N,kokS q.1)/\N.length<=m.n.toNat+m.li.length+j/\A.length=m.n.toNat/\HsA N A m.n.toNat (keyH m C m.li (m.mv.take j)),
  ⟨_,0,N,A,rfl,rfl,by omega,hs,hN,hok,hNl,hAl,hA⟩,?_⟩
 clear hs hN hok hNl hAl hA hj c1;rintro-_ h84 μ ⟨j,N,A,rfl,rfl,hj,hs,hN,hok,hNl,hAl,hA⟩;refine sBi (fun c1=>?_) (fun c1=>?_)
 .refine (hs.rows 4 (s:=x10) (cs:=Mv.cs) rfl (by omega)).nbI (by omega) (by omega) fun b85 o86 x g85 t85=>?_;replace g85:m.mv[j]?=some x:=g85;obtain⟨hx1,hx2,hx3,hx4,hx5,hx6⟩:=hO.mv x (Yb g85);refine⟨_,_,_,_,_,_,t85,?_⟩;refine hs.newput (vs:=x.cs) rfl rfl fun h94 hs=>?_;refine⟨_,hs.rd 0 rfl rfl,_,hs.rd 0 rfl rfl,⟨by omega,by omega⟩,?_⟩;obtain⟨v,hv,hh⟩:=hA x.f.toNat (by omega);have hvb:=hh.bound hN;obtain⟨ct,hct⟩:=get_some (l:=C) (i:=x.t.toNat) (by omega);have hcb:ct<=200:=hCb ct (Yb hct);rw[show 0+Int.toNat x.f*1=x.f.toNat by omega];refine⟨v,hs.rd 1 rfl (by rw[Yd,hv];rfl),_,hs.rd 0 rfl rfl,_,hs.rd 0 rfl rfl,_,hs.rd 0 rfl rfl,_,hs.rd 0 rfl rfl,_,hs.rd 0 rfl rfl,⟨by omega,by omega⟩,?_⟩;rw[show 0+Int.toNat x.t*1=x.t.toNat by omega];refine⟨_,hs.rd 4 rfl (by rw[Yd,hct];rfl),?_⟩;have hkk:kokS ⟨v,2,x.ev,x.ag,(ct:Int)⟩:=⟨inRn (n:=v) (by omega) (by omega),inR2,hx5,hx6,inRn (n:=(ct:Int)) (by omega) (by omega)⟩;refine Fn.mono (next126 hs 2 3 (mb:=h.size) (n:=((m.n.toNat:Nat):Int)) rfl rfl (by rw[show ((m.n.toNat:Nat):Int)=m.n by omega];exact hs.rd 6 rfl rfl) (by omega) hN hok ⟨v,2,x.ev,x.ag,(ct:Int)⟩ hkk (by omega)) ?_;rintro _ h106 ⟨rfl,hs2⟩;refine⟨_,rfl,sm_cons (hs.same hs2 0 0 rfl rfl) sm_nil,⟨by omega,by omega⟩,?_⟩;obtain⟨e1,e2,e3,e4,e5⟩:=nextF_spec hN ⟨v,2,x.ev,x.ag,(ct:Int)⟩;refine hs2.put 1 rfl (o:=x.f.toNat) (vs:=[iv (nextF m.n.toNat N ⟨v,2,x.ev,x.ag,(ct:Int)⟩).1]) rfl (by rw[Yc,Yv];omega) fun h78 hs=>?_;rw[map_splice iv (by omega)] at hs;refine⟨_,by omega,j+1,_,_,by rw[w64 (by omega) (by omega)];omega,rfl,by omega,hs.drop 1,e1,fun q hq=>?_,by omega,by rw[Yyh];exact hAl,?_⟩
  .rcases e5 q hq with h | h
   .exact hok q h
   .rw[h];exact hkk
  .refine hA.step hN hAl (by omega) hv _ rfl (show (2:Int)≠0 by decide) (sgM C x) ?_ fun s=>?_
   .unfold sgM;rw[getD_some hct]
   .rw[keyH_mv g85];by_cases e:x.f=(s:Int)
    .rw[if_pos e,if_pos (by omega)]
    .rw[if_neg e,if_neg (by omega)]
 have hjn:j=m.mv.length:=by omega
 subst hjn;rw[Yye] at hA;have hpat:canonL A=canonL (clsK m C)/\(dedF A).length=(dedF (clsK m C)).length:=by
  refine canon_eq (by rw[clsK_len,hAl]) fun i j a b a' b' h1 h2 h3 h4=>?_;have hi:=(Ya.1 h1).1;have hj:=(Ya.1 h2).1;obtain⟨v,hv,hh⟩:=hA i (by omega);obtain⟨v',hv',hh'⟩:=hA j (by omega);rw[h1] at hv;cases hv;rw[h2] at hv';cases hv';unfold clsK at h3 h4;rw[Yd,Yyb (by omega)] at h3 h4;cases h3;cases h4;constructor
  .intro e;subst e;exact HsN.func hN hh hh'
  .intro e;exact HsN.inj hN hh (by rw[show keyH m C m.li m.mv i=_ from e];exact hh')
 have hAr:∀a∈A,inR a:=fun a ha=>by
  obtain⟨i,hi⟩:=Yf.1 ha;have:=(Ya.1 hi).1;obtain⟨v,hv,hh⟩:=hA i (by omega);rw[hi] at hv;cases hv;have:=hh.bound hN;exact⟨by omega,by omega⟩
 have hge:=clsK_ge hCl;have hle:=dedF_len_le (clsK m C);rw[clsK_len] at hle;refine hs.mmake 215 fun h111 E111 hs=>?_;refine⟨_,rfl,?_⟩;refine⟨fun x h' μ=>∃i:Nat,x=i/\μ=m.n.toNat-i/\i<=m.n.toNat/\St h h' (.mp h84.size (Fv (zipI (dedF (A.take i)) 0))::clL h25.size h23.size h20.size h13.size h.size m sf sm sl x10 N A ((A.take i).map (idxF (dedF (A.take i)))++C.drop i)),⟨_,0,rfl,rfl,by omega,hs⟩,?_⟩;clear hs;rintro-_ h116 μ ⟨i,rfl,rfl,hi,hs⟩;have hDr:∀ {i:Nat},∀q∈zipI (dedF (A.take i)) 0,inR q.1:=fun q hq=>by
  have:q.1∈(zipI (dedF (A.take _)) 0).map Prod.fst:=Yp.2 ⟨q,hq,rfl⟩;rw[zipI_fst,dedF_mem] at this;exact hAr _ (List.mem_of_mem_take this)
 have hDn:∀ {i:Nat},((zipI (dedF (A.take i)) 0).map Prod.fst).Nodup:=fun {_}=>by rw[zipI_fst];exact dedF_nodup _
 refine sBi (fun c2=>?_) (fun c2=>?_)
 .obtain⟨a,ha⟩:=get_some (l:=A) (i:=i) (by omega);have har:=hAr a (Yb ha);have hCl2:((A.take i).map (idxF (dedF (A.take i)))++C.drop i).length=m.n.toNat:=by rw[Yh,Yc,Yu,List.length_drop];omega
  refine⟨⟨by omega,by omega⟩,?_⟩;rw[show 0+Int.toNat (i:Int)*1=i by omega];refine⟨a,hs.rd 1 rfl (by rw[Yd,ha];rfl),?_⟩;refine hs.mlook (ck:=iv) (cv:=iv) M215 0 rfl hDr hDn (a:=a) har true ?_;have hlast:∀ {h':Heap},St h h' (.mp h84.size (Fv (zipI (dedF (A.take (i+1))) 0))::clL h25.size h23.size h20.size h13.size h.size m sf sm sl x10 N A ((A.take (i+1)).map (idxF (dedF (A.take (i+1))))++C.drop (i+1))) ->
    ∃μ,μ<m.n.toNat-i/\∃i2:Nat,IntKind.wrap .i64 ((i:Int)+1)=i2/\μ=m.n.toNat-i2/\i2<=m.n.toNat/\St h h' (.mp h84.size (Fv (zipI (dedF (A.take i2)) 0))::clL h25.size h23.size h20.size h13.size h.size m sf sm sl x10 N A ((A.take i2).map (idxF (dedF (A.take i2)))++C.drop i2)):=
   fun h2=>⟨_,by omega,i+1,by rw[w64 (by omega) (by omega)];omega,rfl,by omega,h2⟩
  rw[mget_zipI];have hD:=dedF_take ha;have hcs:=class_step (C:=C) ha (by omega);by_cases hm:a∈dedF (A.take i)
  .rw[if_pos hm] at hD ⊢;refine⟨_,true,rfl,?_⟩;refine sB_f rfl ?_;refine hs.mlook (ck:=iv) (cv:=iv) M215 0 rfl hDr hDn (a:=a) har false ?_;rw[mget_zipI,if_pos hm];refine⟨_,rfl,⟨by omega,by omega⟩,?_⟩;refine hs.put 4 rfl (o:=i) (vs:=[natV (idxF (dedF (A.take i)) a)]) rfl (by rw[Yc,Yv];omega) fun h134 hs=>?_;rw[map_splice natV (by omega)] at hs;rw[hD] at hcs;rw[hcs] at hs;refine hlast ?_;rw[hD];exact hs
  .rw[if_neg hm] at hD ⊢;have hnone:∀q∈zipI (dedF (A.take i)) 0,q.1≠a:=fun q hq e=>hm (by
    have h1:q.1∈(zipI (dedF (A.take i)) 0).map Prod.fst:=Yp.2 ⟨q,hq,rfl⟩
    rwa [zipI_fst,e] at h1)
   refine⟨0,false,rfl,?_⟩;refine sB_t rfl ?_;refine hs.mlen (ck:=iv) (cv:=iv) M215 0 rfl ?_;refine⟨_,rfl,?_⟩;refine hs.mput (ck:=iv) (cv:=iv) M215 0 rfl hDr hDn (a:=a) har (((zipI (dedF (A.take i)) 0).length:Nat):Int) fun h125 hs=>?_;rw[mset_none hnone,zipI_len,<-zipI_snoc,<-hD] at hs;refine hs.mlook (ck:=iv) (cv:=iv) M215 0 rfl hDr hDn (a:=a) har false ?_;rw[mget_zipI,if_pos (by rw[hD,Yk];exact .inr (Ye.2 rfl))];refine⟨_,rfl,⟨by omega,by omega⟩,?_⟩;refine hs.put 4 rfl (o:=i) (vs:=[natV (idxF (dedF (A.take (i+1))) a)]) rfl (by rw[Yc,Yv];omega) fun h134 hs=>?_;rw[map_splice natV (by omega),hcs] at hs;exact hlast hs
 have hin:i=m.n.toNat:=by omega
 subst hin;rw[Yj (by omega),List.drop_eq_nil_of_le (by omega),Yw] at hs;have hcl2:A.map (idxF (dedF A))=canonL (clsK m C):=hpat.1;obtain⟨f',rfl⟩:∃f',f=f'+1:=⟨f-1,by omega⟩;rw[clsN] at hcls;refine hs.mlen (ck:=iv) (cv:=iv) M215 0 rfl ?_;refine⟨_,rfl,?_⟩;refine sBe (fun c3=>?_) (fun c3=>?_)
 .rw[zipI_len,hpat.2] at c3;rw[if_pos (by omega)] at hcls;rw[hcls];refine⟨⟨some ⟨h13.size,0,none⟩,m.n.toNat,m.n.toNat⟩,rfl,?_⟩;rw[hcl2] at hs;have h1:=(hs.drop 4).sub (List.sublist_append_left [_] _);exact h1.blkS m.n.toNat 1 _ (natflat _) (inrows _) (by rw[Yc,Yc,canonL_len,clsK_len]) (by simp only[maxLen];omega)
 .refine hs.mlen (ck:=iv) (cv:=iv) M215 0 rfl ?_;refine⟨_,rfl,?_⟩;rw[zipI_len,hpat.2] at c3 ⊢;rw[if_neg (by omega)] at hcls;rw[hcl2] at hs;refine⟨_,?_,canonL (clsK m C),(dedF (clsK m C)).length,f',rfl,rfl,by omega,by omega,by rw[canonL_len,clsK_len],fun x hx=>by have:=canonL_lt hx;omega,.inr (dedF_canon _),hcls,(hs.drop 4)⟩;omega
end Go.VC
end

section
namespace Go.VC
def addQ (Q:List Nat) (c:Nat):List Nat:=if c∈Q then Q else Q++[c]
def minX (m:Mch) (C:List Nat) (hd:Nat) (tl:Option To) (st:List Nat × List Mv × List To) (x:Mv):List Nat × List Mv × List To:=
 (addQ st.1 (C.getD x.t.toNat 0),st.2.1++[⟨hd,x.send,x.peer,x.label,(idxF (addQ st.1 (C.getD x.t.toNat 0)) (C.getD x.t.toNat 0):Nat),x.ag⟩],
  st.2.2++(match tl with
   | none=>[]
   | some t=>match m.mv[t.e.toNat]? with
    | some y=>if x.ev=y.ev then [⟨hd,t.k,(st.2.1.length:Nat)⟩] else []
    | none=>[]))
def limM (li:List To):List (Int × To):=li.foldl (fun l t=>mset l t.s t) []
def outM (m:Mch) (s:Nat):List Mv:=m.mv.filter fun x=>x.f=(s:Int)
def minN (m:Mch) (C:List Nat):Nat->Nat->List Nat->List Bool->List Mv->List To->Mch
 | 0,_,Q,fin,mv,li=>⟨m.role,(Q.length:Nat),0,fin,mv,li⟩
 | f+1,hd,Q,fin,mv,li=>match Q[hd]? with
  | none=>⟨m.role,(Q.length:Nat),0,fin,mv,li⟩
  | some c=>minN m C f (hd+1) ((outM m (idxF C c)).foldl (minX m C hd (mget (limM m.li) (idxF C c:Nat))) (Q,mv,li)).1 (fin++[m.fin.getD (idxF C c) false])
    ((outM m (idxF C c)).foldl (minX m C hd (mget (limM m.li) (idxF C c:Nat))) (Q,mv,li)).2.1 ((outM m (idxF C c)).foldl (minX m C hd (mget (limM m.li) (idxF C c:Nat))) (Q,mv,li)).2.2
def minF (m:Mch):Mch:=minN m (cls m).1 202 0 [(cls m).1.getD m.s.toNat 0] [] [] []
structure CsOk (m:Mch) (C:List Nat) (cnt:Nat):Prop where
 cl:C.length=m.n.toNat
 cb:∀c∈C,c<cnt
 cc:cnt<=m.n.toNat
 cs:∀c,c<cnt->c∈C
theorem idxF_get {K:Type} [DecidableEq K]:∀ {l:List K} {k:K},k∈l->l[idxF l k]?=some k
 | [],_,h=>by cases h
 | x::r,k,h=>by
  rw[idxF];split
  .rename_i e;rw[e];rfl
  .rename_i e;rw[List.getElem?_cons_succ];exact idxF_get (by rcases Yr.1 h with h | h;exact absurd h.symm e;exact h)
theorem canon_surj {K:Type} [DecidableEq K] (l:List K):∀c,c<(dedF l).length->c∈canonL l:=by
 intro c hc;obtain⟨k,hk⟩:=get_some (l:=dedF l) (i:=c) hc;have hkm:=Yb hk;have hkl:=(dedF_mem _ _).1 hkm;refine Yp.2 ⟨k,hkl,?_⟩;have h1:=idxF_get hkm;have h2:=idxF_lt hkm;exact (List.getElem?_inj h2 (dedF_nodup l)).1 (h1.trans hk.symm)
theorem cls_ok {m:Mch} (hO:MOk m):CsOk m (cls m).1 (cls m).2:=by
 have hn:=hO.n;have key:∀(f:Nat) (C:List Nat) (c:Nat),C.length=m.n.toNat->202<=f+c->c<=m.n.toNat->(c=0\/(dedF C).length=c)->CsOk m (clsN m f C c).1 (clsN m f C c).2:=by
  intro f
  induction f with
  | zero=>intro C c _ h _ _;omega
  | succ f ih=>
   intro C c hC hf hc hd;have hge:=clsK_ge hC;have hle:=dedF_len_le (clsK m C);rw[clsK_len] at hle;rw[clsN];by_cases e:(dedF (clsK m C)).length=c
   .rw[if_pos e];exact⟨by rw[canonL_len,clsK_len],fun x hx=>by have:=canonL_lt hx;omega,hc,fun x hx=>canon_surj _ x (by omega)⟩
   .rw[if_neg e];exact ih _ _ (by rw[canonL_len,clsK_len]) (by omega) hle (.inr (dedF_canon _))
 exact key 202 _ 0 Yg (by omega) (by omega) (.inl rfl)
structure QOk (Q:List Nat) (cnt:Nat):Prop where
 nd:Q.Nodup
 lt:∀c∈Q,c<cnt
theorem QOk.le {Q:List Nat} {cnt:Nat} (h:QOk Q cnt):Q.length<=cnt:=by
 have:=List.Nodup.length_le_of_subset h.nd (l₂:=List.range cnt) fun c hc=>List.mem_range.2 (h.lt c hc)
 rwa [Yyd] at this
theorem QOk.add {Q:List Nat} {cnt c:Nat} (h:QOk Q cnt) (hc:c<cnt):QOk (addQ Q c) cnt:=by
 unfold addQ;split
 .exact h
 .rename_i hn;refine⟨?_,fun x hx=>?_⟩
  .rw[List.nodup_append];exact⟨h.nd,by simp,fun a ha b hb=>by rw[Ye] at hb;subst hb;exact fun e=>hn (e ▸ ha)⟩
  .rcases Yk.1 hx with hx | hx
   .exact h.lt x hx
   .rw[Ye] at hx;rw[hx];exact hc
theorem addQ_mem {Q:List Nat} {c:Nat}:c∈addQ Q c:=by unfold addQ;split;assumption;simp
theorem addQ_len {Q:List Nat} {c:Nat}:Q.length<=(addQ Q c).length:=by unfold addQ;split;omega;simp
def NumQ (NUM:List Int) (Q:List Nat) (cnt:Nat):Prop:=NUM.length=cnt/\∀c,c<cnt->NUM[c]?=some (if c∈Q then (idxF Q c:Int) else -1)
theorem NumQ.add {NUM:List Int} {Q:List Nat} {cnt c:Nat} (h:NumQ NUM Q cnt) (hc:c<cnt) (hn:c∉Q):NumQ (NUM.set c (Q.length:Nat)) (Q++[c]) cnt:=by
 obtain⟨h1,h2⟩:=h;refine⟨by rw[Yyh,h1],fun x hx=>?_⟩;by_cases e:x=c
 .subst e;rw[Yq (by omega),if_pos (by simp)];congr 2;have:∀(l:List Nat),x∉l->idxF (l++[x]) x=l.length:=by
   intro l hl
   induction l with
   | nil=>rw[List.nil_append,idxF,if_pos rfl];rfl
   | cons y r ih=>
    rw[Yr,not_or] at hl;rw[List.cons_append,idxF,if_neg (fun e=>hl.1 e.symm),ih hl.2,Yyj]
  exact (this Q hn).symm
 .rw[Yy (fun h=>e h.symm),h2 x hx];by_cases hm:x∈Q
  .rw[if_pos hm,if_pos (Yk.2 (.inl hm)),idxF_mem hm]
  .rw[if_neg hm,if_neg (fun hc=>by rcases Yk.1 hc with hc | hc;exact hm hc;exact e (Ye.1 hc))]
theorem limM_nd (li:List To):((limM li).map Prod.fst).Nodup:=by
 unfold limM
 suffices h:∀(l:List To) (a:List (Int × To)),(a.map Prod.fst).Nodup->((l.foldl (fun l t=>mset l t.s t) a).map Prod.fst).Nodup from h li [] List.nodup_nil
 intro l
 induction l with
 | nil=>intro a h;exact h
 | cons x r ih=>intro a h;rw[List.foldl_cons];exact ih _ (mset_nodup _ _ _ h)
theorem mset_mem {α β:Type} [DecidableEq α] {a:α} {b:β}:∀ {l:List (α × β)} {q:α × β},q∈mset l a b->q∈l\/q=(a,b)
 | [],q,h=>by rw[mset,Ye] at h;exact .inr h
 | (x,y)::r,q,h=>by
  rw[mset] at h;split at h
  .rename_i e;rcases Yr.1 h with h | h
   .rw[h,e];exact .inr rfl
   .exact .inl (Yn _ h)
  .rcases Yr.1 h with h | h
   .rw[h];exact .inl (Yx ..)
   .rcases mset_mem h with h | h
    .exact .inl (Yn _ h)
    .exact .inr h
theorem limM_mem {li:List To} {q:Int × To} (h:q∈limM li):q.2∈li/\q.2.s=q.1:=by
 have key:∀n,∀q∈limM (li.take n),q.2∈li/\q.2.s=q.1:=by
  intro n
  induction n with
  | zero=>intro q hq;cases hq
  | succ n ih=>
   intro q hq;by_cases hn:n<li.length
   .obtain⟨t,ht⟩:=get_some (l:=li) (i:=n) hn;have e:limM (li.take (n+1))=mset (limM (li.take n)) t.s t:=by unfold limM;rw[take_snoc ht,List.foldl_append];rfl
    rw[e] at hq;rcases mset_mem hq with h | h
    .exact ih q h
    .rw[h];exact⟨Yb ht,rfl⟩
   .rw[Yj (by omega)] at hq;refine ih q ?_;rw[Yj (by omega)];exact hq
 have:=key li.length q;rw[Yye] at this;exact this h
theorem limM_snoc {li:List To} {j:Nat} {t:To} (h:li[j]?=some t):limM (li.take (j+1))=mset (limM (li.take j)) t.s t:=by unfold limM;rw[take_snoc h,List.foldl_append];rfl
theorem outM_snoc {mv:List Mv} {j:Nat} {x:Mv} (h:mv[j]?=some x) (s:Nat):(mv.take (j+1)).filter (fun y=>y.f=(s:Int))=if x.f=(s:Int) then (mv.take j).filter (fun y=>y.f=(s:Int))++[x] else (mv.take j).filter (fun y=>y.f=(s:Int)):=by
 rw[take_snoc h,List.filter_append];by_cases e:x.f=(s:Int)
 .rw[if_pos e,List.filter_cons_of_pos (by simpa using e)];rfl
 .rw[if_neg e,List.filter_cons_of_neg (by simpa using e)];simp
theorem minX_len (m:Mch) (C:List Nat) (hd:Nat) (tl:Option To) (st:List Nat × List Mv × List To) (x:Mv):(minX m C hd tl st x).2.1.length=st.2.1.length+1/\(minX m C hd tl st x).2.2.length<=st.2.2.length+1:=by
 unfold minX;refine⟨by simp,?_⟩;rw[Yh];split
 .simp
 .split
  .split<;>simp
  .simp
end Go.VC
end
