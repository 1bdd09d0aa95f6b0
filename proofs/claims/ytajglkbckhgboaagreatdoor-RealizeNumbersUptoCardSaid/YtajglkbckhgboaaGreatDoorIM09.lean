/- SxKf SxKg SxKh SxKj SxKk SxM17 SxM19 SxM20 SyH SyK SxM21 SxM22 SyA SyB SyC SyM SyO SyP SyQ SyR SyS SyT SyU SyV SyBa SyW SyX SyY SyZ SyZa SyBb SyCa SyCb SyCc SyCd SyCe SyCf SyCg SyCh SyCi SyIa SyIs SyI SyCj SyD SyE SyF SyG SyCk SyCl SxKi SyCm SyCn SxArgs. -/
import Derived.Test.YtajglkbckhgboaaGreatDoorIM08
import Derived.Test.YtajglkbckhgboaaGreatDoorRows
set_option linter.all false
set_option maxRecDepth 100000
set_option maxHeartbeats 8000000

section
namespace Go.VC
open Go.LexS
def ed0:Ed:=⟨0,0,0,0,0,false⟩
def gE(g:Gl)(e:Nat):Ed:=g.es.getD e ed0
theorem qx{g:Gl}{e:Nat}{x:Ed}(h:g.es[e]?=some x):gE g e=x:=by unfold gE;rw[Yo,h];rfl
def nv(num:List Int)(v:Int):Int:=num.getD v.toNat (-1)
theorem l8{num:List Int}{v d:Int}(h:num[v.toNat]?=some d):nv num v=d:=by unfold nv;rw[Yo,h];rfl
def mE(g:Gl)(num:List Int)(e:Nat):Ed:=⟨nv num (gE g e).f,(gE g e).a,(gE g e).b,(gE g e).l,nv num (gE g e).t,(gE g e).ag⟩
structure CA (n:Nat) (ord:List Nat) (num:List Int):Prop where
 ln:num.length=n
 a:∀(i s:Nat),ord[i]?=some s->num[s]?=some (i:Int)
 b:∀(s:Nat) v,num[s]?=some v->v=-1\/∃i:Nat,v=(i:Int)/\ord[i]?=some s
theorem CA.lt{n:Nat}{ord:List Nat}{num:List Int}(h:CA n ord num){s:Nat}(hs:s∈ord):s<n:=by
 obtain⟨i,hi⟩:=Yf.1 hs;have:=(Ya.1 (h.a i s hi)).1;rw[h.ln] at this;exact this
theorem CA.nd{n:Nat}{ord:List Nat}{num:List Int}(h:CA n ord num):ord.Nodup:=by
 refine List.pairwise_iff_getElem.2 fun i j hi hj zh e=>?_;have h1:=h.a i _ (Yi hi);have h2:=h.a j _ (Yi hj);rw[e,h2] at h1;have:=eU h1;omega
theorem cF:∀(n:Nat) (l:List Nat),l.Nodup->(∀x∈l,x<n)->l.length<=n
 | 0,l,_,h=>by
  cases l with
  | nil=>exact aY _
  | cons a l=>have:=h a Yx;omega
 | n+1,l,hn,h=>by
  by_cases hm:n∈l
  .have h1:=cF n (l.erase n) (hn.erase n) fun x hx=>by
    have:=(hn.mem_erase_iff).1 hx;have h2:=h x this.2;have h3:x≠n:=this.1;omega
   rw[List.length_erase_of_mem hm] at h1;omega
  .have h1:=cF n l hn fun x hx=>by
    have h2:=h x hx;have h3:x≠n:=fun e=>hm (e ▸ hx);omega
   omega
theorem CA.len{n:Nat}{ord:List Nat}{num:List Int}(h:CA n ord num):ord.length<=n:=by
 exact cF n ord h.nd fun s hs=>h.lt hs
theorem CA.push{n:Nat}{ord:List Nat}{num:List Int}(h:CA n ord num){t:Nat}(ht:num[t]?=some (-1)):CA n (ord++[t]) (num.set t (ord.length:Int)):=by
 have zd:=(Ya.1 ht).1;have fQ:∀(i:Nat),ord[i]?≠some t:=fun i hi=>by
  have:=h.a i t hi;rw[ht] at this;have:=eU this;omega
 refine⟨by rw[mF];exact h.ln,fun i s hi=>?_,fun s v hv=>?_⟩
 .by_cases c:i<ord.length
  .rw[jw c] at hi;have e:t≠s:=fun e=>fQ i (by rw[hi,e]);rw[Yy e];exact h.a i s hi
  .have hl:=(Ya.1 hi).1;rw[Yh] at hl;have e1:([t]:List Nat).length=1:=rfl;have:i=ord.length:=by omega
   subst this;rw[qJ (aY _),Nat.sub_self] at hi;cases hi;rw[Yq zd]
 .by_cases e:t=s
  .subst e;rw[Yq zd] at hv;cases hv;exact .inr ⟨ord.length,rfl,by rw[qJ (aY _),Nat.sub_self];rfl⟩
  .rw[Yy e] at hv;rcases h.b s v hv with h1 | ⟨i,h1,h2⟩
   .exact .inl h1
   .exact .inr ⟨i,h1,by rw[jw (Ya.1 h2).1];exact h2⟩
def sD(num dE:List Int):Prop:=∀v:Int,0<=nv num v->nv dE v=nv num v
theorem sD.refl(num:List Int):sD num num:=fun _ _=>rfl
theorem sD.push{num:List Int}{t:Nat}{v:Int}(ht:num[t]?=some (-1)):sD num (num.set t v):=fun w hw=>by
 unfold nv at hw ⊢;rw[Yo] at hw ⊢;rw[Yo];by_cases e:t=w.toNat
 .rw[<-e,ht] at hw;replace hw:(0:Int) <= -1:=hw;omega
 .rw[Yy e]
structure s6 (g:Gl) (k:Nat) (P:List Nat) (ord:List Nat) (num:List Int) (Q:List Nat) (es:List Ed) (ts:List To):Prop where
 n:CA g.n.toNat ord num
 z:ord[0]?=some g.s.toNat
 kl:k<=ord.length
 q:∀e,e∈Q ↔ (∃x i,g.es[e]?=some x/\i<k/\ord[i]?=some x.f.toNat)\/e∈P
 qn:Q.Nodup
 f:∀e∈Q,0<=nv num (gE g e).f/\nv num (gE g e).f<=k/\0<=nv num (gE g e).t
 es:es=Q.map (mE g num)
 ta:∀y∈ts,∃t∈g.ts,y.s=nv num t.s/\y.k=t.k/\∃j:Nat,y.e=(j:Int)/\Q[j]?=some t.e.toNat
 tb:∀t∈g.ts,t.e.toNat∈Q->∃y∈ts,y.s=nv num t.s/\y.k=t.k/\∃j:Nat,y.e=(j:Int)/\Q[j]?=some t.e.toNat
 tc:ts.Pairwise fun a b=>a.s<b.s
 td:∀y∈ts,0<=y.s/\y.s<=k
theorem Ie{g:Gl}{num dE:List Int}(hK:sD num dE){e:Nat}(h:0<=nv num (gE g e).f/\0<=nv num (gE g e).t):mE g dE e=mE g num e:=by
 unfold mE;rw[hK _ h.1,hK _ h.2]
theorem s6.bH{g:Gl}{k:Nat}{P ord jd:List Nat}{num dE:List Int}{Q:List Nat}{es:List Ed}{ts:List To}(h:s6 g k P ord num Q es ts)(hn:CA g.n.toNat jd dE)(hK:sD num dE)(ho:∀(i s:Nat),ord[i]?=some s->jd[i]?=some s)(hl:ord.length<=jd.length)(hV:∀t∈g.ts,(gE g t.e.toNat).f=t.s):s6 g k P jd dE Q es ts:=by
 have mW:∀ {t:To} {j:Nat},t∈g.ts->Q[j]?=some t.e.toNat->nv dE t.s=nv num t.s:=fun {t j} ht hj=>by
  have:=(h.f _ (Yb hj)).1;rw[hV t ht] at this;exact hK _ this
 have OH:∀(i s:Nat),i<k->(jd[i]?=some s ↔ ord[i]?=some s):=fun i s hi=>by
  obtain⟨z,hz⟩:=get_some (l:=ord) (i:=i) (by have:=h.kl;omega);rw[ho i z hz,hz]
 refine⟨hn,ho 0 _ h.z,mQ h.kl hl,fun e=>?_,h.qn,fun e he=>?_,?_,fun y hy=>?_,fun t ht hq=>?_,h.tc,h.td⟩
 .rw[h.q e];constructor
  .rintro (⟨x,i,h1,h2,h3⟩ | h1)
   .exact .inl ⟨x,i,h1,h2,(OH i _ h2).2 h3⟩
   .exact .inr h1
  .rintro (⟨x,i,h1,h2,h3⟩ | h1)
   .exact .inl ⟨x,i,h1,h2,(OH i _ h2).1 h3⟩
   .exact .inr h1
 .obtain⟨h1,h2,h3⟩:=h.f e he;rw[hK _ h1,hK _ h3];exact⟨h1,h2,h3⟩
 .rw[h.es];refine List.map_congr_left fun e he=>?_;obtain⟨h1,_,h3⟩:=h.f e he;exact (Ie hK ⟨h1,h3⟩).symm
 .obtain⟨t,ht,h1,h2,j,h3,h4⟩:=h.ta y hy;exact⟨t,ht,by rw[h1,mW ht h4],h2,j,h3,h4⟩
 .obtain⟨y,hy,h1,h2,j,h3,h4⟩:=h.tb t ht hq;exact⟨y,hy,by rw[h1,mW ht h4],h2,j,h3,h4⟩
theorem s6.aah{g:Gl}{k:Nat}{P ord:List Nat}{num:List Int}{Q:List Nat}{es:List Ed}{ts CM:List To}(h:s6 g k P ord num Q es ts){e:Nat}{x:Ed}(gx:g.es[e]?=some x)(hf:nv num x.f=(k:Int))(hk:ord[k]?=some x.f.toNat)(jr:0<=x.f)(Lv:0<=nv num x.t)(hP:e∉P)
  (mW:((∀t∈g.ts,t.e.toNat≠e)/\CM=ts)\/∃t∈g.ts,t.e.toNat=e/\t.s=x.f/\(∀t'∈g.ts,t'.e.toNat=e->t'=t)/\(∀y∈ts,y.s<(k:Int))/\CM=ts++[⟨k,t.k,(Q.length:Nat)⟩]) :
  s6 g k (P++[e]) ord num (Q++[e]) (es++[mE g num e]) CM:=by
 have hg:=qx gx;have OK:e∉Q:=fun c=>by
  rcases (h.q e).1 c with ⟨z,i,h1,h2,h3⟩ | h1
  .rw[gx] at h1;cases h1;have a1:=h.n.a i _ h3;have a2:=h.n.a k _ hk;rw[a1] at a2;have:=eU a2;omega
  .exact hP h1
 have gl:∀ {j:Nat} {z:Nat},Q[j]?=some z->(Q++[e])[j]?=some z:=fun {j z} hj=>by rw[jw (Ya.1 hj).1];exact hj
 have Kz:(Q++[e])[Q.length]?=some e:=by rw[qJ (aY _),Nat.sub_self];rfl
 refine⟨h.n,h.z,h.kl,fun z=>?_,?_,fun z hz=>?_,?_,fun y hy=>?_,fun t ht hq=>?_,?_,fun y hy=>?_⟩
 .rw[Yk,Yk,h.q z,or_assoc]
 .refine List.nodup_append.2 ⟨h.qn,List.pairwise_singleton _ _,fun a ha b hb=>?_⟩;rw[Ye.1 hb];exact fun c=>OK (c ▸ ha)
 .rcases Yk.1 hz with hz | hz
  .exact h.f z hz
  .rw[Ye.1 hz,hg,hf];exact⟨by omega,Int.le_refl _,Lv⟩
 .rw[h.es,Ym];rfl
 .have v8:y∈ts->∃t∈g.ts,y.s=nv num t.s/\y.k=t.k/\∃j:Nat,y.e=(j:Int)/\(Q++[e])[j]?=some t.e.toNat:=fun hy=>by
   obtain⟨t,ht,h1,h2,j,h3,h4⟩:=h.ta y hy;exact⟨t,ht,h1,h2,j,h3,gl h4⟩
  rcases mW with ⟨_,rfl⟩ | ⟨t,ht,h1,h2,_,_,rfl⟩
  .exact v8 hy
  .rcases Yk.1 hy with hy | hy
   .exact v8 hy
   .rw[Ye.1 hy];exact⟨t,ht,by rw[h2,hf],rfl,Q.length,rfl,by rw[Kz,h1]⟩
 .rcases Yk.1 hq with hq | hq
  .obtain⟨y,hy,h1,h2,j,h3,h4⟩:=h.tb t ht hq;refine⟨y,?_,h1,h2,j,h3,gl h4⟩;rcases mW with ⟨_,rfl⟩ | ⟨_,_,_,_,_,_,rfl⟩
   .exact hy
   .exact List.mem_append_left _ hy
  .rw[Ye] at hq;rcases mW with ⟨h1,rfl⟩ | ⟨t',oG,h1,h2,h3,_,rfl⟩
   .exact absurd hq (h1 t ht)
   .rw[h3 t ht hq];exact⟨_,List.mem_append_right _ (Ye.2 rfl),by rw[h2,hf],rfl,Q.length,rfl,by rw[Kz,h1]⟩
 .rcases mW with ⟨_,rfl⟩ | ⟨t,_,_,_,_,h4,rfl⟩
  .exact h.tc
  .refine List.pairwise_append.2 ⟨h.tc,List.pairwise_singleton _ _,fun a ha b hb=>?_⟩;rw[Ye.1 hb];exact h4 a ha
 .rcases mW with ⟨_,rfl⟩ | ⟨t,_,_,_,_,h4,rfl⟩
  .exact h.td y hy
  .rcases Yk.1 hy with hy | hy
   .exact h.td y hy
   .rw[Ye.1 hy];exact⟨by show (0:Int)<=(k:Int);omega,Int.le_refl _⟩
theorem s6.next{g:Gl}{k s:Nat}{P ord:List Nat}{num:List Int}{Q:List Nat}{es:List Ed}{ts:List To}(h:s6 g k P ord num Q es ts)(hk:ord[k]?=some s)(hP:∀e,e∈P ↔ ∃x,g.es[e]?=some x/\x.f=(s:Int))(h0:∀x∈g.es,0<=x.f):s6 g (k+1) [] ord num Q es ts:=by
 refine⟨h.n,h.z,(Ya.1 hk).1,fun e=>?_,h.qn,fun e he=>?_,h.es,h.ta,h.tb,h.tc,fun y hy=>?_⟩
 .rw[h.q e,hP e];constructor
  .rintro (⟨x,i,h1,h2,h3⟩ | ⟨x,h1,h2⟩)
   .exact .inl ⟨x,i,h1,by omega,h3⟩
   .exact .inl ⟨x,k,h1,by omega,by rw[hk,h2];rfl⟩
  .rintro (⟨x,i,h1,h2,h3⟩ | h1)
   .by_cases e:i=k
    .subst e;rw[hk] at h3;have:=eU h3;have:=h0 x (Yb h1);exact .inr ⟨x,h1,by omega⟩
    .exact .inl ⟨x,i,h1,by omega,h3⟩
   .cases h1
 .obtain⟨h1,h2,h3⟩:=h.f e he;exact⟨h1,by omega,h3⟩
 .have:=h.td y hy;omega
end Go.VC
end

section
namespace Go.VC
open Go.Proofs Go.LexS
theorem M3(t:To)(b:Nat)(st:Int)(h:Heap)(hb:hc h ⟨b,0,none⟩=some (.int .i64 st)):Fn Pz 79 #[.agg ⟨t.cs⟩,.pointer (some ⟨b,0,none⟩)] h fun v h'=>v=.bool (t.s==st)/\Ext h h':=by
 apply WY t.s t.k t.e ⟨b,0,none⟩;unfold W79;refine (St.refl h).aq fun h4 hs=>?_;exact⟨t.s,hs.rd 0 rfl (i:=0) rfl,st,aw hs.ext hb,rfl,hs.ext⟩
theorem call62:au Pz 79=true:=by kernel_rfl
theorem Io(g:Gl)(b:Nat)(st:Int)(h:Heap)(hg:GI h g)(hb:hc h ⟨b,0,none⟩=some (.int .i64 st)):Fn Pz 78 #[.slice g.ht.a g.ht.n g.ht.c,.func (.func 79) #[] #[.pointer (some ⟨b,0,none⟩)]] h fun v h'=>Ext h h'/\∃i:Int,v=.int .i64 i/\((i=-1/\∀t∈g.ts,t.s≠st)\/∃(j:Nat) (t:To),i=(j:Int)/\g.ts[j]?=some t/\t.s=st):=by
 apply WZ g.ht (.func (.func 79) #[] #[.pointer (some ⟨b,0,none⟩)]);unfold W78;have Lr:=hg.t.ln;have Bq:=hg.t.sm;refine cQ (n:=g.ht.n) (fun i h'=>Ext h h'/\∀(j:Nat) t,j<i->g.ts[j]?=some t->t.s≠st) ⟨.cD,fun j t hj=>by omega⟩ ?_;rintro-i h5 hi ⟨E,hq⟩;refine aa (fun c=>?_) (fun c=>?_)
 .replace c:=ba c;refine (hg.t.ext E).rw.aF (by omega) (by omega) fun b6 o7 t gt u=>?_;replace gt:g.ts[i]?=some t:=gt;refine⟨t.s,t.k,t.e,u,?_⟩;show (bif au Pz 79 then _ else _);rw[call62,cond_true];refine (M3 t b st h5 (aw E hb)).mono ?_;rintro _ fR ⟨rfl,E2⟩;refine⟨_,rfl,eh (fun c2=>⟨E.trans E2,i,rfl,.inr ⟨i,t,rfl,gt,c2⟩⟩) (fun c2=>Up.next c (by omega) ⟨E.trans E2,fun j t' hj BK=>?_⟩)⟩;by_cases e:j=i
  .subst e;rw[gt] at BK;cases BK;exact c2
  .exact hq j t' (by omega) BK
 .replace c:=bd c;refine⟨E,-1,rfl,.inl ⟨rfl,fun t ht=>?_⟩⟩;obtain⟨j,hj⟩:=Yf.1 ht;exact hq j t (by have:=(Ya.1 hj).1;omega) hj
def oC(g:Gl)(r hd:Sl)(k e:Int)(eo to:Sl):List Value:=[.string (bs g.nm),.slice r.a r.n r.c,.slice hd.a hd.n hd.c,.int .i64 k,.int .i64 0,.int .i64 e,.slice eo.a eo.n eo.c,.slice to.a to.n to.c]
abbrev Jf(gb ob rb:Nat)(g:Gl)(r hd so sn eo to:Sl)(k:Nat)(ord:List Nat)(num:List Int)(es:List Ed)(ts:List To)(B:List It):List It:=
 .sl so 3 1 ((aK ord).map a6) :: .sl sn 3 1 (num.map a6) :: .af ob (oC g r hd k 0 eo to) 27 :: .sl eo 67 6 (es.map Ed.cs) :: .sl to 149 3 (ts.map To.cs) :: .af rb z8 27 :: .af gb g.cs 27::B
theorem ND:cn Pz 24 67 6 48=true:=by kernel_rfl
theorem Nz:cn Pz 25 149 3 24=true:=by kernel_rfl
theorem yf{g:Gl}(hV:ae g){t:To}(ht:t∈g.ts):(gE g t.e.toNat).f=t.s:=by
 obtain⟨i,hi⟩:=Yf.1 ht;obtain⟨_,hk,he,z,hz,hf,_⟩:=hV.Hn i t hi;rw[qx hz];exact hf
theorem Jp(g:Gl)(k s:Nat)(O:List Nat){h n5 OT:Heap}{rb:Nat}{r hd so0 sO sn eo0 to0:Sl}{HM:List Nat}{K5:List Int}{Q0:List Nat}{es0:List Ed}{Vo:List To}{B:List It}{lim:Int}{m64:Nat}{I62:Sl->Heap->Nat->Prop}
  (hg:GI h g) (hV:ae g) (xr:HM[k]?=some s) (hO:O.Perm (ao g.es (s:Int))) (IA:(lim=-1/\∀t∈g.ts,t.s≠(s:Int))\/∃(j:Nat) (t:To),lim=(j:Int)/\g.ts[j]?=some t/\t.s=(s:Int))
  (hs:St h OT (.sl sO 3 1 ((aK O).map a6)::Jf h.size n5.size rb g r hd so0 sn eo0 to0 k HM K5 es0 Vo B)) (hC0:s6 g k [] HM K5 Q0 es0 Vo) (Iz:∀y∈Vo,y.s<(k:Int))
  (RV:∀(JR Th GV:Sl) (h':Heap) (ord:List Nat) (num:List Int) (Q:List Nat) (es:List Ed) (ts:List To),St h h' (Jf h.size n5.size rb g r hd JR sn Th GV (k+1) ord num es ts B)->s6 g (k+1) [] ord num Q es ts->(∀y∈ts,y.s<((k+1:Nat):Int))->∃m,m<m64/\I62 JR h' m) :
  N4 so0 OT sO h sn lim n5 m64 I62:=by
 have qk:=hg.e.ln;have Lr:=hg.t.ln;have Mi:=hV.num.n;have Zz:O.Nodup:=(hO.nodup_iff).2 (List.Nodup.sublist List.filter_sublist List.nodup_range);have aaD:O.length<=g.es.length:=by rw[hO.length_eq];exact cX _ _
 have Kn:=hg.e.sm;have hOm:∀e∈O,∃x,g.es[e]?=some x/\x.f=(s:Int):=fun e he=>az.1 (hO.subset he);have hu:∀ {t t':To},t∈g.ts->t'∈g.ts->t.s=t'.s->t=t':=fun h1 h2 h3=>s9 hV.Hn h1 h2 h3;have Zg:=hV.num.m;unfold N4;refine⟨fun so x h' μ=>∃(i:Nat) (eo to:Sl) (ord:List Nat) (num:List Int) (Q:List Nat) (es:List Ed) (ts:List To),x=(i:Int)/\μ=O.length-i/\i<=O.length/\St h h' (.sl sO 3 1 ((aK O).map a6)::Jf h.size n5.size rb g r hd so sn eo to k ord num es ts B)/\s6 g k (O.take i) ord num Q es ts/\ord[k]?=some s/\((∀y∈ts,y.s<(k:Int))\/∃t∈g.ts,t.s=(s:Int)/\t.e.toNat∈O.take i),
  ⟨_,0,eo0,to0,HM,K5,Q0,es0,Vo,rfl,rfl,Nat.zero_le _,hs,hC0,xr,.inl Iz⟩,?_⟩
 clear hs hC0 Iz xr;rintro-so _ h95 μ ⟨i,eo,to,ord,num,Q,es,ts,rfl,rfl,hi,hs,hC,hk,zd⟩;have hsO:=(hs.rl 0 rfl (by decide) (by unfold aK;rw[Yc];omega):RL h95 1 sO a6 (aK O)).ln;rw[show (aK O).length=O.length from Yc _] at hsO;have LC:=hC.n.ln;have we:=hC.n.len;have IB:es.length=Q.length:=by rw[hC.es,Yc]
 refine aa (fun c=>?_) (fun c=>?_)
 .replace c:=ba c;refine (hs.rl 0 rfl (by decide) (by unfold aK;rw[Yc];omega):RL h95 1 sO a6 (aK O)).rw.aF (by omega) (by omega) fun b96 o97 d gd t96=>?_;obtain⟨e,ge,rfl⟩:=bS (i:=i) gd;have heO:=Yb ge;obtain⟨x,gx,sQ⟩:=hOm e heO;have Zh:=(Ya.1 gx).1;have hxr:=hV.num.e x (Yb gx);unfold gN at hxr;refine⟨(e:Int),t96.hd,g.he,hs.rd 7 rfl (i:=6) rfl,?_⟩;refine (hg.e.rw.ext hs.ext).aF (by omega) (by omega) fun adf abH x' sV t100=>?_;replace sV:g.es[e]?=some x':=sV;rw[gx] at sV;cases sV;refine⟨x.f,x.a,x.b,x.l,x.t,x.ag,t100,?_⟩;refine hs.ai (vs:=x.cs) rfl rfl fun BJ hs=>?_;have OA:O.take (i+1)=O.take i++[e]:=aj ge;have Sn:e∉O.take i:=fun hc=>by
   obtain⟨j,hj⟩:=Yf.1 hc;have Eo:=(Ya.1 hj).1;rw[Yu] at Eo;rw[vM,if_pos (by omega)] at hj;have:=(List.getElem?_inj (by omega) Zz).1 (hj.trans ge.symm);omega
  refine⟨fun JR h'=>∃(jd:List Nat) (dE:List Int),St h h' (.af h95.size x.cs 67 :: .sl sO 3 1 ((aK O).map a6)::Jf h.size n5.size rb g r hd JR sn eo to k jd dE es ts B)/\CA g.n.toNat jd dE/\sD num dE/\(∀(i s:Nat),ord[i]?=some s->jd[i]?=some s)/\ord.length<=jd.length/\0<=nv dE x.t,?_,?_⟩
  .refine⟨x.t,hs.rd 0 rfl (i:=4) rfl,?_⟩;have jU:=(hs.rl 3 rfl (by decide) (by omega):RL BJ 1 sn a6 num).ln;refine (hs.rl 3 rfl (by decide) (by omega):RL BJ 1 sn a6 num).rw.aF (by omega) (by omega) fun acZ abD v gv t112=>?_;refine⟨v,t112.hd,aQ (fun c2=>?_) (fun c2=>?_)⟩
   .have hv1:v=-1:=by
     rcases hC.n.b _ v gv with h1 | ⟨j,h1,_⟩
     .exact h1
     .omega
    subst hv1;have Cn:=(hs.rl 2 rfl (by decide) (by unfold aK;rw[Yc];omega):RL BJ 1 so a6 (aK ord)).ln;rw[show (aK ord).length=ord.length from Yc _] at Cn;refine⟨x.t,hs.rd 0 rfl (i:=4) rfl,?_⟩;refine St.set (cs:=a6) (l:=num) hs 3 rfl (by decide) (by omega) (by omega) ((so.n:Nat):Int) rfl rfl (fun acY abC acJ hs=>?_) rfl;refine⟨x.t,hs.rd 0 rfl (i:=4) rfl,?_⟩;refine hs.app 2 rfl jv (m:=1) [a6 x.t] rfl rfl (fun r hr=>by rw[Ye] at hr;rw[hr];rfl) rfl (by omega) (by simp only[maxLen];omega) fun abo acI n121 hs=>?_;refine⟨ord++[x.t.toNat],num.set x.t.toNat (ord.length:Int),?_,hC.n.push gv,sD.push gv,fun j z hj=>by rw[jw (Ya.1 hj).1];exact hj,by rw[Yh];omega,?_⟩
    .unfold Jf;rw[iE,Ym,show ((x.t.toNat:Nat):Int)=x.t by omega,<-Cn];exact hs
    .unfold nv;rw[Yo,Yq (Ya.1 gv).1];show (0:Int)<=((ord.length:Nat):Int);omega
   .exact⟨ord,num,hs,hC.n,sD.refl _,fun _ _ h=>h,aY _,by rw[l8 gv];omega⟩
  clear hs;rintro-JR My ⟨jd,dE,hs,hN',hK,ho,hl,Lv⟩;have ZI:=hC.bH hN' hK ho hl fun t ht=>yf hV ht;have mX:=ho _ _ hk;have abT:=hN'.ln;have abR:=hN'.len;have YW:nv dE x.f=(k:Int):=l8 (by rw[sQ];exact hN'.a k s mX);have OQ:Q.length<=g.es.length:=cF g.es.length Q hC.qn fun z hz=>by
   rcases (hC.q z).1 hz with ⟨y,_,h1,_⟩ | h1
   .exact (Ya.1 h1).1
   .obtain⟨y,h1,_⟩:=hOm z (List.mem_of_mem_take h1);exact (Ya.1 h1).1
  have Lp:ts.length<=1000000:=by
   have h1:(ts.map fun y=>y.s.toNat).Nodup:=List.pairwise_map.2 ((hC.tc.and (List.pairwise_of_forall_mem_list fun a ha b hb=>(⟨hC.td a ha,hC.td b hb⟩:(0<=a.s/\a.s<=k)/\0<=b.s/\b.s<=k))).imp fun {a b} iO=>by omega);have h2:=cF (k+1) _ h1 fun z hz=>by
    obtain⟨y,hy,rfl⟩:=Yp.1 hz;have:=hC.td y hy;omega
   rw[Yc] at h2;have:=hC.kl;omega
  refine⟨fun h'=>∃(GV:Sl) (CM:List To),St h h' (.af h95.size x.cs 67 :: .sl sO 3 1 ((aK O).map a6)::Jf h.size n5.size rb g r hd JR sn eo GV k jd dE es CM B)/\(((∀t∈g.ts,t.e.toNat≠e)/\CM=ts)\/∃t∈g.ts,t.e.toNat=e/\t.s=x.f/\(∀t'∈g.ts,t'.e.toNat=e->t'=t)/\(∀y∈ts,y.s<(k:Int))/\CM=ts++[⟨k,t.k,(Q.length:Nat)⟩]),?_,?_⟩
  .have dq:∀t'∈g.ts,t'.e.toNat=e->t'.s=(s:Int):=fun t' oG he=>by
    have:=yf hV oG;rw[he,qx gx] at this;omega
   refine aQ (fun c2=>?_) (fun c2=>?_)
   .rcases IA with ⟨h1,_⟩ | ⟨j,t,rfl,gt,mW⟩
    .omega
    have Bq:=Yb gt;have OL:0<=t.e:=(qN hV Bq).2.2.1;refine⟨g.ht,hs.rd 8 rfl (i:=7) rfl,?_⟩;have jl:=(Ya.1 gt).1;refine (hg.t.rw.ext hs.ext).aF (by omega) (by omega) fun acW abA t' BK u=>?_;replace BK:g.ts[j]?=some t':=BK;rw[gt] at BK;cases BK;refine⟨t.e,u.nth 2 rfl,eh (fun c3=>?_) (fun c3=>?_)⟩
    .refine⟨to,hs.rd 4 rfl (i:=7) rfl,k,hs.rd 4 rfl (i:=3) rfl,g.ht,hs.rd 8 rfl (i:=7) rfl,?_⟩;refine (hg.t.rw.ext hs.ext).aF (by omega) (by omega) fun acU aby t' BK u=>?_;replace BK:g.ts[j]?=some t':=BK;rw[gt] at BK;cases BK;have heo:=(hs.rl 5 rfl (by decide) (by omega):RL My 6 eo Ed.cs es).ln;refine⟨t.k,u.nth 1 rfl,eo,hs.rd 4 rfl (i:=6) rfl,fun IQ Tj=>?_⟩;rw[heo,IB] at Tj;refine hs.TF 4 6 rfl rfl (cs:=To.cs) (x:=⟨k,t.k,(Q.length:Nat)⟩) Nz Tj rfl rfl Lp (by decide) 7 (show 7<8 by decide) (by decide) fun GV xE hs=>?_;have hs:St h xE (.af h95.size x.cs 67 :: .sl sO 3 1 ((aK O).map a6)::Jf h.size n5.size rb g r hd JR sn eo GV k jd dE es (ts++[(⟨k,t.k,(Q.length:Nat)⟩:To)]) B):=hs;refine⟨GV,_,hs,.inr ⟨t,Bq,by rw[c3];rfl,by rw[mW,sQ],fun t' oG he=>hu oG Bq (by rw[dq t' oG he,mW]),?_,rfl⟩⟩;rcases zd with h1 | ⟨t2,h1,h2,h3⟩
     .exact h1
     .have e2:=hu h1 Bq (by rw[h2,mW]);subst e2;rw[c3] at h3;exact absurd h3 Sn
    .refine⟨to,ts,hs,.inl ⟨fun t' oG he=>c3 ?_,rfl⟩⟩;have e2:=hu oG Bq (by rw[dq t' oG he,mW]);subst e2;omega
   .rcases IA with ⟨_,h1⟩ | ⟨j,t,rfl,_,_⟩
    .exact⟨to,ts,hs,.inl ⟨fun t' oG he=>h1 t' oG (dq t' oG he),rfl⟩⟩
    .omega
  clear hs;rintro-EK ⟨GV,CM,hs,mW⟩;have jU:=(hs.rl 3 rfl (by decide) (by omega):RL EK 1 sn a6 dE).ln;refine⟨eo,hs.rd 4 rfl (i:=6) rfl,k,hs.rd 4 rfl (i:=3) rfl,x.a,x.b,x.l,hs.at 0 rfl (o:=1) (n:=3) rfl,x.t,hs.rd 0 rfl (i:=4) rfl,?_⟩;refine (hs.rl 3 rfl (by decide) (by omega):RL EK 1 sn a6 dE).rw.aF (by omega) (by omega) fun acT abx v gv t148=>?_;have hvt:nv dE x.t=v:=l8 gv;refine⟨v,t148.hd,x.ag,hs.rd 0 rfl (i:=5) rfl,fun acD aai=>?_⟩;refine hs.TF 4 5 rfl rfl (cs:=Ed.cs) (x:=⟨k,x.a,x.b,x.l,v,x.ag⟩) ND aai rfl rfl (by omega) (by decide) 6 (show 6<8 by decide) (by decide) fun Th BH hs=>?_;have hm:mE g dE e=⟨k,x.a,x.b,x.l,v,x.ag⟩:=by unfold mE;rw[qx gx,YW,hvt]
  refine⟨_,(show O.length-(i+1)<O.length-i by omega),i+1,Th,GV,jd,dE,Q++[e],es++[mE g dE e],CM,by rw[aZ (by omega) (by omega)];omega,rfl,by omega,?_,?_,mX,?_⟩
  .rw[hm];exact hs.drop 1
  .rw[OA];exact ZI.aah gx YW (by rw[mX,sQ];rfl) (by omega) Lv Sn mW
  .rw[OA];rcases mW with ⟨_,rfl⟩ | ⟨t,h1,h2,h3,_⟩
   .rcases zd with h1 | ⟨t2,h1,h2,h3⟩
    .exact .inl h1
    .exact .inr ⟨t2,h1,h2,List.mem_append_left _ h3⟩
   .exact .inr ⟨t,h1,by rw[h3,sQ],by rw[h2];exact List.mem_append_right _ (Ye.2 rfl)⟩
 .replace c:=bd c;have hio:i=O.length:=by omega
  subst hio;refine⟨k,hs.rd 3 rfl (i:=3) rfl,?_⟩;refine hs.put 3 rfl (o:=3) (vs:=[.int .i64 (IntKind.wrap .i64 ((k:Int)+1))]) rfl (show 4<=8 by decide) fun ZY hs=>?_;have VM:=hC.kl;rw[show IntKind.wrap .i64 ((k:Int)+1)=((k+1:Nat):Int) by rw[aZ (by omega) (by omega)];omega] at hs;rw[xW] at hC;refine RV so eo to ZY ord num Q es ts (hs.drop 1) (hC.next hk (fun e=>?_) fun y hy=>by have:=hV.num.e y hy;unfold gN at this;omega) fun y hy=>by have:=hC.td y hy;omega
  exact (hO.mem_iff).trans az
def KK(g c:Gl):Prop:=∃(ord:List Nat) (num:List Int) (Q:List Nat),c.nm=g.nm/\c.rs=g.rs/\c.ds.length=g.ds.length/\(∀(i:Nat) d d',g.ds[i]?=some d->c.ds[i]?=some d'->GN d d') /\
 c.n=(ord.length:Nat)/\c.s=0/\num[g.e.toNat]?=some c.e/\s6 g ord.length [] ord num Q c.es c.ts
theorem s6.start{g:Gl}(hV:ae g):s6 g 0 [] [g.s.toNat] ((List.replicate g.n.toNat (-1)).set g.s.toNat 0) [] [] []:=by
 have hN:=hV.num.n;have hl:g.s.toNat<(List.replicate g.n.toNat (-1:Int)).length:=by rw[Yg];omega
 refine⟨⟨by rw[mF,Yg],fun i s hi=>?_,fun s v hv=>?_⟩,rfl,Nat.zero_le _,fun e=>?_,.nil,fun e he=>(by cases he),rfl,fun y hy=>(by cases hy),fun t ht h=>(by cases h),.nil,fun y hy=>(by cases hy)⟩
 .have:=(Ya.1 hi).1;have e1:([g.s.toNat]:List Nat).length=1:=rfl;have:i=0:=by omega
  subst this;cases hi;rw[Yq hl];rfl
 .by_cases e:g.s.toNat=s
  .subst e;rw[Yq hl] at hv;cases hv;exact .inr ⟨0,rfl,rfl⟩
  .rw[Yy e] at hv;exact .inl (List.eq_of_mem_replicate (Yb hv))
 .constructor
  .intro h;cases h
  .rintro (⟨_,_,_,h,_⟩ | h)
   .omega
   .cases h
theorem Fz(g:Gl){h h9 n5 OV Mn:Heap}{r hd sn:Sl}{B:List It}(hg:GI h g)(hV:ae g){R:Value->Heap->Prop}
  (hs:St h Mn (Jf h.size n5.size h9.size g r hd ⟨some ⟨OV.size,0,none⟩,1,1⟩ sn ⟨none,0,0⟩ ⟨none,0,0⟩ 0 [g.s.toNat] ((List.replicate g.n.toNat (-1)).set g.s.toNat 0) [] [] B))
  (hR:∀(h':Heap) (eo to:Sl) (ord:List Nat) (num:List Int) (Q:List Nat) (es:List Ed) (ts:List To) (e:Int),num[g.e.toNat]?=some e->St h h' (.sl eo 67 6 (es.map Ed.cs) :: .sl to 149 3 (ts.map To.cs)::B)->s6 g ord.length [] ord num Q es ts->R (.tuple ⟨[.agg ⟨oC g r hd (ord.length:Nat) e eo to⟩,.int .i64 0]⟩) h') :
  N3 OV Mn n5 h sn h9 R:=by
 have Mi:=hV.num.n;unfold N3;refine⟨fun so h' μ=>∃(k:Nat) (eo to:Sl) (ord:List Nat) (num:List Int) (Q:List Nat) (es:List Ed) (ts:List To),μ=g.n.toNat-k/\St h h' (Jf h.size n5.size h9.size g r hd so sn eo to k ord num es ts B)/\s6 g k [] ord num Q es ts/\∀y∈ts,y.s<(k:Int),⟨_,0,_,_,_,_,[],[],[],rfl,hs,s6.start hV,fun y hy=>(by cases hy)⟩,?_⟩;clear hs;rintro-so xy μ ⟨k,eo,to,ord,num,Q,es,ts,rfl,hs,hC,Iz⟩;have we:=hC.n.len;have LC:=hC.n.ln;have Cn:=(hs.rl 0 rfl (by decide) (by unfold aK;rw[Yc];omega):RL xy 1 so a6 (aK ord)).ln;rw[show (aK ord).length=ord.length from Yc _] at Cn;refine⟨k,hs.rd 2 rfl (i:=3) rfl,aa (fun c=>?_) (fun c=>?_)⟩
 .replace c:=ba c;refine⟨k,hs.rd 2 rfl (i:=3) rfl,?_⟩;refine (hs.rl 0 rfl (by decide) (by unfold aK;rw[Yc];omega):RL xy 1 so a6 (aK ord)).rw.aF (by omega) (by omega) fun b69 o70 d gd t=>?_;obtain⟨s,gs,rfl⟩:=bS (i:=k) gd;refine⟨(s:Int),t.hd,?_⟩;refine hs.ai (vs:=[.int .i64 (s:Int)]) rfl rfl fun h73 hs=>?_;refine⟨g.ht,hs.rd 7 rfl (i:=7) rfl,?_⟩;refine (Io g xy.size s h73 (hg.ext hs.ext) (hs.rd 0 rfl (i:=0) rfl)).mono ?_;rintro _ h77 ⟨E,lim,rfl,IA⟩;have hs:=hs.step E;refine⟨lim,rfl,_,_,_,_,_,_,_,_,hs.at 7 rfl (o:=0) (n:=8) rfl,(s:Int),hs.rd 0 rfl (i:=0) rfl,?_⟩;refine (I9 g s h77 (hg.ext hs.ext)).mono ?_;rintro _ OT ⟨sO,O,rfl,hO,hP,_⟩;have hs:=((hs.drop 1).join hO).perm List.perm_append_comm;refine⟨sO,rfl,?_⟩;have Y6:k<g.n.toNat:=by omega
  exact Jp g k s O hg hV gs hP IA hs hC Iz fun JR Th GV h' jd dE Q' qC CM dW ZI k6=>⟨_,(show g.n.toNat-(k+1)<g.n.toNat-k by omega),k+1,Th,GV,jd,dE,Q',qC,CM,rfl,dW,ZI,k6⟩
 .replace c:=bd c;have rH:=hC.kl;have hk:k=ord.length:=by omega
  subst hk;have jU:=(hs.rl 1 rfl (by decide) (by omega):RL xy 1 sn a6 num).ln;refine⟨g.e,hs.rd 6 rfl (i:=5) rfl,?_⟩;refine (hs.rl 1 rfl (by decide) (by omega):RL xy 1 sn a6 num).rw.aF (by omega) (by omega) fun aas XU v gv t=>?_;refine⟨v,t.hd,?_⟩;refine hs.put 2 rfl (o:=5) (vs:=[.int .i64 v]) rfl (show 6<=8 by decide) fun ZW hs=>?_;refine⟨bs g.nm,r,hd,(ord.length:Nat),0,v,eo,to,hs.at 2 rfl (o:=0) (n:=8) rfl,?_⟩;refine hs.put 5 rfl (o:=0) (vs:=oC g r hd (ord.length:Nat) v eo to) rfl (show 8<=8 by decide) fun xC hs=>?_;refine⟨bs g.nm,r,hd,(ord.length:Nat),0,v,eo,to,hs.at 5 rfl (o:=0) (n:=8) rfl,?_⟩;refine hR xC eo to ord num Q es ts v gv ?_ hC;exact hs.sub (.cons _ (.cons _ (.cons _ (.cons_cons _ (.cons_cons _ (.cons _ (.cons _ (List.Sublist.refl _))))))))
theorem vu(g:Gl)(h:Heap)(hg:GI h g)(hx:Gm h)(hV:ae g):Fn Pz 35 #[g.v] h fun v h'=>∃c:Gl,v=.tuple ⟨[c.v,.int .i64 0]⟩/\Ext h h'/\GI h' c/\KK g c:=by
 apply Xk (bs g.nm) g.hr g.hd g.n g.s g.e g.he g.ht;unfold W35;have Mi:=hV.num.n;have Zg:=hV.num.m;refine (St.refl h).aq fun h9 hs=>?_;refine hs.aq fun cA hs=>?_;refine⟨_,_,_,_,_,_,_,_,hs.at 1 rfl (o:=0) (n:=8) rfl,?_⟩;refine (mT g cA (hg.ext hs.ext) (hx.ext hs.ext)).mono ?_;rintro _ mn ⟨rfl,E⟩;have hs:=hs.step E;refine⟨_,rfl,aa (fun c=>absurd hV (eB (bF c))) (fun _=>?_)⟩;refine⟨_,_,_,_,_,_,_,_,hs.at 1 rfl (o:=0) (n:=8) rfl,?_⟩;refine (Fp g mn (hg.ext hs.ext)).mono ?_;rintro _ n5 ⟨r,hd,D,A,rfl,hc,ZH,hDS,hDA⟩;have hs:=hs.join hc;refine⟨bs g.nm,r,hd,0,0,0,⟨none,0,0⟩,⟨none,0,0⟩,rfl,?_⟩;refine hs.ai (vs:=o8 g r hd) rfl rfl fun n4 hs=>?_;refine hs.aq fun BG hs=>?_;refine⟨g.n,hs.rd 3 rfl (i:=3) rfl,?_⟩;refine (tB g.n (by omega) (by omega) n4.size BG (hs.rd 0 rfl (i:=0) rfl)).mono ?_;rintro _ OX ⟨E,sn,rfl,ho⟩;have hs:=hs.EP E ho (cy _);have jU:=(hs.rl 0 rfl (by decide) (by rw[Yg];omega):RL OX 1 sn a6 (List.replicate g.n.toNat (-1))).ln;rw[Yg] at jU;refine⟨sn,rfl,g.s,hs.rd 4 rfl (i:=4) rfl,?_⟩;refine St.set (cs:=a6) (l:=List.replicate g.n.toNat (-1)) hs 0 rfl (by decide) (by omega) (by omega) 0 rfl rfl (fun _ _ OV hs=>?_) rfl;refine⟨g.s,hs.rd 4 rfl (i:=4) rfl,?_⟩;refine hs.aq fun Mn hs=>?_;have hs:=hs.fx 1 1 ([g.s].map a6) rfl (cy _) rfl (by decide);have hs:=((hs.aag 2).cN 149 3).cN 67 6;have hs:=hs.perm (List.perm_append_comm_assoc [_,_] [_,_,_] _);have e0:[g.s].map a6=(aK [g.s.toNat]).map a6:=by
  show [a6 g.s]=[a6 ((g.s.toNat:Nat):Int)];rw[show ((g.s.toNat:Nat):Int)=g.s by omega]
 rw[e0] at hs;refine Fz g (B:=.sl hd 171 5 (D.map Dc.cs) :: .sl r 9 1 (g.rs.map oE)::A) hg hV hs fun h' eo to ord num Q es ts e ge hs hC=>?_;have OQ:Q.length<=g.es.length:=cF g.es.length Q hC.qn fun z hz=>by
  rcases (hC.q z).1 hz with ⟨y,_,h1,_⟩ | h1
  .exact (Ya.1 h1).1
  .cases h1
 have IB:es.length=Q.length:=by rw[hC.es,Yc]
 have Lp:ts.length<=1048576:=by
  have h1:(ts.map fun y=>y.s.toNat).Nodup:=List.pairwise_map.2 ((hC.tc.and (List.pairwise_of_forall_mem_list fun a ha b hb=>(⟨hC.td a ha,hC.td b hb⟩:(0<=a.s/\a.s<=(ord.length:Nat))/\0<=b.s/\b.s<=(ord.length:Nat)))).imp fun {a b} iO=>by omega);have h2:=cF (ord.length+1) _ h1 fun z hz=>by
   obtain⟨y,hy,rfl⟩:=Yp.1 hz;have:=hC.td y hy;omega
  rw[Yc] at h2;have:=hC.n.len;omega
 refine⟨⟨g.nm,r,hd,(ord.length:Nat),0,e,eo,to,g.rs,D,es,ts⟩,rfl,hs.ext,⟨hs.rl 3 rfl (by decide) hg.r.sm,⟨hs.rl 2 rfl (by decide) (by show D.length<=1048576;have:=hg.d.r.sm;omega),fun d LU=>?_⟩,hs.rl 0 rfl (by decide) (by show es.length<=1048576;omega),hs.rl 1 rfl (by decide) Lp⟩,ord,num,Q,rfl,rfl,ZH,hDS,rfl,rfl,ge,hC⟩;obtain⟨i,hi⟩:=Yf.1 LU;have wh:=(Ya.1 hi).1;obtain⟨d0,uN⟩:=get_some (l:=g.ds) (i:=i) (by rw[<-ZH];exact wh);obtain⟨_,_,q1,q2,q3⟩:=hDS i d0 d uN hi;have hI:=hg.d.i d0 (Yb uN);have dQ:∀x∈r7 d,x∈(.sl eo 67 6 (es.map Ed.cs) :: .sl to 149 3 (ts.map To.cs) :: .sl hd 171 5 (D.map Dc.cs) :: .sl r 9 1 (g.rs.map oE)::A:List It):=fun x hx=>Yn _ (Yn _ (Yn _ (Yn _ (hDA d LU x hx))));refine⟨hs.XF (dQ _ Yx) (by decide) (by rw[q1];exact hI.pf.sm),hs.XF (dQ _ (Yn _ Yx)) (by decide) (by rw[q2];exact hI.pd.sm),hs.XF (dQ _ (Yn _ (Yn _ Yx))) (by decide) (by rw[q3];exact hI.pe.sm)⟩
end Go.VC
end

section
namespace Go.VC
open Go.LexS
def bR(σ:Nat->Nat)(v:Int):Int:=((σ v.toNat:Nat):Int)
def fo(σ:Nat->Nat)(y:Ed):Ed:=⟨bR σ y.f,y.a,y.b,y.l,bR σ y.t,y.ag⟩
structure Ren (g c:Gl) (σ:Nat->Nat):Prop where
 n:c.n=g.n
 r:∀i,i<g.n.toNat->σ i<g.n.toNat
 inj:∀i j,i<g.n.toNat->j<g.n.toNat->σ i=σ j->i=j
 s:c.s=bR σ g.s
 e:c.e=bR σ g.e
 ed:∀x,x∈c.es ↔ ∃y∈g.es,x=fo σ y
 ti:∀t∈c.ts,∃u∈g.ts,t.s=bR σ u.s/\t.k=u.k/\∃z,g.es[u.e.toNat]?=some z/\c.es[t.e.toNat]?=some (fo σ z)
 tj:∀u∈g.ts,∃t∈c.ts,t.s=bR σ u.s/\t.k=u.k/\∃z,g.es[u.e.toNat]?=some z/\c.es[t.e.toNat]?=some (fo σ z)
 rs:c.rs=g.rs
def N6(N:Nat)(p:dv):Prop:=∀j,p j=true->j<N
open Classical in
noncomputable def oV(N:Nat)(σ:Nat->Nat)(p:dv):dv:=fun j=>decide (∃i,i<N/\σ i=j/\p i=true)
theorem gT{N:Nat}{σ:Nat->Nat}{p:dv}{j:Nat}:oV N σ p j=true ↔ ∃i,i<N/\σ i=j/\p i=true:=by unfold oV;simp
theorem HG{g c:Gl}{σ:Nat->Nat}(hR:Ren g c σ){p:dv}{i:Nat}(hi:i<g.n.toNat):oV g.n.toNat σ p (σ i)=p i:=by
 cases hp:p i with
 | true=>exact gT.2 ⟨i,hi,rfl,hp⟩
 | false=>
  cases hq:oV g.n.toNat σ p (σ i) with
  | false=>rfl
  | true=>
   obtain⟨k,hk,e,hpk⟩:=gT.1 hq;rw[hR.inj k i hk hi e,hp] at hpk;cases hpk
theorem dA{g c:Gl}{σ:Nat->Nat}(hR:Ren g c σ){v w:Int}(hv:0<=v/\v<g.n)(hw:0<=w/\w<g.n)(h:bR σ v=bR σ w):v=w:=by
 unfold bR at h;have:=hR.inj v.toNat w.toNat (by omega) (by omega) (by omega);omega
theorem qV{g c:Gl}{σ:Nat->Nat}(hR:Ren g c σ){v:Int}(hv:0<=v/\v<g.n):0<=bR σ v/\bR σ v<g.n:=by
 have:=hR.r v.toNat (by omega);unfold bR;omega
theorem tq{g c:Gl}{σ:Nat->Nat}(hR:Ren g c σ)(hN:g.n<=200){p:dv}{v:Int}(hp:N6 g.n.toNat p):v∈AK (oV g.n.toNat σ p) ↔ ∃w∈AK p,v=bR σ w:=by
 rw[fC];constructor
 .rintro⟨h0,_,h2⟩;obtain⟨i,hi,e,hpi⟩:=gT.1 h2;refine⟨(i:Int),fC.2 ⟨by omega,by omega,hpi⟩,?_⟩;unfold bR;rw[show ((i:Int)).toNat=i from rfl,e];omega
 .rintro⟨w,hw,rfl⟩;obtain⟨h0,_,h2⟩:=fC.1 hw;have hl:=hp _ h2;have hs:=hR.r _ hl;unfold bR;exact⟨by omega,by omega,gT.2 ⟨w.toNat,hl,rfl,h2⟩⟩
theorem CF(σ:Nat->Nat)(role:Int)(x:Ed):bm role (fo σ x)=bm role x:=rfl
theorem j5{g:Gl}(hV:ae g){x:Ed}(hx:x∈g.es):(0<=x.f/\x.f<g.n)/\0<=x.t/\x.t<g.n:=by
 have:=hV.num.e x hx;unfold gN at this;omega
theorem KU{g c:Gl}{σ:Nat->Nat}(hR:Ren g c σ)(hV:ae g){role:Int}{l l':List Int}(hl:∀x∈l,0<=x/\x<g.n)(h:∀v,v∈l' ↔ ∃w∈l,v=bR σ w){a:Int}:Qr c.es role l' a ↔ ∃w,(0<=w/\w<g.n)/\a=bR σ w/\Qr g.es role l w:=by
 constructor
 .intro hq
  induction hq with
  | base hm=>
   obtain⟨w,hw,e⟩:=(h _).1 hm;exact⟨w,hl w hw,e,.base hw⟩
  | step _ hx ih=>
   obtain⟨w,hw,rfl,hq⟩:=ih;obtain⟨x,hx,hv,hf,rfl⟩:=hx;obtain⟨y,hy,rfl⟩:=(hR.ed x).1 hx;obtain⟨r1,r2⟩:=j5 hV hy;have:=dA hR r1 hw hf;exact⟨y.t,r2,rfl,.step hq ⟨y,hy,hv,this,rfl⟩⟩
 .rintro⟨w,hw,rfl,hq⟩;clear hw
  induction hq with
  | base hm=>exact .base ((h _).2 ⟨_,hm,rfl⟩)
  | step _ hx ih=>
   obtain⟨y,hy,hv,rfl,rfl⟩:=hx;exact .step ih ⟨fo σ y,(hR.ed _).2 ⟨y,hy,rfl⟩,hv,rfl,rfl⟩
theorem Jk{g c:Gl}{σ:Nat->Nat}(hR:Ren g c σ)(hV:ae g){role:Int}{l l':List Int}(hl:∀x∈l,0<=x/\x<g.n)(h:∀v,v∈l' ↔ ∃w∈l,v=bR σ w):oM c.es role l'=oV g.n.toNat σ (oM g.es role l):=by
 funext j
 have hi:oM c.es role l' j=true ↔ oV g.n.toNat σ (oM g.es role l) j=true:=by
  rw[fh,gT,KU hR hV hl h];constructor
  .rintro⟨w,hw,e,hq⟩;unfold bR at e;exact⟨w.toNat,by omega,by omega,fh.2 (by rw[show ((w.toNat:Nat):Int)=w by omega];exact hq)⟩
  .rintro⟨i,hi,e,hq⟩;refine⟨(i:Int),by omega,?_,fh.1 hq⟩;unfold bR;rw[show ((i:Int)).toNat=i from rfl,e]
 cases h1:oM c.es role l' j<;>cases h2:oV g.n.toNat σ (oM g.es role l) j<;>simp_all
theorem Jj{g:Gl}(hV:ae g){role:Int}{l:List Int}(hl:∀x∈l,0<=x/\x<g.n):N6 g.n.toNat (oM g.es role l):=fun j hj=>by
 have:=Fv hV hl j hj;omega
theorem IY{g c:Gl}{σ:Nat->Nat}(hR:Ren g c σ)(hV:ae g)(hW:ae c){role:Int}{p:dv}(hp:N6 g.n.toNat p):zz c.es role (oV g.n.toNat σ p)=zz g.es role p:=by
 have hN:=hV.num.n;refine yi iq (fun a b c=>eO) (cT _) (cT _) fun x=>?_;show x∈zz c.es role _ ↔ x∈zz g.es role p;rw[E7 hW,E7 hV];constructor
 .rintro⟨z,hz,hv,hf⟩;obtain⟨y,hy,rfl⟩:=(hR.ed z).1 hz;obtain⟨w,hw,e⟩:=(tq hR (by omega) hp).1 hf;obtain⟨h0,_,h2⟩:=fC.1 hw;have:=hp _ h2;have:=dA hR (j5 hV hy).1 (by omega) e;exact⟨y,hy,hv,by rw[this];exact hw⟩
 .rintro⟨y,hy,hv,hf⟩;exact⟨fo σ y,(hR.ed _).2 ⟨y,hy,rfl⟩,hv,(tq hR (by omega) hp).2 ⟨_,hf,rfl⟩⟩
theorem HP{g c:Gl}{σ:Nat->Nat}(st v:Int):v∈[bR σ st] ↔ ∃w∈[st],v=bR σ w:=by
 rw[Ye];exact⟨fun h=>⟨st,Ye.2 rfl,h⟩,fun ⟨w,hw,h⟩=>by rw[h,Ye.1 hw]⟩
end Go.VC
end

section
namespace Go.VC
open Go.LexS
theorem CP{g:Gl}(hV:ae g){u:To}(hu:u∈g.ts):0<=u.s/\u.s<g.n:=by
 obtain⟨h0,_,_,z,hz,hf⟩:=qN hV hu;have:=(j5 hV (Yb hz)).1;omega
end Go.VC
end

section
namespace Go.VC
open Go.Proofs Go.LexS
/-! ### lists of events in order -/
theorem lg.at{g:Gl}{role:Int}{X:An}(h:lg g role X){s:Nat}(hs:(s:Int)<g.n):∃f,X.fi[s]?=some f/\f.l=aH g role (s:Nat)/\f.b=bP g role (s:Nat):=by
 have hl:X.fi.length=g.n.toNat:=by have:=congrArg List.length h.fi;simpa using this
 obtain⟨f,hf⟩:=get_some (l:=X.fi) (i:=s) (by omega);have h1:=aN h.fi (s:=s) (by omega);rw[Yd,hf] at h1;have h2:=eU h1;exact⟨f,hf,congrArg Prod.fst h2,congrArg Prod.snd h2⟩
/-! ### without memory -/
def rm(g:Gl)(role:Int)(s:Nat):Prop:=s<g.n.toNat/\(eE (aH g role (s:Nat)) 0&&(bP g role (s:Nat) || !eE (aH g role (s:Nat)) ((aH g role (s:Nat)).length-1)))=true
noncomputable def Jm(g:Gl)(role:Int)(s t:Nat):Prop:=JA ((List.range g.n.toNat).map (cx g role g.ts)) ((List.range g.n.toNat).map (du g.es)) ((List.range g.n.toNat).map (cW g.es role)) s t
noncomputable def cM(g:Gl)(role kind:Int)(p:Pr):Option Int:=by
 classical exact if kind=1 then (if p.1<g.n.toNat/\p.2<g.n.toNat then (if ((aH g role (p.1:Nat)).find? (fw (aH g role (p.2:Nat)))).isSome then some 0 else none) else none)
 else if kind=3 then (if Jm g role p.1 p.2 then some 0 else none)
 else (if p.1<g.n.toNat/\p.2<g.n.toNat then (bX (aH g role (p.2:Nat)) (dt g role p.1)).map (·.n) else none)
theorem lg.fl{g:Gl}{role:Int}{X:An}(h:lg g role X):X.fi.length=g.n.toNat:=by have:=congrArg List.length h.fi;simpa using this
theorem lg.al{g:Gl}{role:Int}{X:An}(h:lg g role X):X.ar.length=g.n.toNat:=by have:=congrArg List.length h.ar;simpa using this
theorem lg.KH{g:Gl}{role:Int}{X:An}(h:lg g role X){s:Nat}(hs:s<g.n.toNat):∃f,X.fi[s]?=some f/\f.l=aH g role (s:Nat)/\f.b=bP g role (s:Nat):=h.at (by omega)
theorem lg.ara{g:Gl}{role:Int}{X:An}(h:lg g role X){s:Nat}(hs:s<g.n.toNat):∃q,X.ar[s]?=some q/\q.2=dt g role s:=by
 obtain⟨q,hq⟩:=get_some (l:=X.ar) (i:=s) (by rw[h.al];exact hs);have h1:=aN h.ar hs;rw[Yd,hq] at h1;exact⟨q,hq,eU h1⟩
theorem lg.bj{g:Gl}{role:Int}{X:An}(h:lg g role X)(kind:Int)(p:Pr):dY X kind p=cM g role kind p:=by
 unfold dY cM;by_cases k1:kind=1
 .rw[if_pos k1,if_pos k1];by_cases hr:p.1<g.n.toNat/\p.2<g.n.toNat
  .obtain⟨f,hf,fl,_⟩:=h.KH hr.1;obtain⟨f',Ew,S4,_⟩:=h.KH hr.2;rw[if_pos hr,hf,Ew];simp only[fl,S4]
  .rw[if_neg hr];by_cases h1:p.1<g.n.toNat
   .rw[Yl (l:=X.fi) (i:=p.2) (by rw[h.fl];omega)];cases X.fi[p.1]?<;>rfl
   .rw[Yl (l:=X.fi) (i:=p.1) (by rw[h.fl];omega)]
 .rw[if_neg k1,if_neg k1];by_cases k3:kind=3
  .rw[if_pos k3,if_pos k3];have:JA X.li X.ag X.ow p.1 p.2 ↔ Jm g role p.1 p.2:=by unfold Jm;rw[h.li,h.ag,h.ow]
   by_cases hc:JA X.li X.ag X.ow p.1 p.2
   .rw[if_pos hc,if_pos (this.1 hc)]
   .rw[if_neg hc,if_neg (fun h9=>hc (this.2 h9))]
  .rw[if_neg k3,if_neg k3];by_cases hr:p.1<g.n.toNat/\p.2<g.n.toNat
   .obtain⟨f',Ew,S4,_⟩:=h.KH hr.2;obtain⟨q,hq,jX⟩:=h.ara hr.1;rw[if_pos hr,Ew,hq];simp only[S4,jX]
   .rw[if_neg hr];by_cases h1:p.2<g.n.toNat
    .rw[Yl (l:=X.ar) (i:=p.1) (by rw[h.al];omega)];cases X.fi[p.2]?<;>rfl
    .rw[Yl (l:=X.fi) (i:=p.2) (by rw[h.fl];omega)]
theorem lg.mx{g:Gl}{role:Int}{X:An}(h:lg g role X)(s:Nat):oP X s ↔ rm g role s:=by
 unfold rm;constructor
 .rintro⟨f,hf,hm⟩;have hs:s<g.n.toNat:=by rw[<-h.fl];exact (Ya.1 hf).1
  obtain⟨f',Ew,fl,fb⟩:=h.KH hs;rw[hf] at Ew;cases Ew;unfold H4 at hm;rw[fl,fb] at hm;exact⟨hs,hm⟩
 .rintro⟨hs,hm⟩;obtain⟨f,hf,fl,fb⟩:=h.KH hs;refine⟨f,hf,?_⟩;unfold H4;rw[fl,fb];exact hm
noncomputable def G8(g:Gl)(role kind:Int)(F:List Ac)(p:Pr):List Ac × Au × Au:=
 if kind=1 then (F,aR role (((aH g role (p.1:Nat)).find? (fw (aH g role (p.2:Nat)))).getD ⟨false,0,0⟩),cL)
 else if kind=4 then (F++[(eA g.es ((bX (aH g role (p.2:Nat)) (dt g role p.1)).getD cB).e.toNat).act]++eW g ((bX (aH g role (p.2:Nat)) (dt g role p.1)).getD cB).e.toNat ((bX (aH g role (p.2:Nat)) (dt g role p.1)).getD cB).m,aR role ((bX (aH g role (p.2:Nat)) (dt g role p.1)).getD cB).m.ev,aR role ⟨false,(eA g.es ((bX (aH g role (p.2:Nat)) (dt g role p.1)).getD cB).e.toNat).a,(eA g.es ((bX (aH g role (p.2:Nat)) (dt g role p.1)).getD cB).e.toNat).l⟩)
 else (F,cL,cL)
theorem lg.ex{g:Gl}{role:Int}{X:An}(h:lg g role X)(kind:Int)(F:List Ac){p:Pr}(h1:p.1<g.n.toNat)(h2:p.2<g.n.toNat):sW g role kind X F p=G8 g role kind F p:=by
 obtain⟨f,hf,fl,_⟩:=h.KH h1;obtain⟨f',Ew,S4,_⟩:=h.KH h2;obtain⟨q,hq,jX⟩:=h.ara h1;unfold sW G8;rw[hf,Ew,hq];simp only[fl,S4,jX]
noncomputable def eP(g:Gl)(role kind:Int)(p:Pr):Option Nat:=(cM g role kind p).map Int.toNat
theorem lg.dZ{g:Gl}{role:Int}{X:An}(h:lg g role X)(kind:Int):Go.VC.dZ X kind=eP g role kind:=by
 funext p
 unfold Go.VC.dZ eP;rw[h.bj]
theorem mS.prr{g:Gl}{role:Int}{bj:Pr->Option Int}{D:Pr->Int}{ms:List aV}{p:Pr}(h:mS (cO g role) bj D (gh g) ms p):mR g role p:=by
 induction h with
 | nil=>exact .start
 | snoc _ _ _ hm ih=>exact .step ih (Yb hm)
theorem dR{α:Type}{p q:α->Bool}:∀ {l:List α},(∀x∈l,p x=q x)->l.findIdx? p=l.findIdx? q
 | [],_=>rfl
 | a::l,h=>by
  rw[List.findIdx?_cons,List.findIdx?_cons,h a Yx,dR (l:=l) fun x hx=>h x (Yn _ hx)]
theorem mS.gC{g:Gl}{role:Int}{bj:Pr->Option Int}{D D':Pr->Int}(hD:∀q,mR g role q->D q=D' q){ms:List aV}{p:Pr}(h:mS (cO g role) bj D (gh g) ms p):mS (cO g role) bj D' (gh g) ms p:=by
 induction h with
 | nil=>exact .nil
 | @snoc ms p m k hg bz je hm ih=>
  have hp:=hg.prr;refine .snoc ih (by rw[<-hD p hp];exact bz) ?_ hm;rw[<-je];refine (dR fun x hx=>?_).symm;unfold Bd;rw[hD p hp,hD _ (.step hp hx)]
theorem mS.Tk{mv:Pr->List aV}{bj:Pr->Option Int}{D:Pr->Int}{p0:Pr}{ua:List aV}{p':Pr}(h':mS mv bj D p0 ua p'):∀ {ms:List aV} {p:Pr},mS mv bj D p0 ms p->ms.length<=ua.length->(ms=ua/\p=p')\/(ms.length<ua.length/\bj p≠some (D p)):=by
 induction h' with
 | nil=>
  intro ms p h hl;cases h with
  | nil=>exact .inl ⟨rfl,rfl⟩
  | snoc=>rw[Yh,Yv] at hl;simp at hl
 | @snoc ms1 p1 m k _ bz je hm ih=>
  intro ms p h hl;rw[Yh,Yv] at hl;by_cases e:ms.length<=ms1.length
  .rcases ih h e with ⟨rfl,rfl⟩ | ⟨h1,h2⟩
   .exact .inr ⟨by rw[Yh,Yv];omega,bz⟩
   .exact .inr ⟨by rw[Yh,Yv];omega,h2⟩
  .cases h with
   | nil=>simp at e
   | @snoc ms2 p2 m2 k2 hg2 LD hix2 mi=>
    rw[Yh,Yv] at hl e;rcases ih hg2 (by omega) with ⟨rfl,rfl⟩ | ⟨h1,_⟩
    .rw[je] at hix2;cases hix2;rw[hm] at mi;cases mi;exact .inl ⟨rfl,rfl⟩
    .omega
theorem mS.uniq{mv:Pr->List aV}{bj:Pr->Option Int}{D:Pr->Int}{p0:Pr}{ms ua:List aV}{p p':Pr}(h:mS mv bj D p0 ms p)(hc:bj p=some (D p))(h':mS mv bj D p0 ua p')(wi:bj p'=some (D p')):ms=ua/\p=p':=by
 rcases Nat.le_total ms.length ua.length with hl | hl
 .rcases h'.Tk h hl with h9 | ⟨_,h9⟩
  .exact h9
  .exact absurd hc h9
 .rcases h.Tk h' hl with ⟨h9,h8⟩ | ⟨_,h9⟩
  .exact⟨h9.symm,h8.symm⟩
  .exact absurd wi h9
theorem mS.len{mv:Pr->List aV}{bj:Pr->Option Int}{D:Pr->Int}{p0:Pr}{ms:List aV}{p:Pr}(h:mS mv bj D p0 ms p):D p0=D p+((ms.map bu).sum:Nat):=by
 induction h with
 | nil=>simp
 | @snoc ms p m k _ _ je hm ih=>
  obtain⟨h1,h2,_⟩:=List.findIdx?_eq_some_iff_getElem.1 je;rw[(Ya.1 hm).2] at h2;unfold Bd at h2;have h3:=bM h2;rw[Ym,List.sum_append];simp only[kf,List.map_nil,List.sum_cons,List.sum_nil];omega
inductive lj (g:Gl) (role kind:Int):WS->Int->Prop
 | gJ (hn:∀n,¬lh (cO g role) (eP g role kind) (gh g) n):lj g role kind oS a7
 | hit {n:Nat} {ms:List aV} {p:Pr} (hl:lh (cO g role) (eP g role kind) (gh g) n) (hn:n<=8388608) (hG:mS (cO g role) (cM g role kind) (dL (cO g role) (eP g role kind)) (gh g) ms p) (hc:cM g role kind p=some (dL (cO g role) (eP g role kind) p)) :
   lj g role kind ⟨kind,role,(G8 g role kind (facts g ms) p).1,eZ g ms,(G8 g role kind (facts g ms) p).2.1,(G8 g role kind (facts g ms) p).2.2⟩ (n:Int)
theorem vX.q{g:Gl}(hV:ae g){role kind:Int}{X:An}(hX:lg g role X){W:WS}{n:Int}(h:vX g role kind X W n):lj g role kind W n:=by
 have e1:=hX.dZ kind;have e2:dY X kind=cM g role kind:=funext fun p=>hX.bj kind p;cases h with
 | gJ hn=>rw[e1] at hn;exact .gJ hn
 | @hit n D ms p hl hn hD hG hc=>
  rw[e1] at hl hD;rw[e2] at hG hc;have hp:=hG.prr;have cG:=hp.lt hV;rw[hX.ex kind _ (by omega) (by omega)];exact .hit hl hn (hG.gC hD) (by rw[hc,hD p hp])
theorem lj.uniq{g:Gl}{role kind:Int}{W W':WS}{n n':Int}(h:lj g role kind W n)(h':lj g role kind W' n'):W=W'/\n=n':=by
 cases h with
 | gJ hn=>
  cases h' with
  | gJ=>exact⟨rfl,rfl⟩
  | hit hl=>exact absurd hl (hn _)
 | hit hl hn hG hc=>
  cases h' with
  | gJ hn=>exact absurd hl (hn _)
  | hit k6 El hG' wi=>
   obtain⟨rfl,rfl⟩:=hG.uniq hc hG' wi;exact⟨rfl,by rw[hl.uniq k6]⟩
/-! ### mixed -/
noncomputable def dS(es:List Ed)(MX:Nat->Prop)(s:Nat):Int:=by
 classical exact if h:∃n,fy es MX s n then (Classical.choose h:Nat) else cP
theorem KB{es:List Ed}{MX:Nat->Prop}{s n:Nat}(h:fy es MX s n):dS es MX s=n:=by
 unfold dS;rw[dif_pos ⟨n,h⟩];have:=fy.uniq (Classical.choose_spec (⟨n,h⟩:∃n,fy es MX s n)) h;omega
theorem Tm{es:List Ed}{MX:Nat->Prop}{s:Nat}(h:∀n,¬fy es MX s n):dS es MX s=cP:=by
 unfold dS;rw[dif_neg (fun ⟨n,h9⟩=>h n h9)]
def XN(D:Nat->Int)(es:List Ed)(s k:Nat):Bool:=decide (D (eA es k).t.toNat=D s-1)
inductive GQ (es:List Ed) (D:Nat->Int) (s0:Nat):List Nat->Nat->Prop
 | nil:GQ es D s0 [] s0
 | snoc {ks:List Nat} {s j i:Nat}:GQ es D s0 ks s->0<D s->(ao es (s:Nat)).findIdx? (XN D es s)=some j->(ao es (s:Nat))[j]?=some i->GQ es D s0 (ks++[i]) (eA es i).t.toNat
theorem GQ.Tk{es:List Ed}{D:Nat->Int}{s0:Nat}{ua:List Nat}{p':Nat}(h':GQ es D s0 ua p'):∀ {ms:List Nat} {p:Nat},GQ es D s0 ms p->ms.length<=ua.length->(ms=ua/\p=p')\/(ms.length<ua.length/\0<D p):=by
 induction h' with
 | nil=>
  intro ms p h hl;cases h with
  | nil=>exact .inl ⟨rfl,rfl⟩
  | snoc=>rw[Yh,Yv] at hl;simp at hl
 | @snoc ms1 p1 j k _ bz je hm ih=>
  intro ms p h hl;rw[Yh,Yv] at hl;by_cases e:ms.length<=ms1.length
  .rcases ih h e with ⟨rfl,rfl⟩ | ⟨h1,h2⟩
   .exact .inr ⟨by rw[Yh,Yv];omega,bz⟩
   .exact .inr ⟨by rw[Yh,Yv];omega,h2⟩
  .cases h with
   | nil=>simp at e
   | @snoc ms2 p2 j2 k2 hg2 LD hix2 mi=>
    rw[Yh,Yv] at hl e;rcases ih hg2 (by omega) with ⟨rfl,rfl⟩ | ⟨h1,_⟩
    .rw[je] at hix2;cases hix2;rw[hm] at mi;cases mi;exact .inl ⟨rfl,rfl⟩
    .omega
theorem GQ.uniq{es:List Ed}{D:Nat->Int}{s0:Nat}{ms ua:List Nat}{p p':Nat}(h:GQ es D s0 ms p)(hc:D p=0)(h':GQ es D s0 ua p')(wi:D p'=0):ms=ua/\p=p':=by
 rcases Nat.le_total ms.length ua.length with hl | hl
 .rcases h'.Tk h hl with h9 | ⟨_,h9⟩
  .exact h9
  .omega
 .rcases h.Tk h' hl with ⟨h9,h8⟩ | ⟨_,h9⟩
  .exact⟨h9.symm,h8.symm⟩
  .omega
theorem GQ.len{es:List Ed}{D:Nat->Int}{s0:Nat}{ms:List Nat}{p:Nat}(h:GQ es D s0 ms p):D s0=D p+(ms.length:Int):=by
 induction h with
 | nil=>simp
 | @snoc ms p j k _ _ je hm ih=>
  obtain⟨h1,h2,_⟩:=List.findIdx?_eq_some_iff_getElem.1 je;rw[(Ya.1 hm).2] at h2;unfold XN at h2;have h3:=bM h2;rw[Yh,Yv];omega
theorem Cf.val{g:Gl}{MX:Nat->Prop}{LF:List Int}(h:Cf g MX LF){s:Nat}(hs:s<g.n.toNat):LF[s]?=some (dS g.es MX s):=by
 rcases h s hs with ⟨h1,h2⟩ | ⟨k,h1,h2,_⟩
 .rw[h1,Tm fun n hn=>h2 n hn.1]
 .rw[h1,KB h2]
theorem GS.q{g:Gl}(hV:ae g){MX:Nat->Prop}{LF:List Int}(hF:Cf g MX LF){ks:List Nat}{s:Nat}(h:GS g.es LF g.s.toNat ks s):s<g.n.toNat/\GQ g.es (dS g.es MX) g.s.toNat ks s:=by
 have hN:=hV.num.n
 induction h with
 | nil=>exact⟨by omega,.nil⟩
 | @snoc ks s x j i _ hx h0 je hi ih=>
  obtain⟨y,hy,hyf⟩:=az.1 (Yb hi);have hye:=hV.num.e y (Yb hy);unfold gN at hye;have RA:=hF.val ih.1;rw[hx] at RA;have e1:=eU RA;refine⟨by rw[aI hy];omega,.snoc ih.2 (by omega) ?_ hi⟩;rw[<-je];refine (dR fun k hk=>?_).symm;obtain⟨z,hz,hzf⟩:=az.1 hk;have hze:=hV.num.e z (Yb hz);unfold gN at hze;unfold Dz XN;rw[aI hz,Yo,hF.val (s:=z.t.toNat) (by omega),Option.getD_some,e1]
inductive sZ (g:Gl) (role:Int):WS->Int->Prop
 | gJ (hn:∀n,¬qK g.es (rm g role) g.s.toNat n):sZ g role oS a7
 | hit {n:Nat} {ks:List Nat} {s:Nat} {e0:Ev} (hl:fy g.es (rm g role) g.s.toNat n) (hn:n<=1000) (hG:GQ g.es (dS g.es (rm g role)) g.s.toNat ks s) (h0:dS g.es (rm g role) s=0) (hm:rm g role s) (pD:(aH g role (s:Nat))[0]?=some e0) :
   sZ g role ⟨2,role,kQ g.es ks,[],aR role e0,JW role (aH g role (s:Nat))⟩ ((2*n:Nat):Int)
theorem Oa.q{g:Gl}(hV:ae g){role:Int}{X:An}(hX:lg g role X){W:WS}{n:Int}(h:Oa g role X W n):sZ g role W n:=by
 have e1:oP X=rm g role:=funext fun s=>propext (hX.mx s);cases h with
 | gJ hn=>rw[e1] at hn;exact .gJ hn
 | @hit n LF ks s f e0 hl hn hF hG h0 hf hm pD=>
  rw[e1] at hl hF;obtain⟨jU,hq⟩:=hG.q hV hF;obtain⟨f',Ew,fl,fb⟩:=hX.KH jU;rw[hf] at Ew;cases Ew;rw[fl] at pD ⊢;have hv:=hF.val jU;rw[h0] at hv;exact .hit hl hn hq (eU hv).symm ((hX.mx s).1 ⟨f,hf,hm⟩) pD
theorem sZ.uniq{g:Gl}{role:Int}{W W':WS}{n n':Int}(h:sZ g role W n)(h':sZ g role W' n'):W=W'/\n=n':=by
 cases h with
 | gJ hn=>
  cases h' with
  | gJ=>exact⟨rfl,rfl⟩
  | hit hl=>exact absurd hl.1 (hn _)
 | hit hl hn hG h0 hm pD=>
  cases h' with
  | gJ hn=>exact absurd hl.1 (hn _)
  | hit k6 El hG' EO gL hf0'=>
   obtain⟨rfl,rfl⟩:=hG.uniq h0 hG' EO;rw[pD] at hf0';cases hf0';exact⟨rfl,by rw[hl.uniq k6]⟩
/-! ### find and Check -/
def kB(g:Gl)(role:Int)(i:Nat)(W:WS)(n:Int):Prop:=
 match i with
 | 0=>lj g role 1 W n
 | 1=>sZ g role W n
 | 2=>lj g role 3 W n
 | _=>lj g role 4 W n
theorem qc.q{g:Gl}(hV:ae g){role:Int}{X:An}(hX:lg g role X){i:Nat}{W:WS}{n:Int}(h:qc g role X i W n):kB g role i W n:=by
 match i with
 | 0=>exact vX.q hV hX h
 | 1=>exact Oa.q hV hX h
 | 2=>exact vX.q hV hX h
 | i+3=>exact vX.q hV hX h
theorem kB.uniq{g:Gl}{role:Int}{i:Nat}{W W':WS}{n n':Int}(h:kB g role i W n)(h':kB g role i W' n'):W=W'/\n=n':=by
 match i with
 | 0=>exact lj.uniq h h'
 | 1=>exact sZ.uniq h h'
 | 2=>exact lj.uniq h h'
 | i+3=>exact lj.uniq h h'
inductive bG (g:Gl) (role:Int):Nat->WS->Int->Prop
 | zero:bG g role 0 oS a7
 | take {i:Nat} {W W':WS} {n n':Int}:bG g role i W n->kB g role i W' n'->n'<n->bG g role (i+1) W' n'
 | bH {i:Nat} {W W':WS} {n n':Int}:bG g role i W n->kB g role i W' n'->¬n'<n->bG g role (i+1) W n
theorem gu.q{g:Gl}(hV:ae g){role:Int}{X:An}(hX:lg g role X){i:Nat}{W:WS}{n:Int}(h:gu g role X i W n):bG g role i W n:=by
 induction h with
 | zero=>exact .zero
 | take _ hk hl ih=>exact .take ih (hk.q hV hX) hl
 | bH _ hk hl ih=>exact .bH ih (hk.q hV hX) hl
theorem bG.uniq{g:Gl}{role:Int}{i:Nat}{W:WS}{n:Int}(h:bG g role i W n):∀ {W':WS} {n':Int},bG g role i W' n'->W=W'/\n=n':=by
 induction h with
 | zero=>intro W' n' h';cases h';exact⟨rfl,rfl⟩
 | take _ hk hl ih=>
  intro W' n' h';cases h' with
  | take h2 dV gM=>exact hk.uniq dV
  | bH h2 dV gM=>
   obtain⟨rfl,rfl⟩:=ih h2;obtain⟨rfl,rfl⟩:=hk.uniq dV;exact absurd hl gM
 | bH _ hk hl ih=>
  intro W' n' h';cases h' with
  | take h2 dV gM=>
   obtain⟨rfl,rfl⟩:=ih h2;obtain⟨rfl,rfl⟩:=hk.uniq dV;exact absurd gM hl
  | bH h2 dV gM=>exact ih h2
theorem dm.q{g:Gl}(hV:ae g){role:Int}{W:WS}{n:Int}(h:dm g role W n):bG g role 4 W n:=by
 obtain⟨X,hX,hF⟩:=h;exact hF.q hV hX
theorem dm.uniq{g:Gl}(hV:ae g){role:Int}{W W':WS}{n n':Int}(h:dm g role W n)(h':dm g role W' n'):W=W'/\n=n':=(h.q hV).uniq (h'.q hV)
/-! ### lengths -/
def WS.len(W:WS):Nat:=if W.k=2 then 2*W.F.length else W.F.length+W.S.length
theorem MB(g:Gl){role:Int}{ms:List aV}(h:∀m∈ms,∃s t,m∈bA g.es role s t):(facts g ms).length+(eZ g ms).length=(ms.map bu).sum:=by
 induction ms with
 | nil=>rfl
 | cons m ms ih=>
  have h1:=ih fun m hm=>h m (Yn _ hm);obtain⟨s,t,hm⟩:=h m Yx;have h2:0<=m.x\/0<=m.y:=by
   unfold bA at hm;rcases Yk.1 hm with hm | hm
   .rcases Yk.1 hm with hm | hm
    .obtain⟨k,_,rfl⟩:=Yp.1 hm;exact .inl (Int.natCast_nonneg k)
    .obtain⟨k,_,rfl⟩:=Yp.1 hm;exact .inr (Int.natCast_nonneg k)
   .unfold nP at hm;obtain⟨i,hi,hm⟩:=List.mem_flatMap.1 hm;unfold sP at hm;split at hm
    .cases hm
    .obtain⟨k,_,rfl⟩:=Yp.1 hm;exact .inl (Int.natCast_nonneg i)
  unfold facts eZ at *;rw[List.flatMap_cons,List.flatMap_cons,Yh,Yh,kf,List.sum_cons,<-h1];unfold bu;by_cases hx:0<=m.x
  .by_cases hy:0<=m.y
   .rw[if_pos hx,if_pos hy,if_pos ⟨hx,hy⟩];simp only[Yv];omega
   .rw[if_pos hx,if_neg hy,if_neg (fun h9=>hy h9.2)];simp only[Yv,List.length_nil];omega
  .have hy:0<=m.y:=h2.resolve_left hx;rw[if_neg hx,if_pos hy,if_neg (fun h9=>hx h9.1)];simp only[Yv,List.length_nil];omega
theorem mS.mem{g:Gl}{role:Int}{bj:Pr->Option Int}{D:Pr->Int}{p0:Pr}{ms:List aV}{p:Pr}(h:mS (cO g role) bj D p0 ms p):∀m∈ms,∃s t,m∈bA g.es role s t:=by
 induction h with
 | nil=>intro m hm;cases hm
 | @snoc ms p m k _ _ _ hm ih=>
  intro x hx;rcases Yk.1 hx with hx | hx
  .exact ih x hx
  .rw[Ye] at hx;subst hx;exact⟨p.1,p.2,Yb hm⟩
theorem FM{g:Gl}{role:Int}{s:Nat}{y:fk}(h:y∈dt g role s):∃(i:Nat) (m:Ms),y=iu g i m/\i<g.es.length/\m∈dU g i:=by
 unfold dt at h;obtain⟨i,hi,hy⟩:=List.mem_flatMap.1 h;unfold iv at hy;obtain⟨x,hx,_⟩:=az.1 hi;split at hy
 .unfold vB at hy;obtain⟨m,hm,rfl⟩:=Yp.1 hy;exact⟨i,m,rfl,(Ya.1 hx).1,(List.mem_filter.1 hm).1⟩
 .cases hy
theorem lj.len{g:Gl}{role kind:Int}(hk:kind=1\/kind=3\/kind=4){W:WS}{n:Int}(h:lj g role kind W n):(n=a7/\W=oS)\/(n=W.len/\n<=8388608/\W.k=kind/\W.r=role):=by
 cases h with
 | gJ=>exact .inl ⟨rfl,rfl⟩
 | @hit n ms p hl hn hG hc=>
  refine .inr ⟨?_,by omega,rfl,rfl⟩;have h1:=MB g hG.mem;have h2:=hG.len;have h3:=vi hl;have VM:kind≠2:=by omega
  unfold WS.len;rw[if_neg VM];rcases hk with rfl | rfl | rfl
  .have:dL (cO g role) (eP g role 1) p=0:=by
    unfold cM at hc;rw[if_pos rfl] at hc;split at hc
    .split at hc
     .exact (eU hc).symm
     .cases hc
    .cases hc
   unfold G8;rw[if_pos rfl];simp only;omega
  .have:dL (cO g role) (eP g role 3) p=0:=by
    unfold cM at hc;rw[if_neg (by decide),if_pos rfl] at hc;split at hc
    .exact (eU hc).symm
    .cases hc
   unfold G8;rw[if_neg (by decide),if_neg (by decide)];simp only;omega
  .unfold cM at hc;rw[if_neg (by decide),if_neg (by decide)] at hc;split at hc
   .obtain⟨y,hy,hyn⟩:=zL.1 hc;obtain⟨i,m,rfl,_,_⟩:=FM (kV hy).1;unfold G8;rw[if_neg (by decide),if_pos rfl,hy];simp only[Option.getD_some,Yh,Yv];have e1:(iu g i m).e.toNat=i:=by unfold iu;exact Ys i
    have e2:(iu g i m).n=1+((eW g i m).length:Int):=rfl;have e3:(iu g i m).m=m:=rfl;rw[e1,e3];omega
   .cases hc
theorem sZ.len{g:Gl}{role:Int}{W:WS}{n:Int}(h:sZ g role W n):(n=a7/\W=oS)\/(n=W.len/\n<=8388608/\W.k=2/\W.r=role):=by
 cases h with
 | gJ=>exact .inl ⟨rfl,rfl⟩
 | @hit n ks s e0 hl hn hG h0 hm pD=>
  have h1:=hG.len;have h2:=KB hl;refine .inr ⟨?_,by omega,rfl,rfl⟩;unfold WS.len;rw[if_pos rfl];have h3:(kQ g.es ks).length=ks.length:=Yc _;simp only;omega
theorem bG.len{g:Gl}{role:Int}:∀ {i:Nat} {W:WS} {n:Int},bG g role i W n->(n=a7/\W=oS)\/(n=W.len/\n<=8388608/\1<=W.k/\W.k<=4/\W.r=role):=by
 intro i W n h
 induction h with
 | zero=>exact .inl ⟨rfl,rfl⟩
 | @take i W W' n n' _ hk hl ih=>
  have h9:(n'=a7/\W'=oS)\/(n'=W'.len/\n'<=8388608/\1<=W'.k/\W'.k<=4/\W'.r=role):=by
   match i with
   | 0=>exact (lj.len (.inl rfl) hk).imp id fun ⟨a,b,c,d⟩=>⟨a,b,by omega,by omega,d⟩
   | 1=>exact (sZ.len hk).imp id fun ⟨a,b,c,d⟩=>⟨a,b,by omega,by omega,d⟩
   | 2=>exact (lj.len (.inr (.inl rfl)) hk).imp id fun ⟨a,b,c,d⟩=>⟨a,b,by omega,by omega,d⟩
   | i+3=>exact (lj.len (.inr (.inr rfl)) hk).imp id fun ⟨a,b,c,d⟩=>⟨a,b,by omega,by omega,d⟩
  exact h9
 | bH _ _ _ ih=>exact ih
theorem DK{g:Gl}{role:Int}{s t:Nat}{x:Ed}(hx:x∈g.es)(hv:bm role x=none)(hf:x.f=(s:Int)):∃m∈bA g.es role s t,bp m=(x.t.toNat,t)/\bu m=1:=by
 obtain⟨i,hi⟩:=Yf.1 hx;refine⟨⟨(i:Int),-1,(eA g.es i).t,(t:Nat)⟩,?_,by unfold bp;rw[aI hi];rfl,by unfold bu;rw[if_neg (fun h=>absurd h.2 (show ¬(0:Int) <= -1 by decide))]⟩;unfold bA p6;refine List.mem_append_left _ (List.mem_append_left _ (Yp.2 ⟨i,List.mem_filter.2 ⟨az.2 ⟨x,hi,hf⟩,?_⟩,rfl⟩));unfold v7;rw[aI hi,hv];rfl
theorem DM{g:Gl}{role:Int}{s t:Nat}{x:Ed}(hx:x∈g.es)(hv:bm role x=none)(hf:x.f=(t:Int)):∃m∈bA g.es role s t,bp m=(s,x.t.toNat)/\bu m=1:=by
 obtain⟨i,hi⟩:=Yf.1 hx;refine⟨⟨-1,(i:Int),(s:Nat),(eA g.es i).t⟩,?_,by unfold bp;rw[aI hi];rfl,by unfold bu;rw[if_neg (fun h=>absurd h.1 (show ¬(0:Int) <= -1 by decide))]⟩;unfold bA yX;refine List.mem_append_left _ (List.mem_append_right _ (Yp.2 ⟨i,List.mem_filter.2 ⟨az.2 ⟨x,hi,hf⟩,?_⟩,rfl⟩));unfold v7;rw[aI hi,hv];rfl
theorem DN{g:Gl}{role:Int}{s t:Nat}{x y:Ed}{e:Ev}(hx:x∈g.es)(hy:y∈g.es)(Rx:bm role x=some e)(Rv:bm role y=some e)(hf:x.f=(s:Int))(hg:y.f=(t:Int)):∃m∈bA g.es role s t,bp m=(x.t.toNat,y.t.toNat)/\bu m=2:=by
 obtain⟨i,hi⟩:=Yf.1 hx;obtain⟨k,hk⟩:=Yf.1 hy;refine⟨⟨(i:Int),(k:Int),(eA g.es i).t,(eA g.es k).t⟩,?_,by unfold bp;rw[aI hi,aI hk],by unfold bu;rw[if_pos ⟨Int.natCast_nonneg i,Int.natCast_nonneg k⟩]⟩;unfold bA nP;refine List.mem_append_right _ (List.mem_flatMap.2 ⟨i,az.2 ⟨x,hi,hf⟩,?_⟩);unfold sP;rw[aI hi,Rx];refine Yp.2 ⟨k,List.mem_filter.2 ⟨az.2 ⟨y,hk,hg⟩,decide_eq_true ?_⟩,rfl⟩;rw[aI hk,Rv]

theorem dm.len{g:Gl}(hV:ae g){role:Int}{W:WS}{n:Int}(h:dm g role W n):(n=a7/\W=oS)\/(n=W.len/\n<=8388608/\1<=W.k/\W.k<=4/\W.r=role):=(h.q hV).len
def Vm(g:Gl)(k:Nat)(W:WS)(n:Int):Prop:=
 (n=a7/\W=oS/\∀j:Nat,j<k->∀W' n',dm g (j:Int) W' n'->n'=a7) \/
  (n≠a7/\(∃i:Nat,i<k/\dm g (i:Int) W n)/\∀j:Nat,j<k->∀W' n',dm g (j:Int) W' n'->n'=a7\/n<n'\/(n=n'/\(W.k<W'.k\/(W.k=W'.k/\W.r<=(j:Int)))))
theorem jj.TD{g:Gl}(hV:ae g){k:Nat}{W:WS}{n:Int}(h:jj g k W n):Vm g k W n:=by
 induction h with
 | zero=>exact .inl ⟨rfl,rfl,fun j hj=>by omega⟩
 | @take i W W' n n' _ hP hc ih=>
  have k6:=hP.len hV;have El:n'≠a7:=by
   rcases ih with ⟨h1,_⟩ | ⟨h1,⟨i2,_,h2⟩,_⟩
   .unfold a7 at *;omega
   .have h3:=h2.len hV;unfold a7 at *;omega
  have hWr:W'.r=(i:Int):=by
   rcases k6 with ⟨h9,_⟩ | ⟨_,_,_,_,h9⟩
   .exact absurd h9 El
   .exact h9
  refine .inr ⟨El,⟨i,by omega,hP⟩,fun j hj W2 n2 h2=>?_⟩;by_cases e:j=i
  .subst e;obtain⟨rfl,rfl⟩:=hP.uniq hV h2;exact .inr (.inr ⟨rfl,.inr ⟨rfl,by omega⟩⟩)
  .rcases ih with ⟨h1,_,h3⟩ | ⟨h1,_,h3⟩
   .exact .inl (h3 j (by omega) W2 n2 h2)
   .rcases h3 j (by omega) W2 n2 h2 with h4 | h4 | ⟨h4,h5⟩
    .exact .inl h4
    .exact .inr (.inl (by omega))
    .rcases hc with h6 | ⟨h6,_,h7⟩
     .exact .inr (.inl (by omega))
     .refine .inr (.inr ⟨by omega,.inl ?_⟩);rcases h5 with h5 | ⟨h5,_⟩<;>omega
 | @bH i W W' n n' _ hP hc ih=>
  have k6:=hP.len hV;rcases ih with ⟨h1,h2,h3⟩ | ⟨h1,⟨i2,Zb,h2⟩,h3⟩
  .refine .inl ⟨h1,h2,fun j hj W2 n2 h4=>?_⟩;by_cases e:j=i
   .subst e;obtain⟨rfl,rfl⟩:=hP.uniq hV h4;unfold a7 at *;omega
   .exact h3 j (by omega) W2 n2 h4
  .have h5:=h2.len hV;refine .inr ⟨h1,⟨i2,by omega,h2⟩,fun j hj W2 n2 h4=>?_⟩;by_cases e:j=i
   .subst e;obtain⟨rfl,rfl⟩:=hP.uniq hV h4;have hr:W.r=(i2:Int):=by
     rcases h5 with ⟨h9,_⟩ | ⟨_,_,_,_,h9⟩
     .exact absurd h9 h1
     .exact h9
    by_cases e1:n'=a7
    .exact .inl e1
    .by_cases e2:n<n'
     .exact .inr (.inl e2)
     .have e3:n=n':=by
       have:¬n'<n:=fun h9=>hc (.inl h9);omega
      refine .inr (.inr ⟨e3,?_⟩);have:¬W'.k<W.k:=fun h9=>hc (.inr ⟨e3.symm,by unfold a7 at *;omega,h9⟩);rcases Int.lt_or_le W.k W'.k with h9 | h9
      .exact .inl h9
      .exact .inr ⟨by omega,by omega⟩
   .exact h3 j (by omega) W2 n2 h4
/-! ### certificates -/
theorem mR.sub{g:Gl}{role:Int}{PL:List Pr}(h0:gh g∈PL)(ew:∀p∈PL,∀m∈bA g.es role p.1 p.2,bp m∈PL){p:Pr}(h:mR g role p):p∈PL:=by
 induction h with
 | start=>exact h0
 | step _ hm ih=>exact ew _ ih _ hm
theorem Dn.bj{g:Gl}{role:Int}{bj:Pr->Option Nat}{p:Pr}{n:Nat}(hd:Dn (cO g role) bj p n):mR g role p->∃q,mR g role q/\bj q≠none:=by
 induction hd with
 | base h=>exact fun hp=>⟨_,hp,by rw[h];simp⟩
 | step hm _ ih=>exact fun hp=>ih (.step hp hm)
theorem lj.none{g:Gl}{role kind:Int}{PL:List Pr}(h0:gh g∈PL)(ew:∀p∈PL,∀m∈bA g.es role p.1 p.2,bp m∈PL)(hc:∀p∈PL,cM g role kind p=Option.none){W:WS}{n:Int}(h:lj g role kind W n):n=a7:=by
 cases h with
 | gJ=>rfl
 | hit hl=>
  obtain⟨q,hq,bz⟩:=hl.1.bj .start;exact absurd (by unfold eP;rw[hc q (hq.sub h0 ew)];rfl) bz
theorem qK.mx{es:List Ed}{MX:Nat->Prop}{s n:Nat}(h:qK es MX s n):∃t,MX t:=by
 induction h with
 | base h=>exact⟨_,h⟩
 | step _ _ _ ih=>exact ih
theorem sZ.none{g:Gl}{role:Int}(hc:∀s:Nat,s<g.n.toNat->¬rm g role s){W:WS}{n:Int}(h:sZ g role W n):n=a7:=by
 cases h with
 | gJ=>rfl
 | hit hl=>
  obtain⟨t,ht⟩:=hl.1.mx;exact absurd ht (hc t ht.1)
theorem bG.none{g:Gl}{role:Int}{PL:List Pr}(h0:gh g∈PL)(ew:∀p∈PL,∀m∈bA g.es role p.1 p.2,bp m∈PL)(hc:∀p∈PL,cM g role 1 p=Option.none/\cM g role 3 p=Option.none/\cM g role 4 p=Option.none)(hm:∀s:Nat,s<g.n.toNat->¬rm g role s):∀ {i:Nat} {W:WS} {n:Int},bG g role i W n->n=a7:=by
 intro i W n h
 induction h with
 | zero=>rfl
 | @take i W W' n n' _ hk hl ih=>
  have:n'=a7:=by
   match i with
   | 0=>exact lj.none h0 ew (fun p hp=>(hc p hp).1) hk
   | 1=>exact sZ.none hm hk
   | 2=>exact lj.none h0 ew (fun p hp=>(hc p hp).2.1) hk
   | i+3=>exact lj.none h0 ew (fun p hp=>(hc p hp).2.2) hk
  exact this
 | bH _ _ _ ih=>exact ih
/-! ### two roles: nothing is found -/

instance:DecidableEq Lm:=fun a b=>decidable_of_iff (a.k=b.k/\a.x=b.x) ⟨fun ⟨h1,h2⟩=>by cases a;cases b;simp_all,fun h=>by rw[h];exact⟨rfl,rfl⟩⟩
def G7(g:Gl)(role:Int)(s:Nat):Option (List Ev × Bool):=(M4 g.es role g.n.toNat [(s:Int)]).map fun L=>(MK g.es role L,decide (g.e.toNat∈L))
theorem mu{g:Gl}(hV:ae g){role:Int}{s:Nat}(hs:(s:Int)<g.n){q:List Ev × Bool}(h:G7 g role s=some q):aH g role (s:Nat)=q.1/\bP g role (s:Nat)=q.2:=by
 have hN:=hV.num.n;unfold G7 at h;obtain⟨L,hL,rfl⟩:=zL.1 h;obtain⟨hc,he⟩:=Jl (fun x hx=>by have:=hV.num.e x hx;unfold gN at this;omega) (fun j hj=>by have:=Fv (l:=[(s:Int)]) hV (fun x hx=>by rw[Ye] at hx;omega) j hj;omega) hL;constructor
 .unfold aH;rw[he,BO hc (by omega)]
 .unfold bP;rw[he];rfl
def Wi(g:Gl)(role:Int)(s t:Nat):Bool:=cW g.es role s&&(cW g.es role t&&(!decide (cx g role g.ts s=cx g role g.ts t) || !decide (du g.es s=du g.es t)))
theorem Fw{g:Gl}{role:Int}{s t:Nat}(hs:s<g.n.toNat)(ht:t<g.n.toNat)(h:Wi g role s t=false):¬Jm g role s t:=by
 unfold Jm JA;rw[cU _ hs,cU _ ht,cU _ hs,cU _ ht,cU _ hs,cU _ ht];rintro⟨h1,h2,h3⟩;have e1:=eU h1;have e2:=eU h2;unfold Wi at h;rw[e1,e2,Bool.true_and,Bool.true_and,Bool.or_eq_false_iff] at h;rcases h3 with h3 | h3
 .have:=h.1;simp at this;exact h3 (by rw[this])
 .have:=h.2;simp at this;exact h3 (by rw[this])
def pT(g:Gl)(role:Int)(PL:List Pr)(p:Pr):Bool:=
 decide (p.1<g.n.toNat)&&(decide (p.2<g.n.toNat)&&((bA g.es role p.1 p.2).all fun m=>decide (bp m∈PL)))
def Je(g:Gl)(role:Int)(p:Pr):Bool:=
 match G7 g role p.1,G7 g role p.2 with
 | some a,some b=>(a.1.find? (fw b.1)).isNone&&(!Wi g role p.1 p.2&&(bX b.1 (dt g role p.1)).isNone)
 | _,_=>false
def H9(g:Gl)(role:Int)(s:Nat):Bool:=
 match G7 g role s with
 | some a=>!(eE a.1 0&&(a.2 || !eE a.1 (a.1.length-1)))
 | none=>false
def nK(g:Gl)(role:Int)(PL:List Pr):Bool:=
 decide (gh g∈PL)&&((PL.all fun p=>pT g role PL p&&Je g role p)&&((List.range g.n.toNat).all fun s=>H9 g role s))
theorem ku{g:Gl}{role:Int}{PL:List Pr}{p:Pr}(h:pT g role PL p=true):p.1<g.n.toNat/\p.2<g.n.toNat/\∀m∈bA g.es role p.1 p.2,bp m∈PL:=by
 unfold pT at h;rw[Yt,Yt,decide_eq_true_eq,decide_eq_true_eq,List.all_eq_true] at h;exact⟨h.1,h.2.1,fun m hm=>bM (h.2.2 m hm)⟩
theorem Jd{g:Gl}(hV:ae g){role:Int}{p:Pr}(h1:p.1<g.n.toNat)(h2:p.2<g.n.toNat)(h:Je g role p=true):cM g role 1 p=none/\cM g role 3 p=none/\cM g role 4 p=none:=by
 unfold Je at h;split at h
 .rename_i a b ha hb;obtain⟨ea,_⟩:=mu hV (by omega) ha;obtain⟨eb,_⟩:=mu hV (by omega) hb;rw[Yt,Yt] at h;obtain⟨k1,k2,k3⟩:=h;rw[Option.isNone_iff_eq_none] at k1 k3;refine⟨?_,?_,?_⟩
  .unfold cM;rw[if_pos rfl,if_pos ⟨h1,h2⟩,ea,eb,k1];rfl
  .unfold cM;rw[if_neg (by decide),if_pos rfl,if_neg (Fw h1 h2 (by simpa using k2))]
  .unfold cM;rw[if_neg (by decide),if_neg (by decide),if_pos ⟨h1,h2⟩,eb,k3];rfl
 .cases h
theorem y3{g:Gl}(hV:ae g){role:Int}{s:Nat}(hs:s<g.n.toNat)(h:H9 g role s=true):¬rm g role s:=by
 unfold H9 at h;split at h
 .rename_i a ha;obtain⟨e1,e2⟩:=mu hV (by omega) ha;unfold rm;rw[e1,e2];rintro⟨_,h9⟩;rw[h9] at h;cases h
 .cases h
theorem hU{g:Gl}(hV:ae g){role:Int}{PL:List Pr}(h:nK g role PL=true){i:Nat}{W:WS}{n:Int}(hF:bG g role i W n):n=a7:=by
 unfold nK at h;rw[Yt,Yt,decide_eq_true_eq,List.all_eq_true,List.all_eq_true] at h;obtain⟨h0,h1,h2⟩:=h;have hp:∀p∈PL,pT g role PL p=true/\Je g role p=true:=fun p hp=>by have:=h1 p hp;rwa [Yt] at this
 refine bG.none h0 (fun p pz m hm=>(ku (hp p pz).1).2.2 m hm) (fun p pz=>?_) (fun s hs=>y3 hV hs (h2 s (List.mem_range.2 hs))) hF;have:=ku (hp p pz).1;exact Jd hV this.1 this.2.1 (hp p pz).2
theorem Ta(hr hd he ht:Sl):nK (cK true hr hd he ht) 0 [(0,0),(1,1),(2,2),(1,3),(3,1),(3,3),(2,4),(4,2),(4,4),(1,5),(5,1),(3,5),(5,3),(5,5),(2,5),(5,2),(4,5),(5,4)]=true:=by kernel_rfl
theorem S9(hr hd he ht:Sl):nK (cK true hr hd he ht) 1 [(0,0),(1,1),(2,2),(3,3),(4,4),(5,5)]=true:=by kernel_rfl
theorem S8(hr hd he ht:Sl):nK (cK true hr hd he ht) 2 [(0,0),(0,1),(1,0),(0,2),(2,0),(1,1),(1,2),(2,1),(2,2),(3,3),(4,4),(5,5)]=true:=by kernel_rfl
theorem Te(hr hd he ht:Sl):nK (cK false hr hd he ht) 0 [(0,0),(1,1),(2,2),(1,3),(3,1),(3,3),(2,3),(3,2)]=true:=by kernel_rfl
theorem Td(hr hd he ht:Sl):nK (cK false hr hd he ht) 1 [(0,0),(1,1),(2,2),(3,3)]=true:=by kernel_rfl
theorem bG.le{g:Gl}{role:Int}{i:Nat}{W:WS}{n:Int}(h:bG g role i W n):n<=a7:=by
 rcases h.len with ⟨h1,_⟩ | ⟨_,h1,_⟩<;>unfold a7 at *<;>omega
theorem bG.drop{g:Gl}{role:Int}{i:Nat}{W:WS}{n:Int}(h:bG g role (i+1) W n)(hn:∀W' n',kB g role i W' n'->n'=a7):bG g role i W n:=by
 cases h with
 | take h1 hk hl=>
  have h2:=hn _ _ hk;have h3:=h1.le;omega
 | bH h1 _ _=>exact h1
def qE(g:Gl)(role:Int)(p:Pr):Option Bool:=
 match G7 g role p.1,G7 g role p.2 with
 | some a,some b=>some (a.1.find? (fw b.1)).isSome
 | _,_=>none
theorem mZ{g:Gl}(hV:ae g){role:Int}{p:Pr}(h1:p.1<g.n.toNat)(h2:p.2<g.n.toNat){b:Bool}(h:qE g role p=some b):cM g role 1 p=if b then some 0 else none:=by
 unfold qE at h;split at h
 .rename_i a c ha hb;obtain⟨ea,_⟩:=mu hV (by omega) ha;obtain⟨eb,_⟩:=mu hV (by omega) hb;cases h;unfold cM;rw[if_pos rfl,if_pos ⟨h1,h2⟩,ea,eb]
 .cases h
def Dg(g:Gl)(role:Int)(PL:List Pr):Bool:=
 decide (gh g∈PL)&&((PL.all fun p=>pT g role PL p&&(match G7 g role p.2 with | some b=>!Wi g role p.1 p.2&&(bX b.1 (dt g role p.1)).isNone | none=>false))&&((List.range g.n.toNat).all fun s=>H9 g role s))
theorem De{g:Gl}(hV:ae g){role:Int}{PL:List Pr}(h:Dg g role PL=true){W:WS}{n:Int}(hF:bG g role 4 W n):bG g role 1 W n:=by
 unfold Dg at h;rw[Yt,Yt,decide_eq_true_eq,List.all_eq_true,List.all_eq_true] at h;obtain⟨h0,h1,h2⟩:=h;have hp:∀p∈PL,pT g role PL p=true/\cM g role 3 p=none/\cM g role 4 p=none:=fun p hp=>by
  have h3:=h1 p hp;rw[Yt] at h3;obtain⟨k1,k2,_⟩:=ku h3.1;have h4:=h3.2;split at h4
  .rename_i b hb;obtain⟨eb,_⟩:=mu hV (by omega) hb;rw[Yt,Option.isNone_iff_eq_none] at h4;refine⟨h3.1,?_,?_⟩
   .unfold cM;rw[if_neg (by decide),if_pos rfl,if_neg (Fw k1 k2 (by simpa using h4.1))]
   .unfold cM;rw[if_neg (by decide),if_neg (by decide),if_pos ⟨k1,k2⟩,eb,h4.2];rfl
  .cases h4
 have ew:∀p∈PL,∀m∈bA g.es role p.1 p.2,bp m∈PL:=fun p pz m hm=>(ku (hp p pz).1).2.2 m hm;refine ((hF.drop (i:=3) fun W' n' hk=>?_).drop (i:=2) fun W' n' hk=>?_).drop (i:=1) fun W' n' hk=>?_
 .exact lj.none h0 ew (fun p pz=>(hp p pz).2.2) hk
 .exact lj.none h0 ew (fun p pz=>(hp p pz).2.1) hk
 .exact sZ.none (fun s hs=>y3 hV hs (h2 s (List.mem_range.2 hs))) hk
theorem lh.zero{mv:Pr->List aV}{bj:Pr->Option Nat}{p:Pr}(h:bj p=some 0):lh mv bj p 0:=⟨.base h,fun k _=>Nat.zero_le k⟩
theorem lh.CD{mv:Pr->List aV}{bj:Pr->Option Nat}{p:Pr}(h:lh mv bj p 0):bj p=some 0:=by
 have h1:=h.1;generalize e:(0:Nat)=z at h1;cases h1 with
 | base h=>rw[h,<-e]
 | @step _ m n _ _=>have:=cV m;omega
theorem Jb{mv:Pr->List aV}{bj:Pr->Option Nat}{p:Pr}(h:dL mv bj p=0):bj p=some 0:=by
 by_cases h9:∃n,lh mv bj p n
 .obtain⟨n,hn⟩:=h9;have h1:=vi hn;have:n=0:=by omega
  subst this;exact hn.CD
 .have h1:=KC (mv:=mv) (bj:=bj) (p:=p) fun n hn=>h9 ⟨n,hn⟩;unfold a7 at h1;omega
theorem Hp{ms:List aV}(h:(ms.map bu).sum=1):∃m,ms=[m]:=by
 cases ms with
 | nil=>cases h
 | cons m r=>
  cases r with
  | nil=>exact⟨m,rfl⟩
  | cons m2 r=>
   have h1:=cV m;have h2:=cV m2;rw[kf,kf,List.sum_cons,List.sum_cons] at h;omega
theorem mS.HT{mv:Pr->List aV}{bj:Pr->Option Int}{D:Pr->Int}{p0 p:Pr}(h:mS mv bj D p0 [] p):p=p0:=by
 generalize Bw:([]:List aV)=ms at h;cases h with
 | nil=>rfl
 | snoc=>exact absurd Bw (by simp)
theorem Tb(hr hd he ht:Sl):cO (cK false hr hd he ht) 2 (gh (cK false hr hd he ht))=[⟨0,-1,1,0⟩,⟨1,-1,2,0⟩,⟨-1,0,0,1⟩,⟨-1,1,0,2⟩]:=by kernel_rfl
theorem MI(hr hd he ht:Sl):qE (cK false hr hd he ht) 2 (0,0)=some false:=by kernel_rfl
theorem MG(hr hd he ht:Sl):qE (cK false hr hd he ht) 2 (1,0)=some false:=by kernel_rfl
theorem MF(hr hd he ht:Sl):qE (cK false hr hd he ht) 2 (2,0)=some false:=by kernel_rfl
theorem MH(hr hd he ht:Sl):qE (cK false hr hd he ht) 2 (0,1)=some true:=by kernel_rfl
theorem Tc(hr hd he ht:Sl):Dg (cK false hr hd he ht) 2 [(0,0),(0,1),(1,0),(0,2),(2,0),(1,1),(1,2),(2,1),(2,2),(3,3)]=true:=by kernel_rfl
theorem ME(hr hd he ht:Sl):G7 (cK false hr hd he ht) 2 0=some ([⟨true,1,2⟩,⟨true,1,3⟩],false):=by kernel_rfl
theorem MD(hr hd he ht:Sl):G7 (cK false hr hd he ht) 2 1=some ([⟨true,1,2⟩],false):=by kernel_rfl
theorem vb{hr hd he ht:Sl}{W:WS}{n:Int}(hF:bG (cK false hr hd he ht) 2 4 W n):n=1/\W.k=1/\W.F=[]/\W.S.length=1/\W.e.l=3:=by
 have hV:=oh false hr hd he ht;have h1:=De hV (Tc hr hd he ht) hF;generalize hg:cK false hr hd he ht=g at *;have O7:eP g 2 1 (gh g)=none:=by subst hg;show (cM (cK false hr hd he ht) 2 1 (0,0)).map Int.toNat=none;rw[mZ hV (p:=(0,0)) (by show 0<4;decide) (by show 0<4;decide) (MI hr hd he ht)];rfl
 have BZ:eP g 2 1 (1,0)=none:=by subst hg;show (cM (cK false hr hd he ht) 2 1 (1,0)).map Int.toNat=none;rw[mZ hV (p:=(1,0)) (by show 1<4;decide) (by show 0<4;decide) (MG hr hd he ht)];rfl
 have c20:eP g 2 1 (2,0)=none:=by subst hg;show (cM (cK false hr hd he ht) 2 1 (2,0)).map Int.toNat=none;rw[mZ hV (p:=(2,0)) (by show 2<4;decide) (by show 0<4;decide) (MF hr hd he ht)];rfl
 have c01:eP g 2 1 (0,1)=some 0:=by subst hg;show (cM (cK false hr hd he ht) 2 1 (0,1)).map Int.toNat=some 0;rw[mZ hV (p:=(0,1)) (by show 0<4;decide) (by show 1<4;decide) (MH hr hd he ht)];rfl
 have YY:cO g 2 (gh g)=[⟨0,-1,1,0⟩,⟨1,-1,2,0⟩,⟨-1,0,0,1⟩,⟨-1,1,0,2⟩]:=by subst hg;exact Tb hr hd he ht
 have hL:lh (cO g 2) (eP g 2 1) (gh g) 1:=by
  refine⟨.step (m:=⟨-1,0,0,1⟩) (n:=0) (by rw[YY];simp) (.base c01),fun k hk=>?_⟩;cases hk with
  | base h=>rw[O7] at h;cases h
  | @step _ m _ _ _=>have:=cV m;omega
 have uN:=vi hL;have hB:lj g 2 1 W n:=by
  cases h1 with
  | take h0 hk hl=>exact hk
  | @bH _ _ W' _ n' h0 hk hl=>
   cases h0;exfalso;apply hl;cases hk with
   | gJ hn=>exact absurd hL (hn 1)
   | hit k6 El=>unfold a7;omega
 cases hB with
 | gJ hn=>exact absurd hL (hn 1)
 | @hit n ms p hl hn hG hc=>
  have en:n=1:=hl.uniq hL;subst en;have hlen:=hG.len;have Ej:dL (cO g 2) (eP g 2 1) p=0:=by
   unfold cM at hc;rw[if_pos rfl] at hc;split at hc
   .split at hc
    .exact (eU hc).symm
    .cases hc
   .cases hc
  obtain⟨m,rfl⟩:=Hp (ms:=ms) (by omega);have hm:m=⟨-1,0,0,1⟩/\p=(0,1):=by
   generalize Bw:[m]=ms at hG;cases hG with
   | nil=>cases Bw
   | @snoc ms1 p1 m1 k VQ bz je hk=>
    cases ms1 with
    | cons a b=>simp at Bw
    | nil=>
     have e0:=VQ.HT;subst e0
     .have e1:m=m1:=by simpa using Bw
      subst e1;obtain⟨k1,k2,k3⟩:=List.findIdx?_eq_some_iff_getElem.1 je;rw[(Ya.1 hk).2] at k2;have hz:=Jb Ej;rw[YY] at hk
      match k,hk with
      | 0,hk=>cases hk;rw[show bp (⟨0,-1,1,0⟩:aV)=(1,0) from rfl,BZ] at hz;cases hz
      | 1,hk=>cases hk;rw[show bp (⟨1,-1,2,0⟩:aV)=(2,0) from rfl,c20] at hz;cases hz
      | 2,hk=>cases hk;exact⟨rfl,rfl⟩
      | 3,hk=>
       exfalso;have h9:=k3 2 (by decide);simp only[YY] at h9;apply h9;unfold Bd;refine decide_eq_true ?_;have e2:=vi (lh.zero (mv:=cO g 2) c01);show (bu (⟨-1,0,0,1⟩:aV):Int)+dL (cO g 2) (eP g 2 1) (0,1)=_;rw[e2,uN];rfl
      | k+4,hk=>simp at hk
  obtain⟨rfl,rfl⟩:=hm;refine⟨rfl,rfl,?_,?_,?_⟩
  .unfold G8;rw[if_pos rfl];rfl
  .rfl
  .subst hg;unfold G8;rw[if_pos rfl,(mu hV (s:=0) (by show (0:Int)<4;decide) (ME hr hd he ht)).1,(mu hV (s:=1) (by show (1:Int)<4;decide) (MD hr hd he ht)).1];rfl
def Wt.len(w:Wt):Int:=if w.k=2 then 2*(w.f.n:Int) else (w.f.n:Int)+(w.s.n:Int)
theorem um(w:Wt)(h:Heap)(hl:w.len<=1073741824):Fn Pz 20 #[.agg ⟨w.cs⟩] h fun v h'=>v=.int .i64 w.len/\Ext h h':=by
 apply Xn w.k w.r w.f w.s w.e.r w.e.s w.e.p w.e.l aB w.o.r w.o.s w.o.p w.o.l aB;unfold W20;unfold Wt.len at *;refine (St.refl h).aq fun mq hs=>?_;refine⟨w.k,hs.rd 0 rfl (i:=0) rfl,eh (fun c=>?_) (fun c=>?_)⟩
 .rw[if_pos c] at hl ⊢;refine⟨w.f,hs.rd 0 rfl (i:=2) rfl,?_,hs.ext⟩;rw[aZ (by omega) (by omega)]
 .rw[if_neg c] at hl ⊢;refine⟨w.f,hs.rd 0 rfl (i:=2) rfl,w.s,hs.rd 0 rfl (i:=3) rfl,?_,hs.ext⟩;rw[aZ (by omega) (by omega)]
theorem nh{h h':Heap}{W:WS}{w:Wt}{L:List It}(hs:St h h' (.sl w.f 65 3 (W.F.map Ac.cs) :: .sl w.s 65 3 (W.S.map Ac.cs)::L))(hk:w.k=W.k):w.len=(W.len:Int)/\w.f.n=W.F.length/\w.s.n=W.S.length:=by
 have h1:=(hs.len 0 (s:=w.f) rfl (by decide)).1;have h2:=(hs.len 1 (s:=w.s) rfl (by decide)).1;rw[Yc] at h1 h2;refine⟨?_,h1,h2⟩;unfold Wt.len WS.len;rw[hk];split<;>omega
theorem r5{hr hd he ht:Sl}{h h':Heap}{v:Value}(hc:sH (cK false hr hd he ht) h h' v):∃W,kW h h' W 18 v/\W.k=1/\W.r=2/\W.F=[]/\W.S.length=1/\W.e.l=3:=by
 have hV:=oh false hr hd he ht;have h0:∀ {W n},dm (cK false hr hd he ht) ((0:Nat):Int) W n->n=a7:=fun h=>hU hV (role:=0) (Te hr hd he ht) (h.q hV);have h1:∀ {W n},dm (cK false hr hd he ht) ((1:Nat):Int) W n->n=a7:=fun h=>hU hV (role:=1) (Td hr hd he ht) (h.q hV);cases hc with
 | bad hV'=>exact absurd hV hV'
 | ok _ hC _=>
  obtain⟨W',n',hF,hn⟩:=hC.all 2 (by show 2<3;decide);have:=(vb (hF.q hV)).1;unfold a7 at hn;omega
 | @err v W n _ hC hn hw=>
  rcases hC.TD hV with ⟨h9,_⟩ | ⟨_,⟨i,hi,hF⟩,_⟩
  .exact absurd h9 hn
  .have hi3:i<3:=hi;have Za:i=0\/i=1\/i=2:=by omega
   rcases Za with rfl | rfl | rfl
   .exact absurd (h0 hF) hn
   .exact absurd (h1 hF) hn
   .obtain⟨_,k1,k2,k3,k4⟩:=vb (hF.q hV);rcases hF.len hV with ⟨h9,_⟩ | ⟨_,_,_,_,h9⟩
    .exact absurd h9 hn
    .exact⟨W,hw,k1,h9,k2,k3,k4⟩
theorem vc{hr hd he ht:Sl}{h h':Heap}{v:Value}(hc:sH (cK true hr hd he ht) h h' v):v=.tuple ⟨[.agg ⟨gA.cs⟩,.int .i64 0]⟩/\Ext h h':=by
 have hV:=oh true hr hd he ht;have hn:∀ {i:Nat} {W n},i<3->dm (cK true hr hd he ht) (i:Int) W n->n=a7:=fun {i W n} hi hF=>by
  have Za:i=0\/i=1\/i=2:=by omega
  rcases Za with rfl | rfl | rfl
  .exact hU hV (role:=0) (Ta hr hd he ht) (hF.q hV)
  .exact hU hV (role:=1) (S9 hr hd he ht) (hF.q hV)
  .exact hU hV (role:=2) (S8 hr hd he ht) (hF.q hV)
 cases hc with
 | bad hV'=>exact absurd hV hV'
 | ok _ _ E=>exact⟨rfl,E⟩
 | err _ hC h9 _=>
  rcases hC.TD hV with ⟨h8,_⟩ | ⟨_,⟨i,hi,hF⟩,_⟩
  .exact absurd h8 h9
  .exact absurd (hn hi hF) h9
theorem Jq(h:Heap)(hx:Gm h):Fn Pz 12 #[] h fun v h'=>v=.bool true/\Ext h h':=by
 apply Xr;unfold W12;refine (qA false h).mono ?_;rintro _ cA ⟨E1,hr,hd,he,rfl,hg⟩;refine⟨_,_,_,_,_,_,_,_,rfl,?_⟩;refine (sc _ cA hg (hx.ext E1)).mono ?_;intro v IP hc;obtain⟨W,⟨w,e1,e2,e3,e4,rfl,L,dW⟩,k1,k2,k3,k4,k5⟩:=r5 hc;obtain⟨_,l1,l2⟩:=nh dW e1;refine⟨w.k,w.r,w.f,w.s,w.e.r,w.e.s,w.e.p,w.e.l,aB,w.o.r,w.o.s,w.o.p,w.o.l,aB,18,rfl,?_⟩;have hs:=((St.refl h).step E1).join dW;refine hs.ai (vs:=w.cs) rfl rfl fun O2 hs=>?_;refine (qA true O2).mono ?_;rintro _ Cu ⟨E2,hr',G3,IC,rfl,hg'⟩;replace hs:=hs.step E2;refine⟨_,_,_,_,_,_,_,_,rfl,?_⟩;refine (sc _ Cu hg' (hx.ext hs.ext)).mono ?_;intro v oK hc;obtain⟨rfl,E3⟩:=vc hc;replace hs:=hs.step E3;refine⟨0,0,aB,aB,0,false,0,0,aB,0,false,0,0,aB,0,rfl,?_⟩;refine hs.ai (vs:=gA.cs) rfl rfl fun ZN hs=>?_;refine oU rfl (oU rfl ?_);refine⟨w.k,hs.rd 1 rfl (i:=0) rfl,eh (fun _=>?_) (fun c=>absurd (by rw[e1,k1]) c)⟩;refine⟨w.r,hs.rd 1 rfl (i:=1) rfl,eh (fun _=>?_) (fun c=>absurd (by rw[e2,k2]) c)⟩;refine⟨w.f,hs.rd 1 rfl (i:=2) rfl,eh (fun _=>?_) (fun c=>absurd (by rw[l1,k3];rfl) c)⟩;refine⟨w.s,hs.rd 1 rfl (i:=3) rfl,eh (fun _=>?_) (fun c=>absurd (by rw[l2,k4];rfl) c)⟩;refine⟨w.e.l,hs.rd 1 rfl (i:=7) rfl,eh (fun _=>?_) (fun c=>absurd (by rw[e3,k5]) c)⟩;exact⟨0,hs.rd 0 rfl (i:=0) rfl,rfl,hs.ext⟩
theorem ox{K:List Ev}:∀(L:List fk) (z:fk),∃b,L.foldl (gK K) (some z)=some b/\b.n<=z.n
 | [],z=>⟨z,rfl,Int.le_refl _⟩
 | a::L,z=>by
  rw[List.foldl_cons];have:gK K (some z) a=some z\/(gK K (some z) a=some a/\a.n<z.n):=by
   unfold gK;split
   .simp only;split
    .rename_i h;exact .inr ⟨rfl,h⟩
    .exact .inl rfl
   .exact .inl rfl
  rcases this with e | ⟨e,h⟩
  .rw[e];exact ox L z
  .rw[e];obtain⟨b,h1,h2⟩:=ox (K:=K) L a;exact⟨b,h1,by omega⟩
theorem zI{K:List Ev}:∀(L:List fk) (b0:Option fk) (y:fk),y∈L->y.m.ev∈K->∃b,L.foldl (gK K) b0=some b/\b.n<=y.n
 | [],_,y,h,_=>by cases h
 | a::L,b0,y,h,hk=>by
  rw[List.foldl_cons];rcases Yr.1 h with rfl | h
  .have:∃z,gK K b0 y=some z/\z.n<=y.n:=by
    unfold gK;rw[if_pos hk];cases b0 with
    | none=>exact⟨y,rfl,Int.le_refl _⟩
    | some z=>
     simp only;split
     .exact⟨y,rfl,Int.le_refl _⟩
     .exact⟨z,rfl,by omega⟩
   obtain⟨z,e,hz⟩:=this;rw[e];obtain⟨b,h1,h2⟩:=ox (K:=K) L z;exact⟨b,h1,by omega⟩
  .exact zI L _ y h hk









theorem cR{α:Type}{n:Nat}(f:Nat->α){s:Nat}(hs:s<n):((List.range n).map f)[s]?=some (f s):=by rw[Yd,xX hs];rfl
/-! ### views are what histories lead to -/










end Go.VC
end

section
namespace Go.VC
open Go.Proofs Go.LexS
abbrev Vq:=Nat × List Nat
structure BfI (g:Gl) (MX:Nat->Prop) (Q:List Vq) (par:Nat->Nat) (i k:Nat):Prop where
 q0:Q[0]?=some (g.s.toNat,[])
 nd:(Q.map Prod.fst).Nodup
 lt:∀v∈Q,v.1<g.n.toNat
 p0:par 0=0
 pl:∀j,0<j->j<Q.length->par j<j
 pu:∀j,j<Q.length->par j<=i
 mo:∀j k,j<=k->k<Q.length->par j<=par k
 wd:∀j v,0<j->Q[j]?=some v->∃u a q,Q[par j]?=some u/\(ao g.es (u.1:Nat))[q]?=some a/\v=((eA g.es a).t.toNat,u.2++[a])/\∀(q':Nat) a',q'<q->(ao g.es (u.1:Nat))[q']?=some a'->∃c w,c<j/\Q[c]?=some w/\w.1=(eA g.es a').t.toNat
 cl:∀(j:Nat) v (q:Nat) a,Q[j]?=some v->(ao g.es (v.1:Nat))[q]?=some a->(j<i\/j=i/\q<k)->∃b w,Q[b]?=some w/\w.1=(eA g.es a).t.toNat/\par b<=j
 no:∀(j:Nat) v,j<i->Q[j]?=some v->¬MX v.1
section
variable {g:Gl} {MX:Nat->Prop} {Q:List Vq} {par:Nat->Nat} {i:Nat} (h:BfI g MX Q par i 0) (hi:i<Q.length)
include h hi
end
end Go.VC
end

section
namespace Go.VC
open Go.Proofs Go.LexS



end Go.VC
end

section
namespace Go.VC
open Go.Proofs Go.LexS
variable [ax]
namespace M
end M
end Go.VC
end

section
namespace Go.VC
open Go.Proofs Go.LexS Go.Shelf

end Go.VC
end

section
namespace Go.VC
open Go.Proofs Go.LexS





theorem bG.s2{g:Gl}{role:Int}{i:Nat}{W:WS}{n:Int}(h:bG g role i W n):W.k=2->W.S=[]:=by
 have hb:∀ {kind:Int} {W:WS} {n:Int},kind≠2->lj g role kind W n->W.k=2->W.S=[]:=fun {kind W n} hk h h2=>by
  cases h with
  | gJ=>rfl
  | hit=>exact absurd h2 hk
 induction h with
 | zero=>exact fun _=>rfl
 | @take i W W' n n' _ hk hl ih=>
  match i with
  | 0=>exact hb (by decide) hk
  | 1=>
   intro _;have hk:sZ g role W' n':=hk;cases hk with
   | gJ=>rfl
   | hit=>rfl
  | 2=>exact hb (by decide) hk
  | i+3=>exact hb (by decide) hk
 | bH _ _ _ ih=>exact ih

inductive lW (g:Gl):Nat->WS->Int->Prop
 | zero:lW g 0 oS a7
 | take {i:Nat} {W W':WS} {n n':Int}:lW g i W n->bG g (i:Int) 4 W' n'->(n'<n\/n'=n/\n'<a7/\W'.k<W.k)->lW g (i+1) W' n'
 | bH {i:Nat} {W W':WS} {n n':Int}:lW g i W n->bG g (i:Int) 4 W' n'->¬(n'<n\/n'=n/\n'<a7/\W'.k<W.k)->lW g (i+1) W n
theorem jj.q{g:Gl}(hV:ae g){i:Nat}{W:WS}{n:Int}(h:jj g i W n):lW g i W n:=by
 induction h with
 | zero=>exact .zero
 | take _ hF hc ih=>exact .take ih (hF.q hV) hc
 | bH _ hF hc ih=>exact .bH ih (hF.q hV) hc
theorem lW.len{g:Gl}{i:Nat}{W:WS}{n:Int}(h:lW g i W n):((n=a7/\W=oS)\/(n=W.len/\n<=8388608))/\(W.k=2->W.S=[]):=by
 induction h with
 | zero=>exact⟨.inl ⟨rfl,rfl⟩,fun _=>rfl⟩
 | take _ hF _ _=>exact⟨hF.len.imp id fun ⟨a,b,_⟩=>⟨a,b⟩,hF.s2⟩
 | bH _ _ _ ih=>exact ih
def ChQ(g:Gl)(W:WS)(e:Int):Prop:=(¬ae g/\W=oS/\e=1)\/(ae g/\∃n,lW g g.rs.length W n/\e=if n=a7 then 0 else 18)
theorem lW.gJ{g:Gl}{i:Nat}{W:WS}(h:lW g i W a7):W=oS:=by
 rcases h.len.1 with h | h
 .exact h.2
 .have:=h.2;unfold a7 at this;omega
theorem vt(g:Gl)(h:Heap)(hg:GI h g)(hx:Gm h):Fn Pz 14 #[g.v] h fun v h'=>∃W e,ChQ g W e/\kW h h' W e v:=by
 refine (sc g h hg hx).mono ?_;intro v h' hr;cases hr with
 | bad hV E=>exact⟨_,_,.inl ⟨hV,rfl,rfl⟩,.zero E 1⟩
 | ok hV hC E=>
  have hq:=hC.q hV;have:=hq.gJ;subst this;exact⟨_,_,.inr ⟨hV,_,hq,rfl⟩,.zero E 0⟩
 | err hV hC hn hw=>exact⟨_,_,.inr ⟨hV,_,hC.q hV,(if_neg hn).symm⟩,hw⟩
end Go.VC
end

section
namespace Go.VC
open Go.LexS
theorem HQ{num:List Int}{v:Int}(h:0<=nv num v):num[v.toNat]?=some (nv num v):=by
 unfold nv at h ⊢;rw[Yo] at h ⊢;cases hc:num[v.toNat]? with
 | none=>rw[hc] at h;replace h:(0:Int) <= -1:=h;omega
 | some d=>rfl
theorem yn{g c:Gl}{σ:Nat->Nat}(Kq:∀y∈g.es,fo σ y∈c.es){bk:Bool}{a b:Int}(h:eV g.es bk a b):eV c.es bk (bR σ a) (bR σ b):=by
 induction h with
 | refl=>exact .refl
 | step _ hx ih=>
  obtain⟨x,hx,h1,h2⟩:=hx;refine .step ih ⟨fo σ x,Kq x hx,?_,?_⟩
  .rw[<-h1];cases bk<;>rfl
  .rw[<-h2];cases bk<;>rfl
theorem Fm{L K:List Dc}(hl:K.length=L.length)(h:∀(i:Nat) d d',L[i]?=some d->K[i]?=some d'->GN d d')(hD:jy L):jy K:=by
 have R4:∀ {β:Type} (f:Dc->β),(∀d d',GN d d'->f d'=f d)->K.map f=L.map f:=fun {β} f hf=>by
  refine wm fun i=>?_;rw[Yd,Yd];by_cases hi:i<L.length
  .obtain⟨d,gd⟩:=get_some (l:=L) hi;obtain⟨d',G5⟩:=get_some (l:=K) (i:=i) (by omega);rw[gd,G5,Option.map_some,Option.map_some,hf d d' (h i d d' gd G5)]
  .rw[Yl (by omega),Yl (by omega)]
 have Km:=R4 (fun d:Dc=>d.fs) fun d d' hd=>hd.2.2.1;have YU:=R4 (fun d:Dc=>d.nm) fun d d' hd=>hd.1;have ch:∀i,bt (K.take i)=bt (L.take i):=fun i=>by
  unfold bt;rw[List.flatMap_def,List.flatMap_def,List.map_take,List.map_take,Km]
 have Kv:bt K=bt L:=by
  unfold bt;rw[List.flatMap_def,List.flatMap_def,Km]
 refine⟨by rw[hl];exact hD.pn,by rw[Kv];exact hD.pv,fun i d' G5=>?_⟩;obtain⟨d,gd⟩:=get_some (l:=L) (i:=i) (by have:=(Ya.1 G5).1;omega);obtain⟨e1,e2,e3,e4,e5⟩:=h i d d' gd G5;have hd:=hD.pd i d gd;refine⟨by rw[e1];exact hd.pp,by rw[e3];exact hd.pn,by rw[e2,ch];exact hd.pf,?_,by rw[e3];exact hd.KX,by rw[Kv,e4,e5];exact hd.pg⟩;have h1:(K.take i).map (fun d:Dc=>d.nm)=(L.take i).map fun d:Dc=>d.nm:=by rw[List.map_take,List.map_take,YU]
 have h2:=hd.pd;rw[show ((L.take i).any fun x=>decide (x.nm=d.nm))=((L.take i).map fun d:Dc=>d.nm).any fun x=>decide (x=d.nm) by rw[List.any_map];rfl] at h2;rw[show ((K.take i).any fun x=>decide (x.nm=d'.nm))=((K.take i).map fun d:Dc=>d.nm).any fun x=>decide (x=d'.nm) by rw[List.any_map];rfl,h1,e1];exact h2
theorem Jo{g c:Gl}(hV:ae g)(hC:KK g c):∃σ,Ren g c σ/\ae c:=by
 obtain⟨ord,num,Q,YU,wc,LV,VT,hn,hs,he,xv⟩:=hC;have hN:=hV.num.n;have Kw:=xv.n;have VW:∀e,e∈Q ↔ ∃x i,g.es[e]?=some x/\i<ord.length/\ord[i]?=some x.f.toNat:=fun e=>by
  rw[xv.q e];exact⟨fun h=>h.elim id fun h=>(by cases h),.inl⟩
 have ch:∀v:Int,eV g.es false g.s v->v.toNat∈ord:=fun v hv=>by
  induction hv with
  | refl=>exact Yb xv.z
  | step _ hx ih=>
   obtain⟨x,hx,h1,h2⟩:=hx;replace h1:x.f=_:=h1;replace h2:x.t=_:=h2;subst h1;subst h2;obtain⟨i,hi⟩:=Yf.1 ih;obtain⟨e,ge⟩:=Yf.1 hx;have OK:=(VW e).2 ⟨x,i,ge,(Ya.1 hi).1,hi⟩;have:=(xv.f e OK).2.2;rw[qx ge] at this;rcases Kw.b _ _ (HQ this) with h1 | ⟨j,_,h2⟩
   .omega
   .exact Yb h2
 have hA:∀i,i<g.n.toNat->∃j,ord[j]?=some i/\num[i]?=some ((j:Nat):Int):=fun i hi=>by
  have:=ch (i:Int) (hV.fwd _ (by omega) (by omega));obtain⟨j,hj⟩:=Yf.1 this;exact⟨j,hj,Kw.a j i hj⟩
 let σ:Nat->Nat:=fun i=>(num.getD i (-1)).toNat
 have hσ:∀i,i<g.n.toNat->ord[σ i]?=some i/\num[i]?=some ((σ i:Nat):Int):=fun i hi=>by
  obtain⟨j,h1,h2⟩:=hA i hi;have e:σ i=j:=by
   show (num.getD i (-1)).toNat=j;rw[Yo,h2];rfl
  rw[e];exact⟨h1,h2⟩
 have Sa:∀i j,i<g.n.toNat->j<g.n.toNat->σ i=σ j->i=j:=fun i j hi hj e=>by
  have h1:=(hσ i hi).1;rw[e,(hσ j hj).1] at h1;exact (eU h1).symm
 have we:ord.length=g.n.toNat:=by
  refine Nat.le_antisymm Kw.len ?_;have h1:=cF ord.length ((List.range g.n.toNat).map σ) (List.pairwise_map.2 ((List.nodup_range.and (List.pairwise_of_forall_mem_list (r:=fun a b=>a<g.n.toNat/\b<g.n.toNat) fun a ha b hb=>⟨List.mem_range.1 ha,List.mem_range.1 hb⟩)).imp fun {a b} iO e=>iO.1 (Sa a b iO.2.1 iO.2.2 e))) fun x hx=>by
   obtain⟨i,hi,rfl⟩:=Yp.1 hx;exact (Ya.1 (hσ i (List.mem_range.1 hi)).1).1
  rw[Yc,mG] at h1;exact h1
 have Kh:∀v:Int,0<=v/\v<g.n->nv num v=bR σ v:=fun v hv=>l8 (hσ v.toNat (by omega)).2;have hmE:∀ {e:Nat} {y:Ed},g.es[e]?=some y->mE g num e=fo σ y:=fun {e y} ge=>by
  obtain⟨h1,h2⟩:=j5 hV (Yb ge);unfold mE fo;rw[qx ge,Kh _ h1,Kh _ h2]
 have OK:∀ {e:Nat} {y:Ed},g.es[e]?=some y->e∈Q:=fun {e y} ge=>by
  obtain⟨h1,_⟩:=j5 hV (Yb ge);have h2:=(hσ y.f.toNat (by omega)).1;exact (VW e).2 ⟨y,_,ge,(Ya.1 h2).1,h2⟩
 have LY:∀ {i:Nat} {x:Ed},c.es[i]?=some x->∃e y,Q[i]?=some e/\g.es[e]?=some y/\x=fo σ y:=fun {i x} gx=>by
  rw[xv.es,Yd] at gx;obtain⟨e,he,rfl⟩:=zL.1 gx;obtain⟨y,_,gy,_⟩:=(VW e).1 (Yb he);exact⟨e,y,he,gy,hmE gy⟩
 have Zx:∀ {j e:Nat} {y:Ed},Q[j]?=some e->g.es[e]?=some y->c.es[j]?=some (fo σ y):=fun {j e y} h1 h2=>by
  rw[xv.es,Yd,h1,Option.map_some,hmE h2]
 have Kq:∀x,x∈c.es ↔ ∃y∈g.es,x=fo σ y:=fun x=>by
  constructor
  .intro hx;obtain⟨i,gi⟩:=Yf.1 hx;obtain⟨e,y,_,h2,h3⟩:=LY gi;exact⟨y,Yb h2,h3⟩
  .rintro⟨y,hy,rfl⟩;obtain⟨e,ge⟩:=Yf.1 hy;obtain⟨j,hj⟩:=Yf.1 (OK ge);exact Yb (Zx hj ge)
 have Zm:c.n=g.n:=by rw[hn,we];omega
 have hR:Ren g c σ:=by
  refine⟨Zm,fun i hi=>?_,Sa,?_,?_,Kq,fun t ht=>?_,fun u hu=>?_,wc⟩
  .have:=(Ya.1 (hσ i hi).1).1;omega
  .rw[hs,<-Kh g.s (by omega),l8 (Kw.a 0 _ xv.z)];rfl
  .rw[<-Kh g.e (by omega),l8 he]
  .obtain⟨u,hu,h1,h2,j,h3,h4⟩:=xv.ta t ht;obtain⟨_,_,_,z,gz,_⟩:=qN hV hu;exact⟨u,hu,by rw[h1,Kh _ (CP hV hu)],h2,z,gz,by rw[h3];exact Zx h4 gz⟩
  .obtain⟨_,_,_,z,gz,_⟩:=qN hV hu;obtain⟨t,ht,h1,h2,j,h3,h4⟩:=xv.tb u hu (OK gz);exact⟨t,ht,by rw[h1,Kh _ (CP hV hu)],h2,z,gz,by rw[h3];exact Zx h4 gz⟩
 refine⟨σ,hR,?_⟩;have IB:c.es.length=Q.length:=by rw[xv.es,Yc]
 have OQ:Q.length<=g.es.length:=cF g.es.length Q xv.qn fun z hz=>by
  obtain⟨y,_,h1,_⟩:=(VW z).1 hz;exact (Ya.1 h1).1
 have hm:=hV.num.m;refine⟨⟨by rw[YU];exact hV.GW.w,by rw[wc];exact hV.GW.n1,by rw[wc];exact hV.GW.n6,by rw[wc];exact hV.GW.r⟩,⟨?_,by omega,fun x hx=>?_⟩,Fm LV VT hV.dcl,⟨fun x hx=>?_,fun x hx ha=>?_,fun i x gx k y gy hb=>?_⟩,fun i t gt=>?_,fun v h0 h1=>?_,fun v h0 h1=>?_⟩
 .have h1:=qV hR (v:=g.s) (by omega);have h2:=qV hR (v:=g.e) (by omega);rw[hR.s,hR.e,Zm];omega
 .obtain⟨y,hy,rfl⟩:=(Kq x).1 hx;have hE:=hV.num.e y hy;obtain⟨r1,r2⟩:=j5 hV hy;have h1:=qV hR r1;have h2:=qV hR r2;unfold gN at hE ⊢;rw[Zm,wc,LV];exact⟨h1.1,h2.1,hE.2.2.1,hE.2.2.2.1,hE.2.2.2.2.1,h1.2,h2.2,hE.2.2.2.2.2.2.2⟩
 .obtain⟨y,hy,rfl⟩:=(Kq x).1 hx;rw[hR.e];exact fun e=>hV.ord.e y hy (dA hR (j5 hV hy).1 (by omega) e)
 .obtain⟨y,hy,rfl⟩:=(Kq x).1 hx;rw[hR.s];exact fun e=>hV.ord.s y hy ha (dA hR (j5 hV hy).1 (by omega) e)
 .obtain⟨e1,x0,q1,g1,rfl⟩:=LY gx;obtain⟨e2,y0,q2,g2,rfl⟩:=LY gy;have rx:=j5 hV (Yb g1);have ry:=j5 hV (Yb g2);refine hV.ord.p e1 x0 g1 e2 y0 g2 ?_;rcases hb with ⟨b1,b2,b3⟩ | ⟨b1,b2,b3⟩
  .refine .inl ⟨fun e=>b1 ?_,dA hR rx.1 ry.1 b2,b3⟩;rw[e,<-q2] at q1;exact (List.getElem?_inj (by rw[<-IB];exact (Ya.1 gx).1) xv.qn).1 q1
  .exact .inr ⟨b1,dA hR ry.2 rx.1 b2,b3⟩
 .obtain⟨u,hu,h1,h2,z,gz,h3⟩:=hR.ti t (Yb gt);obtain⟨ui,hui⟩:=Yf.1 hu;obtain⟨_,k1,k2,z',gz',k4,k5⟩:=hV.Hn ui u hui;rw[gz] at gz';cases gz';refine⟨?_,by rw[h2];exact k1,?_,fo σ z,h3,by rw[h1,<-k4];rfl,k5⟩
  .have htd:=xv.td t (Yb gt);unfold jq;by_cases c0:i=0
   .rw[if_pos c0];omega
   .rw[if_neg c0];have wh:=(Ya.1 gt).1;obtain⟨t0,gt0⟩:=get_some (l:=c.ts) (i:=i-1) (by omega);rw[gt0];obtain⟨Kk,e0⟩:=Ya.1 gt0;obtain⟨VP,e1⟩:=Ya.1 gt;have:=List.pairwise_iff_getElem.1 xv.tc (i-1) i Kk VP (by omega);rw[e0,e1] at this;exact this
  .obtain⟨_,_,_,_,j,h5,_⟩:=xv.ta t (Yb gt);omega
 .obtain⟨i,hi⟩:=get_some (l:=ord) (i:=v.toNat) (by omega);have dQ:=Kw.lt (Yb hi);have hv:v=bR σ (i:Int):=by
   rw[<-Kh _ (by omega),l8 (Kw.a _ _ hi)];omega
  rw[hv,hR.s];exact yn (fun y hy=>(Kq _).2 ⟨y,hy,rfl⟩) (hV.fwd _ (by omega) (by omega))
 .obtain⟨i,hi⟩:=get_some (l:=ord) (i:=v.toNat) (by omega);have dQ:=Kw.lt (Yb hi);have hv:v=bR σ (i:Int):=by
   rw[<-Kh _ (by omega),l8 (Kw.a _ _ hi)];omega
  rw[hv,hR.e];exact yn (fun y hy=>(Kq _).2 ⟨y,hy,rfl⟩) (hV.bwd _ (by omega) (by omega))
end Go.VC
end

section
namespace Go.VC
open Go.Proofs Go.LexS
theorem uc{g:Gl}{role:Int}{s t:Nat}{m:aV}(hm:m∈bA g.es role s t):
  (∃x∈g.es,bm role x=none/\x.f=(s:Int)/\bp m=(x.t.toNat,t)/\bu m=1)\/(∃x∈g.es,bm role x=none/\x.f=(t:Int)/\bp m=(s,x.t.toNat)/\bu m=1) \/
  (∃x∈g.es,∃y∈g.es,∃e,bm role x=some e/\bm role y=some e/\x.f=(s:Int)/\y.f=(t:Int)/\bp m=(x.t.toNat,y.t.toNat)/\bu m=2):=by
 unfold bA at hm;rcases Yk.1 hm with hm | hm
 .rcases Yk.1 hm with hm | hm
  .obtain⟨k,hk,rfl⟩:=Yp.1 hm;obtain⟨BA,dV⟩:=List.mem_filter.1 hk;obtain⟨x,hx,hf⟩:=az.1 BA;unfold v7 at dV;rw[aI hx] at dV;refine .inl ⟨x,Yb hx,?_,hf,by unfold bp;rw[aI hx];simp only[Ys],by unfold bu;rw[if_neg (fun h=>absurd h.2 (show ¬(0:Int) <= -1 by decide))]⟩;cases h:bm role x with
   | none=>rfl
   | some e=>rw[h] at dV;simp at dV
  .obtain⟨k,hk,rfl⟩:=Yp.1 hm;obtain⟨BA,dV⟩:=List.mem_filter.1 hk;obtain⟨x,hx,hf⟩:=az.1 BA;unfold v7 at dV;rw[aI hx] at dV;refine .inr (.inl ⟨x,Yb hx,?_,hf,by unfold bp;rw[aI hx];simp only[Ys],by unfold bu;rw[if_neg (fun h=>absurd h.1 (show ¬(0:Int) <= -1 by decide))]⟩);cases h:bm role x with
   | none=>rfl
   | some e=>rw[h] at dV;simp at dV
 .unfold nP at hm;obtain⟨i,hi,hm⟩:=List.mem_flatMap.1 hm;obtain⟨x,hx,hf⟩:=az.1 hi;unfold sP at hm;rw[aI hx] at hm;cases hv:bm role x with
  | none=>rw[hv] at hm;cases hm
  | some e=>
   rw[hv] at hm;obtain⟨k,hk,rfl⟩:=Yp.1 hm;obtain⟨BA,dV⟩:=List.mem_filter.1 hk;obtain⟨y,hy,Sf⟩:=az.1 BA;have dV:=bM dV;rw[aI hy] at dV;exact .inr (.inr ⟨x,Yb hx,y,Yb hy,e,hv,dV,hf,Sf,by unfold bp;rw[aI hy],by unfold bu;rw[if_pos ⟨Int.natCast_nonneg i,Int.natCast_nonneg k⟩]⟩)
section
variable {g c:Gl} {σ:Nat->Nat} (hR:Ren g c σ) (hV:ae g) (hW:ae c) {role:Int}
include hR hV hW
theorem lL{s:Nat}(hs:s<g.n.toNat):aH c role ((σ s:Nat):Int)=aH g role (s:Nat)/\bP c role ((σ s:Nat):Int)=bP g role (s:Nat):=by
 have hN:=hV.num.n;have hl:∀x∈[(s:Int)],0<=x/\x<g.n:=fun x hx=>by rw[Ye] at hx;omega
 have hc:=Jk hR hV (role:=role) hl (HP (g:=g) (c:=c) (σ:=σ) (s:Int));unfold aH bP;rw[show ((σ s:Nat):Int)=bR σ (s:Int) from rfl,hc];refine⟨IY hR hV hW (Jj hV hl),?_⟩;rw[hR.e];show oV g.n.toNat σ (oM g.es role [(s:Int)]) (σ g.e.toNat)=_;exact HG hR (by omega)
theorem yT{s:Nat}(hs:s<g.n.toNat):rm c role (σ s) ↔ rm g role s:=by
 have h:=lL hR hV hW (role:=role) hs;have h2:=hR.r s hs;unfold rm;rw[h.1,h.2,hR.n];exact⟨fun h=>⟨hs,h.2⟩,fun h=>⟨h2,h.2⟩⟩
theorem fZ{y:Ed}(hy:y∈g.es){s:Nat}(hs:s<g.n.toNat)(e:bR σ y.f=((σ s:Nat):Int)):y.f=(s:Int):=by
 have h1:=(j5 hV hy).1;exact dA hR h1 (by omega) e
theorem r6{s n:Nat}(hs:s<g.n.toNat):qK c.es (rm c role) (σ s) n ↔ qK g.es (rm g role) s n:=by
 constructor
 .intro h;generalize dW:σ s=s' at h
  induction h generalizing s with
  | base hm=>subst dW;exact .base ((yT hR hV hW hs).1 hm)
  | @step s' e n he LS _ ih=>
   subst dW;obtain⟨y,hy,rfl⟩:=(hR.ed e).1 he;have X5:=(j5 hV hy).2;exact .step hy (fZ hR hV hW hy hs LS) (ih (s:=y.t.toNat) (by omega) rfl)
 .intro h
  induction h with
  | base hm=>exact .base ((yT hR hV hW hs).2 hm)
  | @step s e n he LS _ ih=>
   have X5:=(j5 hV he).2;refine .step ((hR.ed _).2 ⟨e,he,rfl⟩) ?_ (ih (by omega));show bR σ e.f=_;rw[LS];rfl
theorem nR{s n:Nat}(hs:s<g.n.toNat):fy c.es (rm c role) (σ s) n ↔ fy g.es (rm g role) s n:=by
 unfold fy;rw[r6 hR hV hW hs];exact⟨fun h=>⟨h.1,fun k hk=>h.2 k ((r6 hR hV hW hs).2 hk)⟩,fun h=>⟨h.1,fun k hk=>h.2 k ((r6 hR hV hW hs).1 hk)⟩⟩
theorem Hs{s:Nat}(hs:s<g.n.toNat):fS c.es (σ s)=(fS g.es s).map (fo σ):=by
 unfold fS;refine eY (R:=fun a b:Ed=>acLt a.act b.act) (fun a=>vL _) (fun a b c=>sq) _ _ (eX (ka hW _)) (List.pairwise_map.2 (eX (ka hV _))) fun x=>?_;rw[eD,List.mem_filter,Yp];constructor
 .rintro⟨hx,hf⟩;obtain⟨y,hy,rfl⟩:=(hR.ed x).1 hx;exact⟨y,(eD _ _).2 (List.mem_filter.2 ⟨hy,decide_eq_true (fZ hR hV hW hy hs (bM hf))⟩),rfl⟩
 .rintro⟨y,hy,rfl⟩;obtain⟨hy,hf⟩:=List.mem_filter.1 ((eD _ _).1 hy);refine⟨(hR.ed _).2 ⟨y,hy,rfl⟩,decide_eq_true ?_⟩;show bR σ y.f=_;rw[bM hf];rfl
end
def lz(σ:Nat->Nat)(p:dj):dj:=⟨σ p.s,p.b,p.d⟩
def qU(σ:Nat->Nat)(q:kc):kc:=(lz σ q.1,q.2)
theorem C6{σ:Nat->Nat}{r:Int}{p:dj}{x:Ed}:dw r (lz σ p) (fo σ x)=(lz σ (dw r p x).1,(dw r p x).2):=by
 unfold dw lz fo bR;simp only[Ys];split
 .rfl
 .split<;>rfl
theorem C5{r:Int}{p:dj}{x:Ed}:(dw r p x).1.s=x.t.toNat:=by
 unfold dw;split
 .rfl
 .split<;>rfl
section
variable {g c:Gl} {σ:Nat->Nat} (hR:Ren g c σ) (hV:ae g) (hW:ae c)
include hR
theorem Di{p q:dj}(hp:p.s<g.n.toNat)(hq:q.s<g.n.toNat)(h:lz σ p=lz σ q):p=q:=by
 obtain⟨a,b,d⟩:=p;obtain⟨a',b',d'⟩:=q;unfold lz at h;obtain⟨h1,rfl,rfl⟩:=dj.mk.inj h;rw[hR.inj a a' hp hq h1]
theorem Da{r:Int}{p:dj}{path:List Ac}{Q:List kc}{F:List mH}{x:Ed}(hQ:∀q∈Q,q.1.s<g.n.toNat)(hx:x.t.toNat<g.n.toNat):
  eG r (lz σ p) path (Q.map (qU σ),F) (fo σ x)=((eG r p path (Q,F) x).1.map (qU σ),(eG r p path (Q,F) x).2)/\∀q∈(eG r p path (Q,F) x).1,q.1.s<g.n.toNat:=by
 have hm:(lz σ (dw r p x).1∈(Q.map (qU σ)).map Prod.fst) ↔ ((dw r p x).1∈Q.map Prod.fst):=by
  constructor
  .intro h;obtain⟨q',uI,e⟩:=Yp.1 h;obtain⟨q,hq,rfl⟩:=Yp.1 uI;have:=Di hR (hQ q hq) (by rw[C5];exact hx) e;exact Yp.2 ⟨q,hq,this⟩
  .intro h;obtain⟨q,hq,e⟩:=Yp.1 h;exact Yp.2 ⟨qU σ q,Yp.2 ⟨q,hq,rfl⟩,by show lz σ q.1=_;rw[e]⟩
 unfold eG;rw[C6];simp only;by_cases h:(dw r p x).1∈Q.map Prod.fst
 .rw[if_pos (hm.2 h),if_pos h];exact⟨rfl,hQ⟩
 .rw[if_neg (fun h9=>h (hm.1 h9)),if_neg h];refine⟨by rw[Ym];rfl,fun q hq=>?_⟩;rcases Yk.1 hq with hq | hq
  .exact hQ q hq
  .rw[Ye] at hq;subst hq;show (dw r p x).1.s<_;rw[C5];exact hx
theorem tu{r:Int}{p:dj}{path:List Ac}:∀ {L:List Ed} {Q:List kc} {F:List mH},(∀q∈Q,q.1.s<g.n.toNat)->(∀x∈L,x.t.toNat<g.n.toNat) ->
  (L.map (fo σ)).foldl (eG r (lz σ p) path) (Q.map (qU σ),F)=((L.foldl (eG r p path) (Q,F)).1.map (qU σ),(L.foldl (eG r p path) (Q,F)).2)/\∀q∈(L.foldl (eG r p path) (Q,F)).1,q.1.s<g.n.toNat
 | [],Q,F,hQ,_=>⟨rfl,hQ⟩
 | x::L,Q,F,hQ,hL=>by
  obtain⟨h1,h2⟩:=Da hR (r:=r) (p:=p) (path:=path) (F:=F) hQ (hL x Yx);rw[kf,List.foldl_cons,List.foldl_cons,h1];exact tu h2 fun y hy=>hL y (Yn _ hy)
include hV hW
theorem tt{r:Int}:∀(f hd:Nat) (Q:List kc) (F:List mH),(∀q∈Q,q.1.s<g.n.toNat)->jD c.es r f hd (Q.map (qU σ)) F=jD g.es r f hd Q F
 | 0,_,_,_,_=>rfl
 | f+1,hd,Q,F,hQ=>by
  unfold jD;rw[Yd];cases hq:Q[hd]? with
  | none=>rfl
  | some q=>
   have hqs:=hQ q (Yb hq);have hL:∀x∈fS g.es q.1.s,x.t.toNat<g.n.toNat:=fun x hx=>by
    have:=(j5 hV (List.mem_filter.1 ((eD _ _).1 hx)).1).2;omega
   obtain⟨h1,h2⟩:=tu hR (r:=r) (p:=q.1) (path:=q.2) (F:=F) hQ hL;show jD c.es r f (hd+1) ((fS c.es (σ q.1.s)).foldl (eG r (lz σ q.1) q.2) (Q.map (qU σ),F)).1 ((fS c.es (σ q.1.s)).foldl (eG r (lz σ q.1) q.2) (Q.map (qU σ),F)).2=jD g.es r f (hd+1) ((fS g.es q.1.s).foldl (eG r q.1 q.2) (Q,F)).1 ((fS g.es q.1.s).foldl (eG r q.1 q.2) (Q,F)).2;rw[Hs hR hV hW hqs,h1];exact tt f (hd+1) _ _ h2
theorem C7{i j:Nat}{x:Ed}(hi:g.es[i]?=some x)(hj:c.es[j]?=some (fo σ x)):fU c j=fU g i:=by
 unfold fU;rw[hi,hj];have hx:=(j5 hV (Yb hi)).2;have h:=tt hR hV hW (r:=x.b) (g.n.toNat*65536+1) 0 [(⟨x.t.toNat,2^x.b.toNat,0⟩,[])] [] (fun q hq=>by rw[Ye] at hq;subst hq;show x.t.toNat<_;omega);show jD c.es x.b (c.n.toNat*65536+1) 0 [(⟨σ x.t.toNat,2^x.b.toNat,0⟩,[])] []=_;rw[hR.n];exact h
theorem Jr{role:Int}{s:Nat}(hs:s<g.n.toNat)(n:Int)(m:Ms):(∃y∈dt c role (σ s),y.n=n/\y.m=m) ↔ (∃y∈dt g role s,y.n=n/\y.m=m):=by
 have key:∀ {i j:Nat} {x:Ed},g.es[i]?=some x->c.es[j]?=some (fo σ x)->((∃y∈iv c role j,y.n=n/\y.m=m) ↔ (∃y∈iv g role i,y.n=n/\y.m=m)):=fun {i j x} hi hj=>by
  have RC:=C7 hR hV hW hi hj;have he:dU c j=dU g i:=by unfold dU;rw[RC]
  have hp:∀m,eW c j m=eW g i m:=fun m=>by unfold eW;rw[RC]
  unfold iv;rw[aI hi,aI hj,he];show (∃y∈(if x.b=role then vB c j (dU g i) else []),_) ↔ _;by_cases hb:x.b=role
  .rw[if_pos hb,if_pos hb];unfold vB;rw[aI hi,aI hj];constructor
   .rintro⟨y,hy,e1,e2⟩;obtain⟨z,hz,rfl⟩:=Yp.1 hy;refine⟨iu g i z,Yp.2 ⟨z,hz,rfl⟩,?_,e2⟩;rw[<-e1];show 1+((eW g i z).length:Int)=1+((eW c j z).length:Int);rw[hp]
   .rintro⟨y,hy,e1,e2⟩;obtain⟨z,hz,rfl⟩:=Yp.1 hy;refine⟨iu c j z,Yp.2 ⟨z,hz,rfl⟩,?_,e2⟩;rw[<-e1];show 1+((eW c j z).length:Int)=1+((eW g i z).length:Int);rw[hp]
  .rw[if_neg hb,if_neg hb]
 unfold dt;constructor
 .rintro⟨y,hy,e⟩;obtain⟨j,hj,hy⟩:=List.mem_flatMap.1 hy;obtain⟨x',rE,hf⟩:=az.1 hj;obtain⟨x,hx,rfl⟩:=(hR.ed x').1 (Yb rE);obtain⟨i,hi⟩:=Yf.1 hx;obtain⟨z,hz,e'⟩:=(key hi rE).1 ⟨y,hy,e⟩;exact⟨z,List.mem_flatMap.2 ⟨i,az.2 ⟨x,hi,fZ hR hV hW hx hs hf⟩,hz⟩,e'⟩
 .rintro⟨y,hy,e⟩;obtain⟨i,hi,hy⟩:=List.mem_flatMap.1 hy;obtain⟨x,hx,hf⟩:=az.1 hi;obtain⟨j,hj⟩:=Yf.1 ((hR.ed _).2 ⟨x,Yb hx,rfl⟩);obtain⟨z,hz,e'⟩:=(key hx hj).2 ⟨y,hy,e⟩;refine⟨z,List.mem_flatMap.2 ⟨j,az.2 ⟨_,hj,?_⟩,hz⟩,e'⟩;show bR σ x.f=_;rw[hf];rfl
end
theorem FL{K:List Ev}{L L':List fk}(h:∀n m,(∃y∈L',y.n=n/\y.m=m) ↔ (∃y∈L,y.n=n/\y.m=m)):(bX K L').map (·.n)=(bX K L).map (·.n):=by
 have key:∀ {L L':List fk},(∀n m,(∃y∈L',y.n=n/\y.m=m)->(∃y∈L,y.n=n/\y.m=m))->∀y,bX K L'=some y->∃z,bX K L=some z/\z.n<=y.n:=fun {L L'} h y hy=>by
  obtain⟨h1,h2⟩:=kV hy;obtain⟨z,hz,e1,e2⟩:=h _ _ ⟨y,h1,rfl,rfl⟩;obtain⟨b,hb,IH⟩:=zI L none z hz (by rw[e2];exact h2);exact⟨b,hb,by omega⟩
 have k1:=key (L:=L) (L':=L') fun n m=>(h n m).1;have k2:=key (L:=L') (L':=L) fun n m=>(h n m).2;cases e:bX K L' with
 | none=>
  cases e2:bX K L with
  | none=>rfl
  | some z=>obtain⟨y,hy,_⟩:=k2 z e2;rw[e] at hy;cases hy
 | some y=>
  obtain⟨z,hz,h1⟩:=k1 y e;obtain⟨y',uD,h2⟩:=k2 z hz;rw[e] at uD;cases uD;rw[hz];show some y.n=some z.n;rw[show y.n=z.n by omega]
theorem uk{g:Gl}(hT:vQ g){role:Int}{s:Nat}{t:To}(ht:t∈g.ts)(hs:t.s=(s:Int)):cx g role g.ts s=jo g role t:=by
 unfold cx;have:∀(l:List To) (b:Lm),(∀u∈l,u∈g.ts)->(t∈l\/b=jo g role t)->l.foldl (fun b t=>if t.s=(s:Int) then jo g role t else b) b=jo g role t:=by
  intro l
  induction l with
  | nil=>intro b _ h;rcases h with h | h;cases h;exact h
  | cons u l ih=>
   intro b hu h;rw[List.foldl_cons];refine ih _ (fun v hv=>hu v (Yn _ hv)) ?_;by_cases e:u.s=(s:Int)
   .have:=s9 hT (hu u Yx) ht (by rw[e,hs]);subst this;rw[if_pos e];exact .inr rfl
   .rw[if_neg e];rcases h with h | h
    .rcases Yr.1 h with rfl | h
     .exact absurd hs e
     .exact .inl h
    .exact .inr h
 exact this g.ts xh (fun u hu=>hu) (.inl ht)
theorem uj{g:Gl}{role:Int}{s:Nat}(h:∀t∈g.ts,t.s≠(s:Int)):cx g role g.ts s=xh:=by
 unfold cx;have:∀(l:List To),(∀u∈l,u.s≠(s:Int))->l.foldl (fun b t=>if t.s=(s:Int) then jo g role t else b) xh=xh:=by
  intro l
  induction l with
  | nil=>intro _;rfl
  | cons u l ih=>
   intro hu;rw[List.foldl_cons,if_neg (hu u Yx)];exact ih fun v hv=>hu v (Yn _ hv)
 exact this g.ts h
section
variable {g c:Gl} {σ:Nat->Nat} (hR:Ren g c σ) (hV:ae g) (hW:ae c) {role:Int}
include hR hV hW
theorem y5{s:Nat}(hs:s<g.n.toNat):cx c role c.ts (σ s)=cx g role g.ts s:=by
 by_cases h:∃u∈g.ts,u.s=(s:Int)
 .obtain⟨u,hu,hus⟩:=h;obtain⟨t,ht,mW,Lu,z,hz,nX⟩:=hR.tj u hu;rw[uk hV.Hn hu hus,uk hW.Hn ht (s:=σ s) (by rw[mW,hus];rfl)];unfold jo;rw[Lu,aI hz,aI nX,CF]
 .rw[uj fun u hu e=>h ⟨u,hu,e⟩,uj fun t ht e=>?_];obtain⟨u,hu,mW,_⟩:=hR.ti t ht;have hur:=CP hV hu;refine h ⟨u,hu,?_⟩;rw[mW] at e;exact dA hR hur (by omega) e
theorem FW{s:Nat}(hs:s<g.n.toNat):du c.es (σ s)=du g.es s:=by
 rw[Bool.eq_iff_iff];unfold du;rw[List.any_eq_true,List.any_eq_true];constructor
 .rintro⟨x,hx,h⟩;obtain⟨y,hy,rfl⟩:=(hR.ed x).1 hx;rw[Yt,decide_eq_true_eq] at h;exact⟨y,hy,by rw[Yt,decide_eq_true_eq];exact⟨fZ hR hV hW hy hs h.1,h.2⟩⟩
 .rintro⟨y,hy,h⟩;rw[Yt,decide_eq_true_eq] at h;refine⟨_,(hR.ed _).2 ⟨y,hy,rfl⟩,?_⟩;rw[Yt,decide_eq_true_eq];exact⟨by show bR σ y.f=_;rw[h.1];rfl,h.2⟩
theorem Dr{s:Nat}(hs:s<g.n.toNat):cW c.es role (σ s)=cW g.es role s:=by
 rw[Bool.eq_iff_iff];unfold cW;rw[List.any_eq_true,List.any_eq_true];constructor
 .rintro⟨x,hx,h⟩;obtain⟨y,hy,rfl⟩:=(hR.ed x).1 hx;rw[Yt,decide_eq_true_eq] at h;exact⟨y,hy,by rw[Yt,decide_eq_true_eq];exact⟨fZ hR hV hW hy hs h.1,h.2⟩⟩
 .rintro⟨y,hy,h⟩;rw[Yt,decide_eq_true_eq] at h;refine⟨_,(hR.ed _).2 ⟨y,hy,rfl⟩,?_⟩;rw[Yt,decide_eq_true_eq];exact⟨by show bR σ y.f=_;rw[h.1];rfl,h.2⟩
theorem Na{s t:Nat}(hs:s<g.n.toNat)(ht:t<g.n.toNat):Jm c role (σ s) (σ t) ↔ Jm g role s t:=by
 unfold Jm JA;have h1:σ s<c.n.toNat:=by rw[hR.n];exact hR.r s hs
 have h2:σ t<c.n.toNat:=by rw[hR.n];exact hR.r t ht
 rw[cR _ h1,cR _ h2,cR _ h1,cR _ h2,cR _ h1,cR _ h2,cR _ hs,cR _ ht,cR _ hs,cR _ ht,cR _ hs,cR _ ht,y5 hR hV hW hs,y5 hR hV hW ht,FW hR hV hW hs,FW hR hV hW ht,Dr hR hV hW hs,Dr hR hV hW ht]
theorem Jc(kind:Int){p:Pr}(h1:p.1<g.n.toNat)(h2:p.2<g.n.toNat):cM c role kind (σ p.1,σ p.2)=cM g role kind p:=by
 have r1:σ p.1<c.n.toNat:=by rw[hR.n];exact hR.r _ h1
 have r2:σ p.2<c.n.toNat:=by rw[hR.n];exact hR.r _ h2
 have f1:=(lL hR hV hW (role:=role) h1).1;have f2:=(lL hR hV hW (role:=role) h2).1;have a1:((σ p.1,σ p.2):Pr).1<c.n.toNat/\((σ p.1,σ p.2):Pr).2<c.n.toNat:=⟨r1,r2⟩;have a2:p.1<g.n.toNat/\p.2<g.n.toNat:=⟨h1,h2⟩;unfold cM;by_cases k1:kind=1
 .rw[if_pos k1,if_pos k1,if_pos a1,if_pos a2];show (if ((aH c role ((σ p.1:Nat):Int)).find? (fw (aH c role ((σ p.2:Nat):Int)))).isSome=true then some 0 else none)=_;rw[f1,f2]
 .rw[if_neg k1,if_neg k1];by_cases k3:kind=3
  .rw[if_pos k3,if_pos k3];have:=Na hR hV hW (role:=role) h1 h2;by_cases hc:Jm g role p.1 p.2
   .rw[if_pos hc,if_pos (this.2 hc)]
   .rw[if_neg hc,if_neg (fun h9=>hc (this.1 h9))]
  .rw[if_neg k3,if_neg k3,if_pos a1,if_pos a2];show (bX (aH c role ((σ p.2:Nat):Int)) (dt c role (σ p.1))).map (·.n)=_;rw[f2];exact FL (Jr hR hV hW h1)
theorem MV(kind:Int){p:Pr}{n:Nat}(h1:p.1<g.n.toNat)(h2:p.2<g.n.toNat):Dn (cO c role) (eP c role kind) (σ p.1,σ p.2) n ↔ Dn (cO g role) (eP g role kind) p n:=by
 have hq:∀ {p:Pr},p.1<g.n.toNat->p.2<g.n.toNat->eP c role kind (σ p.1,σ p.2)=eP g role kind p:=fun h1 h2=>by unfold eP;rw[Jc hR hV hW kind h1 h2]
 constructor
 .intro h;generalize pz:((σ p.1,σ p.2):Pr)=p' at h
  induction h generalizing p with
  | base hc=>subst pz;exact .base (by rw[<-hq h1 h2];exact hc)
  | @step p' m n hm _ ih=>
   subst pz;have key:∃m'∈cO g role p,((σ (bp m').1,σ (bp m').2):Pr)=bp m/\bu m'=bu m:=by
    rcases uc (g:=c) hm with ⟨x',rE,hv,hf,e1,e2⟩ | ⟨x',rE,hv,hf,e1,e2⟩ | ⟨x',rE,y',uD,e,Rx,Rv,Zd,Sf,e1,e2⟩
    .obtain⟨x,hx,rfl⟩:=(hR.ed x').1 rE;obtain⟨m',gL,e3,e4⟩:=DK (s:=p.1) (t:=p.2) hx hv (fZ hR hV hW hx h1 hf);exact⟨m',gL,by rw[e1,e3];rfl,by rw[e2,e4]⟩
    .obtain⟨x,hx,rfl⟩:=(hR.ed x').1 rE;obtain⟨m',gL,e3,e4⟩:=DM (s:=p.1) (t:=p.2) hx hv (fZ hR hV hW hx h2 hf);exact⟨m',gL,by rw[e1,e3];rfl,by rw[e2,e4]⟩
    .obtain⟨x,hx,rfl⟩:=(hR.ed x').1 rE;obtain⟨y,hy,rfl⟩:=(hR.ed y').1 uD;obtain⟨m',gL,e3,e4⟩:=DN (s:=p.1) (t:=p.2) hx hy Rx Rv (fZ hR hV hW hx h1 Zd) (fZ hR hV hW hy h2 Sf);exact⟨m',gL,by rw[e1,e3];rfl,by rw[e2,e4]⟩
   obtain⟨m',gL,e1,e2⟩:=key;have sR:=jO hV (p:=p) (by omega) gL;rw[<-e2];exact .step gL (ih (p:=bp m') (by omega) (by omega) e1)
 .intro h
  induction h with
  | base hc=>exact .base (by rw[hq h1 h2];exact hc)
  | @step p m n hm _ ih=>
   have sR:=jO hV (p:=p) (by omega) hm;have key:∃m'∈cO c role (σ p.1,σ p.2),bp m'=(σ (bp m).1,σ (bp m).2)/\bu m'=bu m:=by
    rcases uc hm with ⟨x,hx,hv,hf,e1,e2⟩ | ⟨x,hx,hv,hf,e1,e2⟩ | ⟨x,hx,y,hy,e,Rx,Rv,Zd,Sf,e1,e2⟩
    .obtain⟨m',gL,e3,e4⟩:=DK (g:=c) (role:=role) (s:=σ p.1) (t:=σ p.2) ((hR.ed _).2 ⟨x,hx,rfl⟩) hv (by show bR σ x.f=_;rw[hf];rfl);exact⟨m',gL,by rw[e1,e3];rfl,by rw[e2,e4]⟩
    .obtain⟨m',gL,e3,e4⟩:=DM (g:=c) (role:=role) (s:=σ p.1) (t:=σ p.2) ((hR.ed _).2 ⟨x,hx,rfl⟩) hv (by show bR σ x.f=_;rw[hf];rfl);exact⟨m',gL,by rw[e1,e3];rfl,by rw[e2,e4]⟩
    .obtain⟨m',gL,e3,e4⟩:=DN (g:=c) (role:=role) (s:=σ p.1) (t:=σ p.2) ((hR.ed _).2 ⟨x,hx,rfl⟩) ((hR.ed _).2 ⟨y,hy,rfl⟩) Rx Rv (by show bR σ x.f=_;rw[Zd];rfl) (by show bR σ y.f=_;rw[Sf];rfl);exact⟨m',gL,by rw[e1,e3];rfl,by rw[e2,e4]⟩
   obtain⟨m',gL,e1,e2⟩:=key;rw[<-e2];exact .step gL (by rw[e1];exact ih (by omega) (by omega))
theorem rz(kind:Int){n:Nat}:lh (cO c role) (eP c role kind) (gh c) n ↔ lh (cO g role) (eP g role kind) (gh g) n:=by
 have hN:=hV.num.n;have hs:g.s.toNat<g.n.toNat:=by omega
 have e:gh c=(σ (gh g).1,σ (gh g).2):=by unfold gh;rw[hR.s];rfl
 have h:=fun k=>MV hR hV hW (role:=role) kind (p:=gh g) (n:=k) hs hs;unfold lh;rw[e,h];exact⟨fun h9=>⟨h9.1,fun k hk=>h9.2 k ((h k).2 hk)⟩,fun h9=>⟨h9.1,fun k hk=>h9.2 k ((h k).1 hk)⟩⟩
theorem sh{kind:Int}{W W':WS}{n n':Int}(h:lj g role kind W n)(h':lj c role kind W' n'):n=n'/\W.k=W'.k/\W.r=W'.r:=by
 cases h with
 | gJ hn=>
  cases h' with
  | gJ=>exact⟨rfl,rfl,rfl⟩
  | hit hl=>exact absurd ((rz hR hV hW kind).1 hl) (hn _)
 | hit hl=>
  cases h' with
  | gJ hn=>exact absurd ((rz hR hV hW kind).2 hl) (hn _)
  | hit k6=>exact⟨by rw[hl.uniq ((rz hR hV hW kind).1 k6)],rfl,rfl⟩
theorem H3{W W':WS}{n n':Int}(h:sZ g role W n)(h':sZ c role W' n'):n=n'/\W.k=W'.k/\W.r=W'.r:=by
 have hN:=hV.num.n;have hs:g.s.toNat<g.n.toNat:=by omega
 have e:c.s.toNat=σ g.s.toNat:=by rw[hR.s];rfl
 cases h with
 | gJ hn=>
  cases h' with
  | gJ=>exact⟨rfl,rfl,rfl⟩
  | hit hl=>rw[e] at hl;exact absurd ((nR hR hV hW hs).1 hl).1 (hn _)
 | hit hl=>
  cases h' with
  | gJ hn=>exact absurd (by rw[e];exact ((nR hR hV hW hs).2 hl).1) (hn _)
  | hit k6=>rw[e] at k6;exact⟨by rw[hl.uniq ((nR hR hV hW hs).1 k6)],rfl,rfl⟩
theorem lM:∀ {i:Nat} {W W':WS} {n n':Int},bG g role i W n->bG c role i W' n'->n=n'/\W.k=W'.k/\W.r=W'.r:=by
 have hk:∀ {i:Nat} {W W':WS} {n n':Int},kB g role i W n->kB c role i W' n'->n=n'/\W.k=W'.k/\W.r=W'.r:=fun {i W W' n n'} h h'=>
  match i,h,h' with
  | 0,h,h'=>sh hR hV hW h h'
  | 1,h,h'=>H3 hR hV hW h h'
  | 2,h,h'=>sh hR hV hW h h'
  | _+3,h,h'=>sh hR hV hW h h'
 intro i W W' n n' h
 induction h generalizing W' n' with
 | zero=>intro h';cases h';exact⟨rfl,rfl,rfl⟩
 | take _ BA hl ih=>
  intro h';cases h' with
  | take h2 dV gM=>exact hk BA dV
  | bH h2 dV gM=>
   have a:=ih h2;have b:=hk BA dV;exact absurd (by rw[<-a.1,<-b.1];exact hl) gM
 | bH _ BA hl ih=>
  intro h';cases h' with
  | take h2 dV gM=>
   have a:=ih h2;have b:=hk BA dV;exact absurd (by rw[a.1,b.1];exact gM) hl
  | bH h2 dV gM=>exact ih h2
omit role in
theorem Fx:∀ {i:Nat} {W W':WS} {n n':Int},lW g i W n->lW c i W' n'->n=n'/\W.k=W'.k/\W.r=W'.r:=by
 intro i W W' n n' h
 induction h generalizing W' n' with
 | zero=>intro h';cases h';exact⟨rfl,rfl,rfl⟩
 | take _ hF hl ih=>
  intro h';cases h' with
  | take h2 hF2 gM=>exact lM hR hV hW hF hF2
  | bH h2 hF2 gM=>
   have a:=ih h2;have b:=lM hR hV hW hF hF2;exact absurd (by rw[<-a.1,<-b.1,<-a.2.1,<-b.2.1];exact hl) gM
 | bH _ hF hl ih=>
  intro h';cases h' with
  | take h2 hF2 gM=>
   have a:=ih h2;have b:=lM hR hV hW hF hF2;exact absurd (by rw[a.1,b.1,a.2.1,b.2.1];exact gM) hl
  | bH h2 hF2 gM=>exact ih h2
end
end Go.VC
end

section
namespace Go.VC
open Go.Proofs Go.LexS
theorem Jn{g c:Gl}{σ:Nat->Nat}(hR:Ren g c σ)(hV:ae g)(hW:ae c){W W':WS}{e e':Int}(h:ChQ g W e)(h':ChQ c W' e'):e=e'/\W.k=W'.k/\W.r=W'.r/\W.len=W'.len/\W.len<=8388608:=by
 rcases h with ⟨h1,_⟩ | ⟨_,n,hF,rfl⟩
 .exact absurd hV h1
 .rcases h' with ⟨h1,_⟩ | ⟨_,n',OS,rfl⟩
  .exact absurd hW h1
  .rw[hR.rs] at OS;obtain⟨rfl,h2,h3⟩:=Fx hR hV hW hF OS;refine⟨rfl,h2,h3,?_⟩;have l0:oS.len=0:=rfl;rcases hF.len.1 with h | h
   .rcases OS.len.1 with h' | h'
    .rw[h.2,h'.2,l0];exact⟨rfl,by omega⟩
    .have:=h.1;have:=h'.2;unfold a7 at *;omega
   .rcases OS.len.1 with h' | h'
    .have:=h.2;have:=h'.1;unfold a7 at *;omega
    .have:=h.1;have:=h'.1;have:=h.2;omega
theorem nB(g:Gl)(h:Heap)(hg:GI h g)(hx:Gm h)(hM:Wq g.ds):Fn Pz 10 #[g.v] h fun v h'=>v=.bool true/\Ext h h':=by
 apply Xs (bs g.nm) g.hr g.hd g.n g.s g.e g.he g.ht;unfold W10;refine (St.refl h).aq fun h9 hs=>?_;refine (Jq h9 (hx.ext hs.ext)).mono ?_;rintro _ SN ⟨rfl,E⟩;have hs:=hs.step E;refine⟨true,rfl,iX rfl ?_⟩;refine⟨_,_,_,_,_,_,_,_,hs.at 0 rfl (o:=0) (n:=8) rfl,?_⟩;refine (S6 g SN (hg.ext hs.ext)).mono ?_;rintro _ qt ⟨rfl,E⟩;have hs:=hs.step E;refine⟨_,rfl,aa (fun _=>⟨rfl,hs.ext⟩) (fun _=>?_)⟩;refine⟨_,_,_,_,_,_,_,_,hs.at 0 rfl (o:=0) (n:=8) rfl,?_⟩;refine (wE g qt (hg.ext hs.ext) hM).mono ?_;rintro _ mm ⟨⟨b,rfl,hb⟩,E⟩;have hs:=hs.step E;refine⟨b,rfl,aa (fun _=>⟨rfl,hs.ext⟩) (fun cb=>?_)⟩;have hV:ae g:=hb.1 (by simpa using cb);refine⟨_,_,_,_,_,_,_,_,hs.at 0 rfl (o:=0) (n:=8) rfl,?_⟩;refine (vu g mm (hg.ext hs.ext) (hx.ext hs.ext) hV).mono ?_;rintro _ Mo ⟨c,rfl,E,hgc,hC⟩;have hs:=hs.step E;obtain⟨σ,hR,hW⟩:=Jo hV hC;refine⟨bs c.nm,c.hr,c.hd,c.n,c.s,c.e,c.he,c.ht,0,rfl,?_⟩;have kg:a8 Mo ⟨h.size,0,none⟩ g.cs:=hs.at 0 rfl (o:=0) (n:=8) rfl;have Wr:=hs.ext;clear hs;refine (St.refl Mo).ai (vs:=c.cs) rfl rfl fun OX hs=>?_;refine⟨_,_,_,_,_,_,_,_,FK hs.ext kg,?_⟩;refine (vt g OX (hg.ext (Wr.trans hs.ext)) (hx.ext (Wr.trans hs.ext))).mono ?_;rintro _ h80 ⟨W,e,hQ,w,a1,a2,a3,a4,rfl,Jy,jW⟩;refine⟨w.k,w.r,w.f,w.s,w.e.r,w.e.s,w.e.p,w.e.l,aB,w.o.r,w.o.s,w.o.p,w.o.l,aB,e,rfl,?_⟩;have R8:=(nh (W:=W) jW a1).1;have hs:=hs.join jW;refine hs.ai (vs:=w.cs) rfl rfl fun h82 hs=>?_;refine⟨_,_,_,_,_,_,_,_,hs.at 1 rfl (o:=0) (n:=8) rfl,?_⟩;refine (vt c h82 (hgc.ext hs.ext) (hx.ext (Wr.trans hs.ext))).mono ?_;rintro _ SO ⟨W',e',hQ',w',b1,b2,b3,b4,rfl,pK,cp⟩;refine⟨w'.k,w'.r,w'.f,w'.s,w'.e.r,w'.e.s,w'.e.p,w'.e.l,aB,w'.o.r,w'.o.s,w'.o.p,w'.o.l,aB,e',rfl,?_⟩;have gM:=(nh (W:=W') cp b1).1;have hs:=hs.join cp;refine hs.ai (vs:=w'.cs) rfl rfl fun BJ hs=>?_;obtain⟨q1,q2,q3,q4,q5⟩:=Jn hR hV hW hQ hQ';refine eh (fun _=>eh (fun _=>?_) (fun c9=>absurd q1 c9)) (fun c9=>absurd rfl c9);refine⟨w.k,hs.rd 1 rfl (i:=0) rfl,w'.k,hs.rd 0 rfl (i:=0) rfl,eh (fun _=>?_) (fun c9=>absurd (by rw[a1,b1,q2]) c9)⟩;refine⟨w.r,hs.rd 1 rfl (i:=1) rfl,w'.r,hs.rd 0 rfl (i:=1) rfl,eh (fun _=>?_) (fun c9=>absurd (by rw[a2,b2,q3]) c9)⟩;refine⟨w.k,w.r,w.f,w.s,w.e.r,w.e.s,w.e.p,w.e.l,aB,w.o.r,w.o.s,w.o.p,w.o.l,aB,hs.at 1 rfl (o:=0) (n:=14) rfl,w'.k,w'.r,w'.f,w'.s,w'.e.r,w'.e.s,w'.e.p,w'.e.l,aB,w'.o.r,w'.o.s,w'.o.p,w'.o.l,aB,hs.at 0 rfl (o:=0) (n:=14) rfl,?_⟩;refine (um w BJ (by omega)).mono ?_;rintro _ pG ⟨rfl,X⟩;refine⟨_,rfl,X.sm,?_⟩;refine (um w' pG (by omega)).mono ?_;rintro _ acE ⟨rfl,X2⟩;refine⟨_,rfl,X2.sm,?_,Wr.trans ((hs.step X).step X2).ext⟩;rw[show w.len=w'.len by omega,beq_self_eq_true]
end Go.VC
end

section
namespace Go.VC
open Go.Proofs Go.LexS Go.RowKit Go.ChangeShapes Go.WideShapes Go.Proofs.YtajglkbckhgboaaGreatDoor
theorem FA{H:Type}(d:DataW H):1<=Rows.uptoBulk d:=by
 cases d with
 | lit l=>cases l<;>simp[Rows.uptoBulk]
 | _=>simp[Rows.uptoBulk]
theorem iT{H:Type}:∀ {l:List (DataW H)} {d:DataW H},d∈l->Rows.uptoBulk d<=Rows.uptoBulkAll l
 | [],_,h=>by cases h
 | x::r,d,h=>by
  rw[Rows.uptoBulkAll];rcases Yr.1 h with rfl | h
  .omega
  .have:=iT h;omega
theorem vx{H:Type}:∀l:List (DataW H),l.length<=Rows.uptoBulkAll l
 | []=>by simp
 | x::r=>by
  have h1:=FA x;have h2:=vx r;rw[Rows.uptoBulkAll,mD];omega
def ji(P:Program)(W:World)(t:TypeId)(cs:List Value):Prop:=
 ∃(H:Type) (enc:TypeId × Value->H) (n:Nat) (x:DataW H × List MemPlace),DataW.trod enc P W 0 (fun _=>true) true n t cs=some x/\Rows.uptoBulk x.1<=1048576
theorem ji.qW{P:Program}{W:World}{t:TypeId}{cs:List Value}(h:ji P W t cs):sC P W t cs:=by
 obtain⟨H,enc,n,x,h1,_⟩:=h;exact⟨H,enc,n,x,h1⟩
theorem tE{H:Type}{enc:TypeId × Value->H}{P:Program}{W:World}{t:TypeId}{v:Value}{d:DataW H}{p:List MemPlace}(h:DataW.Trod enc P W 0 (fun _=>true) true t v d p)(hw:Rows.uptoBulk d<=1048576):ji P W t v.cells.toList:=by
 obtain⟨n,h⟩:=h;exact⟨H,enc,n,_,h,hw⟩
theorem ji.field{P:Program}{W:World}{t ft:TypeId}{cs:List Value}{i off:Nat}(h:ji P W t cs)(hf:fieldAt P t i=some (ft,off)):ji P W ft ((cs.drop off).take (P.cellsOf ft)):=by
 unfold fieldAt at hf;split at hf
 .rename_i fs hu;obtain⟨f,h1,h2⟩:=zL.1 hf;cases h2;obtain⟨H,enc,n,x,h,hw⟩:=h;obtain⟨xs,m,_,hx,hl,Ck,bO⟩:=DataW.trod_struct hu h;have cG:i<xs.length:=by rw[Ck];exact (wo.1 h1).1
  refine⟨H,enc,m,xs[i],by rw[bO i f h1,Yi cG],?_⟩;rw[hx,Rows.uptoBulk] at hw;have:=iT (l:=xs.map (·.1)) (d:=xs[i].1) (Yp.2 ⟨xs[i],List.getElem_mem cG,rfl⟩);omega
 .cases hf
theorem ji.rows{P:Program}{W:World}{t e:TypeId}{cs:List Value}(ht:P.underlying t=some (.slice e))(h:ji P W t cs)(fq:0<P.cellsOf e):
  ∃(s:Sl) (rows:List (List Value)),cs=[.slice s.a s.n s.c]/\s.n<=s.c/\s.n<=1048576/\(s.a=none->s.n=0/\s.c=0)/\Rw W.heap (P.cellsOf e) s rows/\∀r∈rows,r.length=P.cellsOf e/\ji P W e r:=by
 obtain⟨H,enc,n,x,h,hw⟩:=h;rcases DataW.trod_slice ht h with ⟨rfl,_⟩ | ⟨a,len,cap,elems,rest,m,_,rfl,hx,_,R7,zm,Zh,Sj,_,_⟩
 .exact⟨⟨none,0,0⟩,[],rfl,aY _,Nat.zero_le _,fun _=>⟨rfl,rfl⟩,Rw.nil,fun r hr=>by cases hr⟩
 .rw[hx,Rows.uptoBulk] at hw;have hle:len<=1048576:=by
   have:=vx (elems.map (·.1));rw[Yc] at this;omega
  have hwe:∀(i:Nat) (hi:i<elems.length),Rows.uptoBulk elems[i].1<=1048576:=fun i hi=>by
   have:=iT (l:=elems.map (·.1)) (d:=elems[i].1) (Yp.2 ⟨elems[i],List.getElem_mem hi,rfl⟩);omega
  by_cases h0:len=0
  .subst h0;exact⟨⟨some a,0,cap⟩,[],rfl,R7,hle,fun e=>(by cases e),Rw.empty rfl,fun r hr=>by cases hr⟩
  .have dq:∀i,i<len->∃r,W.cells? 0 (a.add (i*P.cellsOf e)) (P.cellsOf e)=some r/\ji P W e r:=by
    intro i hi;have h1:=Sj i hi;rw[Yi (by omega)] at h1;obtain⟨r,hr,rD⟩:=Option.bind_eq_some_iff.1 h1;exact⟨r,hr,H,enc,m,_,rD,hwe i (by omega)⟩
   let row:Nat->List Value:=fun i=>(W.cells? 0 (a.add (i*P.cellsOf e)) (P.cellsOf e)).getD []
   have Ef:∀i,i<len->W.cells? 0 (a.add (i*P.cellsOf e)) (P.cellsOf e)=some (row i)/\ji P W e (row i):=fun i hi=>by
    obtain⟨r,hr,hx⟩:=dq i hi;have:row i=r:=by show (W.cells? 0 _ _).getD []=r;rw[hr];rfl
    rw[this];exact⟨hr,hx⟩
   have jf:∀i,i<len->((List.range len).map row)[i]?=some (row i):=fun i hi=>by
    rw[Yd,xX hi];rfl
   have Ka:a=⟨a.block,a.off,none⟩:=by
    have hc:=(oq (Ef 0 (by omega)).1);have oI:0<(row 0).length:=by rw[hc.1];exact fq
    have:=hc.2 0 _ (Yi oI);rw[Nat.zero_mul,show (a.add 0).add 0=a from rfl] at this;unfold World.cell? at this;split at this
    .split at this
     .cases this
     .rename_i hs;cases a with
      | mk b o s=>
       cases s with
       | none=>rfl
       | some s=>exact absurd rfl hs
    .cases this
   refine⟨⟨some a,len,cap⟩,(List.range len).map row,rfl,R7,hle,fun e=>(by cases e),⟨by simp,fun _=>⟨a.block,a.off,by rw[<-Ka],fun i r hi j v hj=>?_⟩⟩,fun r hr=>?_⟩
   .have wh:i<len:=by have:=(Ya.1 hi).1;simpa using this
    rw[jf i wh] at hi;cases hi;have h4:=(oq (Ef i wh).1).2 _ _ hj;rw[Ka] at h4;have e:((⟨a.block,a.off,none⟩:Addr).add (i*P.cellsOf e)).add j=ef ⟨a.block,a.off+i*P.cellsOf e,none⟩ j:=by
     rw[ee,zK,zK]
    rw[e] at h4;exact h4
   .obtain⟨i,hi,rfl⟩:=Yp.1 hr;have:=Ef i (List.mem_range.1 hi);exact⟨(oq this.1).1,this.2⟩
theorem ji.list{α:Type}{P:Program}{W:World}{t e:TypeId}{k:Nat}{v:Value}{cs:α->List Value}{Q:α->Prop}(ht:P.underlying t=some (.slice e))(hk:P.cellsOf e=k)(fq:0<k)
  (ho:∀r,ji P W e r->∃x,r=cs x/\Q x) (h:ji P W t [v]):∃(s:Sl) (L:List α),v=.slice s.a s.n s.c/\RL W.heap k s cs L/\∀x∈L,Q x:=by
 subst hk;obtain⟨s,rows,e1,hc,hm,Ek,kF,hr⟩:=h.rows ht fq;have key:∀rows:List (List Value),(∀r∈rows,r.length=P.cellsOf e/\ji P W e r)->∃L:List α,rows=L.map cs/\∀x∈L,Q x:=by
  intro rows
  induction rows with
  | nil=>intro _;exact⟨[],rfl,fun x hx=>by cases hx⟩
  | cons r rows ih=>
   intro h;obtain⟨x,hx,hq⟩:=ho r (h r (by simp)).2;obtain⟨L,hL,hQ⟩:=ih fun y hy=>h y (Yn _ hy);exact⟨x::L,by rw[hx,hL];rfl,fun y hy=>by rcases Yr.1 hy with rfl | hy;exact hq;exact hQ y hy⟩
 obtain⟨L,rfl,hQ⟩:=key rows hr;have hn:=kF.ln;exact⟨s,L,by simpa using e1,⟨kF,hc,Ek,by omega⟩,hQ⟩
theorem v3:Pz.underlying 3=some (.int .i64):=by kernel_rfl
theorem v4b:Pz.underlying 4=some .bool:=by kernel_rfl
theorem v9:Pz.underlying 9=some .string:=by kernel_rfl
theorem O5:Pz.cellsOf 3=1:=by kernel_rfl
theorem cz4:Pz.cellsOf 4=1:=by kernel_rfl
theorem Wh:Pz.cellsOf 9=1:=by kernel_rfl
theorem aan:Pz.cellsOf 22=1:=by kernel_rfl
theorem aam:Pz.cellsOf 23=1:=by kernel_rfl
theorem aal:Pz.cellsOf 24=1:=by kernel_rfl
theorem aak:Pz.cellsOf 25=1:=by kernel_rfl
theorem aaj:Pz.cellsOf 27=8:=by kernel_rfl
theorem Tr:Pz.cellsOf 65=3:=by kernel_rfl
theorem Tq:Pz.cellsOf 67=6:=by kernel_rfl
theorem Tp:Pz.cellsOf 149=3:=by kernel_rfl
theorem Tw:Pz.cellsOf 166=1:=by kernel_rfl
theorem Tv:Pz.cellsOf 167=1:=by kernel_rfl
theorem Tu:Pz.cellsOf 49=1:=by kernel_rfl
theorem Tt:Pz.cellsOf 169=2:=by kernel_rfl
theorem KG:Pz.cellsOf 171=5:=by kernel_rfl
theorem Ts:Pz.cellsOf 258=3:=by kernel_rfl
theorem KF:Pz.cellsOf 260=4:=by kernel_rfl
theorem KE:Pz.cellsOf 263=3:=by kernel_rfl
theorem KD:Pz.cellsOf 52=2:=by kernel_rfl
theorem WE:Pz.underlying 22=some (.slice 9):=by kernel_rfl
theorem WD:Pz.underlying 23=some (.slice 171):=by kernel_rfl
theorem WC:Pz.underlying 24=some (.slice 67):=by kernel_rfl
theorem WB:Pz.underlying 25=some (.slice 149):=by kernel_rfl
theorem Pk:Pz.underlying 166=some (.slice 260):=by kernel_rfl
theorem Pj:Pz.underlying 167=some (.slice 263):=by kernel_rfl
theorem Ph:Pz.underlying 49=some (.slice 52):=by kernel_rfl
theorem QV:Pz.underlying 52=some (.array 2 3):=by kernel_rfl
theorem ji.str{P:Program}{W:World}{t:TypeId}{cs:List Value}(ht:P.underlying t=some .string)(h:ji P W t cs):∃s:ByteArray,cs=[.string s]/\s.size<=1048576:=by
 obtain⟨H,enc,n,x,h,hw⟩:=h;obtain⟨m,h1,hx,_⟩:=DataW.trod_string ht h;refine⟨m,h1,?_⟩;rw[hx,Rows.uptoBulk] at hw;have e:m.data.toList.length=m.size:=rfl;omega
theorem AX{W:World}{r:List Value}(h:ji Pz W 9 r):∃x:Nm,r=oE x/\True:=by
 obtain⟨s,e,_⟩:=h.qW.str v9;exact⟨s.data.toList,by rw[e];rfl,trivial⟩
theorem wJ{W:World}{r:List Value}(h:ji Pz W 260 r):∃x:jx,r=x.cs/\True:=by
 have hl:=h.qW.ET (i:=0) (ft:=9) (off:=0) (by kernel_rfl);rw[KF] at hl
 match r,hl with
 | [x0,x1,x2,x3],_=>
  have f0:=h.qW.field (i:=0) (ft:=9) (off:=0) (by kernel_rfl);have f1:=h.qW.field (i:=1) (ft:=258) (off:=1) (by kernel_rfl);rw[Wh] at f0;rw[Ts] at f1;have g0:=f1.field (i:=0) (ft:=3) (off:=0) (by kernel_rfl);have g1:=f1.field (i:=1) (ft:=3) (off:=1) (by kernel_rfl);have g2:=f1.field (i:=2) (ft:=3) (off:=2) (by kernel_rfl);rw[O5] at g0 g1 g2;obtain⟨s,e0,_⟩:=f0.str v9;obtain⟨k1,e1,_⟩:=g0.int v3;obtain⟨k2,e2,_⟩:=g1.int v3;obtain⟨k3,e3,_⟩:=g2.int v3;simp only[List.drop_zero,List.take_succ_cons,sX,List.drop_succ_cons,List.cons.injEq,and_true] at e0 e1 e2 e3;subst e0 e1 e2 e3;exact⟨⟨s.data.toList,k1,k2,k3⟩,rfl,trivial⟩
theorem jP{W:World}{t:TypeId}{r:List Value}(hc:Pz.cellsOf t=3)(h0:fieldAt Pz t 0=some (3,0))(h1:fieldAt Pz t 1=some (3,1))(h2:fieldAt Pz t 2=some (3,2))(h:sC Pz W t r):
  ∃a b c:Int,r=[.int .i64 a,.int .i64 b,.int .i64 c]:=by
 have hl:=h.ET h0;rw[hc] at hl
 match r,hl with
 | [x0,x1,x2],_=>
  have f0:=h.field h0;have f1:=h.field h1;have f2:=h.field h2;rw[O5] at f0 f1 f2;obtain⟨k0,e0,_⟩:=f0.int v3;obtain⟨k1,e1,_⟩:=f1.int v3;obtain⟨k2,e2,_⟩:=f2.int v3;simp only[List.drop_zero,List.take_succ_cons,sX,List.drop_succ_cons,List.cons.injEq,and_true] at e0 e1 e2;subst e0 e1 e2;exact⟨k0,k1,k2,rfl⟩
theorem AZ{W:World}{r:List Value}(h:ji Pz W 263 r):∃x:Df,r=x.cs/\True:=by
 obtain⟨a,b,c,e⟩:=jP KE (by kernel_rfl) (by kernel_rfl) (by kernel_rfl) h.qW;exact⟨⟨a,b,c⟩,e,trivial⟩
theorem qY{W:World}{r:List Value}(h:ji Pz W 149 r):∃x:To,r=x.cs/\True:=by
 obtain⟨a,b,c,e⟩:=jP Tp (by kernel_rfl) (by kernel_rfl) (by kernel_rfl) h.qW;exact⟨⟨a,b,c⟩,e,trivial⟩
theorem open_pair{W:World}{r:List Value}(h:ji Pz W 52 r):∃x:sG,r=x.cs/\True:=by
 obtain⟨hl,ha⟩:=h.qW.array QV;rw[KD] at hl;rw[O5] at ha
 match r,hl with
 | [x0,x1],_=>
  obtain⟨k0,e0,_⟩:=(ha 0 (by omega)).int v3;obtain⟨k1,e1,_⟩:=(ha 1 (by omega)).int v3;simp only[Nat.zero_mul,Nat.one_mul,List.drop_zero,List.take_succ_cons,sX,List.drop_succ_cons,List.cons.injEq,and_true] at e0 e1;subst e0 e1;exact⟨⟨k0,k1⟩,rfl,trivial⟩
theorem AY{W:World}{r:List Value}(h:ji Pz W 67 r):∃x:Ed,r=x.cs/\True:=by
 have hl:=h.qW.ET (i:=0) (ft:=3) (off:=0) (by kernel_rfl);rw[Tq] at hl
 match r,hl with
 | [x0,x1,x2,x3,x4,x5],_=>
  have f0:=h.qW.field (i:=0) (ft:=3) (off:=0) (by kernel_rfl);have f1:=h.qW.field (i:=1) (ft:=65) (off:=1) (by kernel_rfl);have f2:=h.qW.field (i:=2) (ft:=3) (off:=4) (by kernel_rfl);have f3:=h.qW.field (i:=3) (ft:=4) (off:=5) (by kernel_rfl);rw[O5] at f0 f2;rw[Tr] at f1;rw[cz4] at f3;obtain⟨a,b,c,e1⟩:=jP Tr (by kernel_rfl) (by kernel_rfl) (by kernel_rfl) f1;obtain⟨k0,e0,_⟩:=f0.int v3;obtain⟨k2,e2,_⟩:=f2.int v3;obtain⟨k3,e3⟩:=f3.bool v4b;simp only[List.drop_zero,List.take_succ_cons,sX,List.drop_succ_cons,List.cons.injEq,and_true] at e0 e1 e2 e3;obtain⟨e1a,e1b,e1c⟩:=e1;subst e0 e1a e1b e1c e2 e3;exact⟨⟨k0,a,b,c,k2,k3⟩,rfl,trivial⟩
theorem A3{W:World}{r:List Value}(h:ji Pz W 171 r):∃x:Dc,r=x.cs/\DI W.heap x/\x.nm.length<=1048576:=by
 have hl:=h.qW.ET (i:=0) (ft:=9) (off:=0) (by kernel_rfl);rw[KG] at hl
 match r,hl with
 | [x0,x1,x2,x3,x4],_=>
  have f0:=h.field (i:=0) (ft:=9) (off:=0) (by kernel_rfl);have f1:=h.field (i:=1) (ft:=166) (off:=1) (by kernel_rfl);have f2:=h.qW.field (i:=2) (ft:=3) (off:=2) (by kernel_rfl);have f3:=h.field (i:=3) (ft:=169) (off:=3) (by kernel_rfl);rw[Wh] at f0;rw[Tw] at f1;rw[O5] at f2;rw[Tt] at f3;have g0:=f3.field (i:=0) (ft:=167) (off:=0) (by kernel_rfl);have g1:=f3.field (i:=1) (ft:=49) (off:=1) (by kernel_rfl);rw[Tv] at g0;rw[Tu] at g1;obtain⟨s,e0,Kb⟩:=f0.str v9;obtain⟨sf,fs,e1,hf,_⟩:=ji.list Pk KF (by omega) (fun r hr=>wJ hr) f1;obtain⟨k,e2,_⟩:=f2.int v3;obtain⟨sd,ds,e3,hd,_⟩:=ji.list Pj KE (by omega) (fun r hr=>AZ hr) g0;obtain⟨se,es,e4,he,_⟩:=ji.list Ph KD (by omega) (fun r hr=>open_pair hr) g1;simp only[List.drop_zero,List.take_succ_cons,sX,List.drop_succ_cons,List.cons.injEq,and_true] at e0 e2;subst e0 e1 e2 e3 e4;exact⟨⟨s.data.toList,sf,k,sd,se,fs,ds,es⟩,rfl,⟨hf,hd,he⟩,Kb⟩
theorem tN{W:World}{cs:List Value}(h:ji Pz W 27 cs):∃g:Gl,cs=g.cs/\GI W.heap g/\∀d∈g.ds,d.nm.length<=1048576:=by
 have hl:=h.qW.ET (i:=0) (ft:=9) (off:=0) (by kernel_rfl);rw[aaj] at hl
 match cs,hl with
 | [x0,x1,x2,x3,x4,x5,x6,x7],_=>
  have f0:=h.qW.field (i:=0) (ft:=9) (off:=0) (by kernel_rfl);have f1:=h.field (i:=1) (ft:=22) (off:=1) (by kernel_rfl);have f2:=h.field (i:=2) (ft:=23) (off:=2) (by kernel_rfl);have f3:=h.qW.field (i:=3) (ft:=3) (off:=3) (by kernel_rfl);have f4:=h.qW.field (i:=4) (ft:=3) (off:=4) (by kernel_rfl);have f5:=h.qW.field (i:=5) (ft:=3) (off:=5) (by kernel_rfl);have f6:=h.field (i:=6) (ft:=24) (off:=6) (by kernel_rfl);have f7:=h.field (i:=7) (ft:=25) (off:=7) (by kernel_rfl);rw[Wh] at f0;rw[aan] at f1;rw[aam] at f2;rw[O5] at f3 f4 f5;rw[aal] at f6;rw[aak] at f7;obtain⟨s,e0,_⟩:=f0.str v9;obtain⟨sr,rs,e1,hr,_⟩:=ji.list WE Wh (by omega) (fun r hr=>AX hr) f1;obtain⟨sd,ds,e2,hd,zk⟩:=ji.list WD KG (by omega) (fun r hr=>A3 hr) f2;obtain⟨k3,e3,_⟩:=f3.int v3;obtain⟨k4,e4,_⟩:=f4.int v3;obtain⟨k5,e5,_⟩:=f5.int v3;obtain⟨se,es,e6,he,_⟩:=ji.list WC Tq (by omega) (fun r hr=>AY hr) f6;obtain⟨st,ts,e7,ht,_⟩:=ji.list WB Tp (by omega) (fun r hr=>qY hr) f7;simp only[List.drop_zero,List.take_succ_cons,sX,List.drop_succ_cons,List.cons.injEq,and_true] at e0 e3 e4 e5;subst e0 e1 e2 e3 e4 e5 e6 e7;exact⟨⟨s.data.toList,sr,sd,k3,k4,k5,se,st,rs,ds,es,ts⟩,rfl,⟨hr,⟨hd,fun d hm=>(zk d hm).1⟩,he,ht⟩,fun d hm=>(zk d hm).2⟩
end Go.VC
end
