/- SxHc SxHd SxIb SxIc SxId SxIe SxUa SxUb SxUc SxUd SxUe SxUf SxUg SxUh SxUi SxKm SxLa SxLb SxLc SxLd SxLe0 SxLs SxLe SxLf SxLg SxLh SxLj. -/
import Derived.Test.YtajglkbckhgboaaGreatDoorDM06
import Derived.Lib.AppendZerosOnto
set_option linter.all false
set_option maxRecDepth 100000
set_option maxHeartbeats 8000000

section
namespace Go.VC
open Go.Proofs Go.LexS
theorem tQ(g:Gl)(role:Int)(l:List Hv)(x:Hv):nR g role (l++[x])=sJ g role (nR g role l) x:=by unfold nR;rw[List.foldl_append];rfl

def EM(role:Int)(e:Ev):Hv:=⟨role,e.send,e.peer,e.label,⟨none,0,0⟩⟩
theorem zc{g:Gl}(hT:A9 g):∀(j i:Nat) (a b:To),i<j->g.ts[i]?=some a->g.ts[j]?=some b->a.s<b.s
 | 0,i,a,b,h,_,_=>by omega
 | j+1,i,a,b,h,ha,hb=>by
  have h1:=(hT (j+1) b hb).o;have hl:=(Ya.1 hb).1;obtain⟨c,hc⟩:=get_some (l:=g.ts) (i:=j) (by omega);rw[qK hc] at h1;by_cases e:i=j
  .subst e;rw[ha] at hc;cases hc;exact h1
  .have:=zc hT j i a c (by omega) ha hc;omega
theorem v8{g:Gl}(hT:A9 g){a b:To}(ha:a∈g.ts)(hb:b∈g.ts)(e:a.s=b.s):a=b:=by
 obtain⟨i,hi⟩:=Yf.1 ha;obtain⟨j,hj⟩:=Yf.1 hb;rcases Nat.lt_trichotomy i j with h | h | h
 .have:=zc hT j i a b h hi hj;omega
 .subst h;rw[hi] at hj;cases hj;rfl
 .have:=zc hT i j b a h hj hi;omega
end Go.VC
end

section
namespace Go.VC
open Go.LexS
theorem jG{g:Gl}(hV:ah g){p:List Ed}{q:Int}(h:yE g.es g.s p q):0<=q/\q<g.n:=by
 cases h with
 | nil=>have:=hV.num.n;omega
 | snoc _ hx _=>have:=hV.num.R.es _ hx;omega
theorem JD(g:Gl)(role:Int)(l:List Hv):∃l0,nR g role l=eD g.es role l0:=by
 suffices h:∀(l:List Hv) (p:aX),(∃l0,p=eD g.es role l0)->∃l0,l.foldl (sJ g role) p=eD g.es role l0 from h l _ ⟨_,rfl⟩
 intro l
 induction l with
 | nil=>intro p hp;exact hp
 | cons x l ih=>
  intro p _;rw[List.foldl_cons];refine ih _ ?_;unfold sJ;split
  .exact⟨_,rfl⟩
  .exact⟨[],funext fun j=>NL.symm⟩
theorem Lw{es:List Ed}{role:Int}{p:aX}{x:Ed}{e:Ev}(hx:x∈es)(hv:aG role x=some e)(h0:0<=x.f)(h1:x.f<4096)(hp:p x.f.toNat=true):x.t∈jZ es role p e:=by
 unfold jZ;refine List.mem_flatMap.2 ⟨x.f.toNat,br.2 ⟨by omega,hp⟩,vT.2 ⟨⟨e,x.t⟩,?_,if_pos rfl⟩⟩;unfold bS;refine vT.2 ⟨x,hx,?_⟩;rw[if_pos (by omega),hv];rfl
theorem Hk{g:Gl}(hV:ah g)(role:Int){p:List Ed}{q:Int}(h:yE g.es g.s p q):nR g role ((p.filterMap (aG role)).map (EM role)) q.toNat=true:=by
 have hN:=hV.num.n
 induction h with
 | nil=>
  exact bK.2 (.base (by rw[show ((g.s.toNat:Nat):Int)=g.s by omega];exact Ye.2 rfl))
 | @snoc t p x hp hx hf ih=>
  have hr:=hV.num.R.es x hx;rw[hf.symm] at ih;rw[List.filterMap_append,List.filterMap_cons,List.filterMap_nil];cases hv:aG role x with
  | none=>
   simp only[Yw];obtain⟨l0,oE⟩:=JD g role ((p.filterMap (aG role)).map (EM role));rw[oE] at ih ⊢;have h1:=bK.1 ih;rw[show ((x.f.toNat:Nat):Int)=x.f by omega] at h1;refine bK.2 ?_;rw[show ((x.t.toNat:Nat):Int)=x.t by omega];exact .step h1 ⟨x,hx,hv,rfl,rfl⟩
  | some e=>
   rw[Ym,iM,List.map_nil,tQ];unfold sJ;rw[if_pos (show (EM role e).role=role from rfl)];refine bK.2 (.base ?_);rw[show ((x.t.toNat:Nat):Int)=x.t by omega];exact Lw hx hv hr.1 (by omega) ih
theorem pL(T:List Ti)(n:Nat)(f:Ti->Ti)(k:Nat):(rX T n f)[k]?=if k=n then (T[k]?).map f else T[k]?:=by
 unfold rX;split
 .rename_i t ht;by_cases e:k=n
  .subst e;rw[if_pos rfl,Yq (Ya.1 ht).1,ht];rfl
  .rw[if_neg e,Yy (fun h=>e h.symm)]
 .rename_i ht;by_cases e:k=n
  .subst e;rw[if_pos rfl,ht];rfl
  .rw[if_neg e]
theorem Hq{es:List Ed}{role:Int}{n k:Nat}(hk:k<n):(∀x∈es,0<=x.f)->(∀x∈es,¬(x.f=(k:Int)/\x.a=role))/\(ur es role n).1[k]?=some false/\(ur es role n).2[k]?=some Oj\/∃x∈es,x.f=(k:Int)/\x.a=role/\(ur es role n).1[k]?=some true/\(ur es role n).2[k]?=some ⟨x.ag,0,Oj.x⟩:=by
 intro hf;unfold ur
 suffices h:∀(l:List Ed) (s:List Bool × List Ti),s.1.length=n->(∀x∈l,0<=x.f)->((l.foldl (uu role) s).1[k]?=s.1[k]?/\(l.foldl (uu role) s).2[k]?=s.2[k]?/\∀x∈l,¬(x.f=(k:Int)/\x.a=role))\/∃x∈l,x.f=(k:Int)/\x.a=role/\(l.foldl (uu role) s).1[k]?=some true/\∀t,s.2[k]?=some t->(l.foldl (uu role) s).2[k]?=some ⟨x.ag,t.k,t.x⟩ by
  rcases h es (List.replicate n false,List.replicate n Oj) (by rw[Yg]) hf with ⟨h1,h2,h3⟩ | ⟨x,h1,h2,h3,h4,h5⟩
  .refine .inl ⟨h3,?_,?_⟩
   .rw[h1,List.getElem?_replicate,if_pos hk]
   .rw[h2,List.getElem?_replicate,if_pos hk]
  .exact .inr ⟨x,h1,h2,h3,h4,h5 Oj (by rw[List.getElem?_replicate,if_pos hk])⟩
 intro l
 induction l with
 | nil=>intro s _ _;exact .inl ⟨rfl,rfl,fun x hx=>by cases hx⟩
 | cons a l ih=>
  intro s hs hf;rw[List.foldl_cons];have hfa:=hf a (Yx ..);have fV:∀x∈l,0<=x.f:=fun x hx=>hf x (Yn _ hx);by_cases ha:a.a=role
  .have e:uu role s a=(s.1.set a.f.toNat true,rX s.2 a.f.toNat fun t=>{ t with ag:=a.ag }):=by unfold uu;rw[if_pos ha]
   rw[e];have cj:(s.1.set a.f.toNat true).length=n:=by rw[lh];exact hs
   by_cases fg:a.f=(k:Int)
   .have O6:a.f.toNat=k:=by omega
    rw[O6] at cj ⊢;have g1:(s.1.set k true)[k]?=some true:=Yq (by omega);have g2:∀t,s.2[k]?=some t->(rX s.2 k fun t=>{ t with ag:=a.ag })[k]?=some ⟨a.ag,t.k,t.x⟩:=fun t ht=>by rw[pL,if_pos rfl,ht];rfl
    rcases ih (s.1.set k true,rX s.2 k fun t=>{ t with ag:=a.ag }) cj fV with ⟨h1,h2,h3⟩ | ⟨x,h1,h2,h3,h4,h5⟩
    .exact .inr ⟨a,Yx ..,fg,ha,by rw[h1];exact g1,fun t ht=>by rw[h2];exact g2 t ht⟩
    .exact .inr ⟨x,Yn _ h1,h2,h3,h4,fun t ht=>h5 ⟨a.ag,t.k,t.x⟩ (g2 t ht)⟩
   .have O6:¬k=a.f.toNat:=by omega
    have g1:(s.1.set a.f.toNat true)[k]?=s.1[k]?:=Yy (by omega);have g2:(rX s.2 a.f.toNat fun t=>{ t with ag:=a.ag })[k]?=s.2[k]?:=by rw[pL,if_neg O6]
    rcases ih (s.1.set a.f.toNat true,rX s.2 a.f.toNat fun t=>{ t with ag:=a.ag }) cj fV with ⟨h1,h2,h3⟩ | ⟨x,h1,h2,h3,h4,h5⟩
    .refine .inl ⟨by rw[h1];exact g1,by rw[h2];exact g2,fun x hx=>?_⟩;rcases Yr.1 hx with rfl | hx
     .exact fun h=>fg h.1
     .exact h3 x hx
    .exact .inr ⟨x,Yn _ h1,h2,h3,h4,fun t ht=>h5 t (by rw[g2];exact ht)⟩
  .have e:uu role s a=s:=by unfold uu;rw[if_neg ha]
   rw[e];rcases ih s hs fV with ⟨h1,h2,h3⟩ | ⟨x,h1,h2,h3,h4,h5⟩
   .refine .inl ⟨h1,h2,fun x hx=>?_⟩;rcases Yr.1 hx with rfl | hx
    .exact fun h=>ha h.2
    .exact h3 x hx
   .exact .inr ⟨x,Yn _ h1,h2,h3,h4,h5⟩
theorem qB{es:List Ed}{O:List Bool}{k:Nat}(hO:O[k]?=some true):∀(l:List To) (T:List Ti) (t:Ti),(∀u∈l,0<=u.s/\∃z,es[u.e.toNat]?=some z)->T[k]?=some t ->
  ((∀u∈l,u.s≠(k:Int))/\(l.foldl (wP es O) T)[k]?=some t)\/∃u∈l,u.s=(k:Int)/\∃z,es[u.e.toNat]?=some z/\(l.foldl (wP es O) T)[k]?=some ⟨t.ag,u.k,⟨true,z.b,z.l⟩⟩
 | [],T,t,_,ht=>.inl ⟨fun u hu=>(by cases hu),ht⟩
 | u::l,T,t,hl,ht=>by
  rw[List.foldl_cons];obtain⟨T6,z,hz⟩:=hl u (Yx ..);have oG:∀u∈l,0<=u.s/\∃z,es[u.e.toNat]?=some z:=fun u hu=>hl u (Yn _ hu);by_cases hk:u.s=(k:Int)
  .have O6:u.s.toNat=k:=by omega
   have e:wP es O T u=rX T k fun q=>⟨q.ag,u.k,⟨true,z.b,z.l⟩⟩:=by
    unfold wP;rw[O6,hO,hz]
   have g:(wP es O T u)[k]?=some ⟨t.ag,u.k,⟨true,z.b,z.l⟩⟩:=by rw[e,pL,if_pos rfl,ht];rfl
   rcases qB hO l _ _ oG g with ⟨_,h2⟩ | ⟨v,h1,h2,z',h3,h4⟩
   .exact .inr ⟨u,Yx ..,hk,z,hz,h2⟩
   .exact .inr ⟨v,Yn _ h1,h2,z',h3,h4⟩
  .have g:(wP es O T u)[k]?=some t:=by
    unfold wP;split
    .rw[pL,if_neg (by omega)];exact ht
    .exact ht
   rcases qB hO l _ _ oG g with ⟨h1,h2⟩ | ⟨v,h1,h2,z',h3,h4⟩
   .refine .inl ⟨fun v hv=>?_,h2⟩;rcases Yr.1 hv with rfl | hv
    .exact hk
    .exact h1 v hv
   .exact .inr ⟨v,Yn _ h1,h2,z',h3,h4⟩
theorem eV{g:Gl}(hV:ah g){x y:Ed}(hx:x∈g.es)(hy:y∈g.es)(e:x.f=y.f):x.a=y.a/\x.ag=y.ag:=by
 obtain⟨i,hi⟩:=Yf.1 hx;obtain⟨k,hk⟩:=Yf.1 hy;by_cases Ux:i=k
 .subst Ux;rw[hi] at hk;cases hk;exact⟨rfl,rfl⟩
 .have h1:=hV.ord.p i x hi k y hk;have h2:=hV.ord.p k y hk i x hi;unfold cJ at h1 h2;have e1:x.ag=false:=by cases h:x.ag with | false=>rfl | true=>exact absurd (.inl ⟨Ux,e,.inr (.inr h)⟩) h1
  have e2:y.ag=false:=by cases h:y.ag with | false=>rfl | true=>exact absurd (.inl ⟨fun h=>Ux h.symm,e.symm,.inr (.inr h)⟩) h2
  refine⟨Classical.byContradiction fun h=>h1 (.inl ⟨Ux,e,.inr (.inl h)⟩),by rw[e1,e2]⟩
theorem G8{g:Gl}(hV:ah g){i k:Nat}{x y:Ed}(hi:g.es[i]?=some x)(hk:g.es[k]?=some y)(e:x.f=y.f)(hb:x.b=y.b)(hl:x.l=y.l):i=k:=by
 apply Classical.byContradiction;intro Ux;have h1:=hV.ord.p i x hi k y hk;unfold cJ at h1;have:=(eV hV (Yb hi) (Yb hk) e).1;exact h1 (.inl ⟨Ux,e,.inl ⟨this,hb,hl⟩⟩)

end Go.VC
end

section
namespace Go.VC
open Go.Proofs Go.LexS
def dN(x:Int):List Int->List Int
 | []=>[x]
 | y::l=>if x<=y then (if x<y then x::y::l else y::l) else y::dN x l
theorem gP{x v:Int}:∀ {T:List Int},v∈dN x T ↔ v=x\/v∈T
 | []=>by simp[dN]
 | y::l=>by
  unfold dN;split
  .split
   .rw[Yr]
   .have:x=y:=by omega
    subst this;simp
  .rw[Yr,gP,Yr];constructor
   .rintro (h | h | h)
    .exact .inr (.inl h)
    .exact .inl h
    .exact .inr (.inr h)
   .rintro (h | h | h)
    .exact .inr (.inl h)
    .exact .inl h
    .exact .inr (.inr h)
theorem il{x:Int}:∀ {T:List Int},T.Pairwise (· < ·)->(dN x T).Pairwise (· < ·)
 | [],_=>by simp[dN]
 | y::l,h=>by
  unfold dN;have h':=List.pairwise_cons.1 h;split
  .split
   .refine List.pairwise_cons.2 ⟨fun v hv=>?_,h⟩;rcases Yr.1 hv with rfl | hv
    .assumption
    .have:=h'.1 v hv;omega
   .exact h
  .refine List.pairwise_cons.2 ⟨fun v hv=>?_,il h'.2⟩;rcases gP.1 hv with rfl | hv
   .omega
   .exact h'.1 v hv
theorem mR{x:Int}:∀ {T:List Int},x∉T->(dN x T).length=T.length+1
 | [],_=>rfl
 | y::l,h=>by
  unfold dN;rw[Yr,not_or] at h;split
  .split
   .rfl
   .exact absurd (by omega) h.1
  .rw[jC,mR h.2,jC]
theorem kA{x:Int}:∀ {T:List Int},T.Pairwise (· < ·)->x∈T->dN x T=T
 | [],_,h=>by cases h
 | y::l,h,hm=>by
  unfold dN;have h':=List.pairwise_cons.1 h;split
  .split
   .rcases Yr.1 hm with e | e
    .omega
    .have:=h'.1 x e;omega
   .rfl
  .rcases Yr.1 hm with e | e
   .omega
   .rw[kA h'.2 e]
theorem ji(L:List Int)(x:Int)(s:Sl)(h:Heap)(hr:Rw h 1 s (L.map aM))(hl:L.length<=1048576):Fn Pz 116 #[.slice s.a s.n s.c,.int .i64 x] h (RP (x∈L) h):=by
 apply WI;unfold abV;have hn:=hr.ln;refine bU (n:=s.n) (fun i h'=>Ext h h'/\∀(j:Nat) y,j<i->L[j]?=some y->y≠x) ⟨.jg,fun j y hj=>by omega⟩ ?_;rintro-i h5 hi ⟨E,hq⟩;refine aa (fun c=>?_) (fun c=>RP.f (fun hm=>?_) E)
 .replace c:=bw c;refine (hr.ext E).ax (by omega) (by omega) fun b6 o7 y gy t=>?_;replace gy:L[i]?=some y:=gy;refine⟨_,t.hd,eS (fun c1=>RP.t (by subst c1;exact Yb gy) E) (fun c1=>Up.next c (by omega) ⟨E,fun j z hj hz=>?_⟩)⟩;by_cases e:j=i
  .subst e;rw[gy] at hz;cases hz;exact c1
  .exact hq j z (by omega) hz
 .replace c:=bz c;obtain⟨j,hj⟩:=Yf.1 hm;exact hq j x (by have:=(Ya.1 hj).1;omega) hj rfl
theorem qq(L:List Int)(x:Int)(s:Sl)(h:Heap)(hr:Rw h 1 s (L.map aM))(hl:L.length<=1048575):
  Fn Pz 218 #[.slice s.a s.n s.c,.int .i64 x] h fun v h'=>∃s':Sl,v=.slice s'.a s'.n s'.c/\St h h' [.sl s' 3 1 ((dN x L).map aM)]:=by
 apply VA;unfold aaN Kr Ks;have hn:=hr.ln;refine⟨fun out done i h' μ=>∃(j:Nat) (T:List Int),i=j/\j<=s.n/\μ=s.n-j/\St h h' [.sl out 3 1 (T.map aM)]/\T.length<=j+1/\(done=false->T.length<=j)/\dN x L=T++(if done=true then L.drop j else dN x (L.drop j)),⟨_,0,[],rfl,by omega,rfl,(St.refl h).cn 3 1,by simp,by simp,rfl⟩,?_⟩;rintro-out done _ h7 μ ⟨j,T,rfl,hj,rfl,hs,hT,Um,hw⟩;have xy:=(hs.rows 0 rfl (by omega)).ln;refine aa (fun c=>?_) (fun c=>?_)
 .replace c:=bw c;obtain⟨y,hy⟩:=get_some (l:=L) (i:=j) (by omega);rw[mB hy] at hw;refine aa (fun c1=>?_) (fun c1=>?_)
  .have sk:done=false:=bF c1;subst sk;have Um:=Um rfl;rw[if_neg (by decide)] at hw;refine (hr.ext hs.ext).ax (by omega) (by omega) fun b8 o9 y' gy t=>?_;replace gy:L[j]?=some y':=gy;rw[hy] at gy;cases gy;refine⟨_,t.hd,aQ (fun c2=>?_) (fun c2=>?_)⟩
   .refine (hr.ext hs.ext).ax (by omega) (by omega) fun b8 o9 y' gy t=>?_;replace gy:L[j]?=some y':=gy;rw[hy] at gy;cases gy;refine⟨_,t.hd,aQ (fun c3=>?_) (fun c3=>?_)⟩
    .refine hs.app 0 rfl dt (m:=1) [[.int .i64 x]] rfl rfl (by simp) rfl (by omega) (by simp only[maxLen];omega) fun s15 fx ns hs=>?_;have hs:St h fx [.sl s15 3 1 ((T++[x]).map aM)]:=by rw[Ym];exact hs
     have xy:=(hs.rows 0 rfl (by omega)).ln;have Cm:(T++[x]).length=T.length+1:=Yh;refine (hr.ext hs.ext).ax (by omega) (by omega) fun b8 o9 y' gy t=>?_;replace gy:L[j]?=some y':=gy;rw[hy] at gy;cases gy;refine⟨_,t.hd,?_⟩;refine hs.app 0 rfl dt (m:=1) [[.int .i64 y]] rfl rfl (by simp) rfl (by omega) (by simp only[maxLen];omega) fun Ow cR ns hs=>?_;have hs:St h cR [.sl Ow 3 1 ((T++[x]++[y]).map aM)]:=by rw[Ym];exact hs
     refine⟨_,?_,j+1,T++[x]++[y],by rw[bd (by omega) (by omega)];omega,by omega,rfl,hs,by rw[Yh,Cm,Yv];omega,(fun hd=>by cases hd),?_⟩
     .omega
     .rw[if_pos rfl,hw,dN,if_pos c2,if_pos c3,Yz,Yz];rfl
    .refine (hr.ext hs.ext).ax (by omega) (by omega) fun b8 o9 y' gy t=>?_;replace gy:L[j]?=some y':=gy;rw[hy] at gy;cases gy;refine⟨_,t.hd,?_⟩;refine hs.app 0 rfl dt (m:=1) [[.int .i64 y]] rfl rfl (by simp) rfl (by omega) (by simp only[maxLen];omega) fun Ow cR ns hs=>?_;have hs:St h cR [.sl Ow 3 1 ((T++[y]).map aM)]:=by rw[Ym];exact hs
     refine⟨_,?_,j+1,T++[y],by rw[bd (by omega) (by omega)];omega,by omega,rfl,hs,by rw[Yh,Yv];omega,(fun hd=>by cases hd),?_⟩
     .omega
     .rw[if_pos rfl,hw,dN,if_pos c2,if_neg c3,Yz];rfl
   .refine (hr.ext hs.ext).ax (by omega) (by omega) fun b8 o9 y' gy t=>?_;replace gy:L[j]?=some y':=gy;rw[hy] at gy;cases gy;refine⟨_,t.hd,?_⟩;refine hs.app 0 rfl dt (m:=1) [[.int .i64 y]] rfl rfl (by simp) rfl (by omega) (by simp only[maxLen];omega) fun Ow cR ns hs=>?_;have hs:St h cR [.sl Ow 3 1 ((T++[y]).map aM)]:=by rw[Ym];exact hs
    refine⟨_,?_,j+1,T++[y],by rw[bd (by omega) (by omega)];omega,by omega,rfl,hs,by rw[Yh,Yv];omega,(fun _=>by rw[Yh,Yv];omega),?_⟩
    .omega
    .rw[if_neg (by decide),hw,dN,if_neg c2,Yz];rfl
  .have sk:done=true:=bT c1;subst sk;rw[if_pos rfl] at hw;refine (hr.ext hs.ext).ax (by omega) (by omega) fun b8 o9 y' gy t=>?_;replace gy:L[j]?=some y':=gy;rw[hy] at gy;cases gy;refine⟨_,t.hd,?_⟩;refine hs.app 0 rfl dt (m:=1) [[.int .i64 y]] rfl rfl (by simp) rfl (by omega) (by simp only[maxLen];omega) fun Ow cR ns hs=>?_;have hs:St h cR [.sl Ow 3 1 ((T++[y]).map aM)]:=by rw[Ym];exact hs
   refine⟨_,?_,j+1,T++[y],by rw[bd (by omega) (by omega)];omega,by omega,rfl,hs,by rw[Yh,Yv];omega,(fun hd=>by cases hd),?_⟩
   .omega
   .rw[if_pos rfl,hw,Yz];rfl
 .replace c:=bz c;rw[List.drop_eq_nil_of_le (by omega)] at hw;refine aa (fun c1=>?_) (fun c1=>?_)
  .have sk:done=false:=bF c1;subst sk;rw[if_neg (by decide)] at hw;refine hs.app 0 rfl dt (m:=1) [[.int .i64 x]] rfl rfl (by simp) rfl (by omega) (by simp only[maxLen];omega) fun s15 fx ns hs=>?_;have hs:St h fx [.sl s15 3 1 ((T++[x]).map aM)]:=by rw[Ym];exact hs
   exact⟨_,rfl,by rw[hw];exact hs⟩
  .have sk:done=true:=bT c1;subst sk;rw[if_pos rfl,Yw] at hw;exact⟨_,rfl,by rw[hw];exact hs⟩
theorem CU:∀(l m:List Int),l.Pairwise (· < ·)->m.Pairwise (· < ·)->(∀x,x∈l ↔ x∈m)->l=m
 | [],[],_,_,_=>rfl
 | [],b::m,_,_,h=>absurd ((h b).2 (by simp)) (by simp)
 | a::l,[],_,_,h=>absurd ((h a).1 (by simp)) (by simp)
 | a::l,b::m,hl,hm,h=>by
  obtain⟨h1,h2⟩:=List.pairwise_cons.1 hl;obtain⟨h3,h4⟩:=List.pairwise_cons.1 hm;have kj:a=b:=by
   rcases Yr.1 ((h a).1 (by simp)) with e | ha
   .exact e
   .rcases Yr.1 ((h b).2 (by simp)) with e | hb
    .exact e.symm
    .have:=h1 b hb;have:=h3 a ha;omega
  subst kj;congr 1;refine CU l m h2 h4 fun x=>?_;have hx:=h x;rw[Yr,Yr] at hx;constructor
  .intro oC;rcases hx.1 (.inr oC) with rfl | h5
   .have:=h1 x oC;omega
   .exact h5
  .intro oC;rcases hx.2 (.inr oC) with rfl | h5
   .have:=h3 x oC;omega
   .exact h5
def bW(p:aX):List Int:=aJ (elems p)
theorem dX{p:aX}{v:Int}:v∈bW p ↔ 0<=v/\v<4096/\p v.toNat=true:=by
 unfold bW aJ;rw[Yp];constructor
 .rintro⟨j,hj,rfl⟩;have:=br.1 hj;exact⟨by omega,by omega,by rw[Ys];exact this.2⟩
 .rintro⟨h0,h1,h2⟩;exact⟨v.toNat,br.2 ⟨by omega,h2⟩,by omega⟩
theorem G4(p:aX):(bW p).Pairwise (· < ·):=by
 unfold bW aJ elems;rw[List.pairwise_map];exact (List.pairwise_lt_range.filter _).imp fun h=>by omega
theorem wq(p:aX):(bW p).length<=4096:=by
 unfold bW aJ elems;rw[Yc];exact iX (List.length_filter_le _ _) (by rw[kv];exact bu _)
theorem G3{p q:aX}(hp:∀j,p j=true->j<4096)(hq:∀j,q j=true->j<4096)(h:bW p=bW q):p=q:=by
 funext j
 have h1:((j:Int)∈bW p ↔ (j:Int)∈bW q):=by rw[h]
 rw[dX,dX,Ys] at h1;cases hpj:p j with
 | true=>
  have:=hp j hpj;exact (h1.1 ⟨by omega,by omega,hpj⟩).2.2.symm
 | false=>
  cases hqj:q j with
  | false=>rfl
  | true=>
   have:=hq j hqj;have:=(h1.2 ⟨by omega,by omega,hqj⟩).2.2;rw[hpj] at this;cases this
theorem LN{p:aX}{l:List Int}(hl:l.Pairwise (· < ·))(h:∀v,v∈l ↔ 0<=v/\v<4096/\p v.toNat=true):l=bW p:=CU l (bW p) hl (G4 p) fun v=>by rw[h,dX]
theorem LR(A B:List Int)(s t:Sl)(h:Heap)(hA:Rw h 1 s (A.map aM))(hB:Rw h 1 t (B.map aM))(hl:A.length<=1048576):Fn Pz 219 #[.slice s.a s.n s.c,.slice t.a t.n t.c] h fun v h'=>v=.bool (decide (A=B))/\h'=h:=by
 apply Vz s t;unfold aaM;have hn:=hA.ln;have hm:=hB.ln;have no:A≠B->∀h',h'=h->(Value.bool false=.bool (decide (A=B))/\h'=h):=fun e h' eh=>⟨by rw[decide_eq_false e],eh⟩;refine dY (fun c=>no (fun e=>c (by rw[hn,hm,e])) h rfl) (fun c=>?_);have hAB:A.length=B.length:=by omega
 refine bU (n:=s.n) (fun i h'=>h'=h/\∀(j:Nat) x y,j<i->A[j]?=some x->B[j]?=some y->x=y) ⟨rfl,fun j x y hj=>by omega⟩ ?_;rintro-i _ hi ⟨rfl,hq⟩;refine aa (fun c1=>?_) (fun c1=>⟨?_,rfl⟩)
 .replace c1:=bw c1;refine hA.ax (by omega) (by omega) fun b6 o7 x gx t6=>?_;replace gx:A[i]?=some x:=gx;refine⟨_,t6.hd,?_⟩;refine hB.ax (by omega) (by omega) fun b9 o10 y gy t9=>?_;replace gy:B[i]?=some y:=gy;refine⟨_,t9.hd,dY (fun c2=>no (fun e=>c2 (by rw[e] at gx;rw[gx] at gy;exact eP gy)) _ rfl) (fun c2=>Up.next c1 (by omega) ⟨rfl,fun j x' y' hj vH tm=>?_⟩)⟩;by_cases e:j=i
  .subst e;rw[gx] at vH;rw[gy] at tm;cases vH;cases tm;exact c2
  .exact hq j x' y' (by omega) vH tm
 .replace c1:=bz c1;have e:A=B:=by
   refine List.ext_getElem hAB fun j h1 h2=>?_;exact hq j _ _ (by omega) (Yi h1) (Yi h2)
  rw[decide_eq_true e]
theorem lI(r:Int)(x y:Ev)(h:Heap):Fn Pz 42 #[.agg ⟨aC r x⟩,.agg ⟨aC r y⟩] h fun v h'=>v=.bool (decide (x=y))/\Ext h h':=by
 apply adt r x.send x.peer x.label ⟨none,0,0⟩ r y.send y.peer y.label ⟨none,0,0⟩;unfold W42;refine (St.refl h).ao fun jP hs=>?_;refine hs.ao fun CD hs=>?_;refine⟨_,hs.rd 1 rfl (i:=0) rfl,_,hs.rd 0 rfl (i:=0) rfl,gR (by simp) ?_⟩;have no:x≠y->(Value.bool false=.bool (decide (x=y))/\Ext h CD):=fun e=>⟨by rw[decide_eq_false e],hs.ext⟩;refine⟨_,hs.rd 1 rfl (i:=1) rfl,_,hs.rd 0 rfl (i:=1) rfl,aa (fun c1=>?_) (fun c1=>no fun e=>by rw[e] at c1;simp at c1)⟩;refine⟨_,hs.rd 1 rfl (i:=2) rfl,_,hs.rd 0 rfl (i:=2) rfl,eS (fun c2=>?_) (fun c2=>no fun e=>c2 (by rw[e]))⟩;refine⟨_,hs.rd 1 rfl (i:=3) rfl,_,hs.rd 0 rfl (i:=3) rfl,?_,hs.ext⟩;have c1:x.send=y.send:=by simpa using c1
 by_cases c3:x.label=y.label
 .rw[decide_eq_true (Jb c1 c2 c3),c3,beq_self_eq_true]
 .rw[decide_eq_false (fun e=>c3 (by rw[e])),beq_eq_false_iff_ne.2 c3]
theorem FO(r:Int)(x y:Ev)(h:Heap):Fn Pz 264 #[.agg ⟨aC r x⟩,.agg ⟨aC r y⟩] h (RP (cy x y) h):=by
 apply Vf r x.send x.peer x.label ⟨none,0,0⟩ r y.send y.peer y.label ⟨none,0,0⟩;unfold aau;refine (St.refl h).ao fun jP hs=>?_;refine hs.ao fun CD hs=>?_;refine⟨_,hs.rd 1 rfl (i:=1) rfl,_,hs.rd 0 rfl (i:=1) rfl,aa (fun c1=>?_) (fun c1=>?_)⟩
 .refine⟨_,hs.rd 1 rfl (i:=1) rfl,RP.e ?_ hs.ext⟩;unfold cy;cases hx:x.send<;>cases hy:y.send<;>simp_all
 .have c1:x.send=y.send:=by simpa using c1
  refine⟨_,hs.rd 1 rfl (i:=2) rfl,_,hs.rd 0 rfl (i:=2) rfl,dY (fun c2=>?_) (fun c2=>?_)⟩
  .refine⟨_,hs.rd 1 rfl (i:=2) rfl,_,hs.rd 0 rfl (i:=2) rfl,RP.e ?_ hs.ext⟩;unfold cy;rw[decide_eq_true_eq];constructor
   .intro bt;exact .inr ⟨c1,.inl bt⟩
   .rintro (⟨h1,h2⟩ | ⟨_,h1 | ⟨h1,_⟩⟩)
    .rw[c1,h2] at h1;cases h1
    .exact h1
    .exact absurd h1 c2
  .refine⟨_,hs.rd 1 rfl (i:=3) rfl,_,hs.rd 0 rfl (i:=3) rfl,RP.e ?_ hs.ext⟩;unfold cy;rw[decide_eq_true_eq];constructor
   .intro bt;exact .inr ⟨c1,.inr ⟨c2,bt⟩⟩
   .rintro (⟨h1,h2⟩ | ⟨_,h1 | ⟨_,h1⟩⟩)
    .rw[c1,h2] at h1;cases h1
    .omega
    .exact h1
theorem DV(r:Int)(A B:List Ev)(s t:Sl)(h:Heap)(hA:Rw h 5 s (A.map (aC r)))(hB:Rw h 5 t (B.map (aC r)))(hl:A.length<=1048576):Fn Pz 25 #[.slice s.a s.n s.c,.slice t.a t.n t.c] h fun v h'=>v=.bool (decide (A=B))/\Ext h h':=by
 apply adC s t;unfold W25;have hn:=hA.ln;have hm:=hB.ln;have no:A≠B->∀h',Ext h h'->(Value.bool false=.bool (decide (A=B))/\Ext h h'):=fun e h' E=>⟨by rw[decide_eq_false e],E⟩;refine dY (fun c=>no (fun e=>c (by rw[hn,hm,e])) h .jg) (fun c=>?_);have hAB:A.length=B.length:=by omega
 refine bU (n:=s.n) (fun i h'=>Ext h h'/\∀(j:Nat) x y,j<i->A[j]?=some x->B[j]?=some y->x=y) ⟨.jg,fun j x y hj=>by omega⟩ ?_;rintro-i h5 hi ⟨E,hq⟩;refine aa (fun c1=>?_) (fun c1=>⟨?_,E⟩)
 .replace c1:=bw c1;refine (hA.ext E).ax (by omega) (by omega) fun b6 o7 x gx t6=>?_;replace gx:A[i]?=some x:=gx;refine⟨r,x.send,x.peer,x.label,⟨none,0,0⟩,t6,?_⟩;refine (hB.ext E).ax (by omega) (by omega) fun b9 o10 y gy t9=>?_;replace gy:B[i]?=some y:=gy;refine⟨r,y.send,y.peer,y.label,⟨none,0,0⟩,t9,?_⟩;refine (lI r x y h5).mono ?_;rintro _ cR ⟨rfl,E2⟩;refine⟨_,rfl,aa (fun c2=>no (fun e=>?_) _ (E.trans E2)) (fun c2=>Up.next c1 (by omega) ⟨E.trans E2,fun j x' y' hj vH tm=>?_⟩)⟩
  .rw[e] at gx;rw[gx] at gy;have:=eI (bF c2);exact this (eP gy)
  .by_cases e:j=i
   .subst e;rw[gx] at vH;rw[gy] at tm;cases vH;cases tm;exact cd (bT c2)
   .exact hq j x' y' (by omega) vH tm
 .replace c1:=bz c1;have e:A=B:=by
   refine List.ext_getElem hAB fun j h1 h2=>?_;exact hq j _ _ (by omega) (Yi h1) (Yi h2)
  rw[decide_eq_true e]
theorem EH(r:Int)(L:List Ev)(x:Ev)(s:Sl)(h:Heap)(hr:Rw h 5 s (L.map (aC r)))(hl:L.length<=1048575):
  Fn Pz 217 #[.slice s.a s.n s.c,.agg ⟨aC r x⟩] h fun v h'=>∃s':Sl,v=.slice s'.a s'.n s'.c/\St h h' [.sl s' 33 5 ((fK x L).map (aC r))]:=by
 apply VD s r x.send x.peer x.label ⟨none,0,0⟩;unfold aaO Kt Ku;have hn:=hr.ln;refine (St.refl h).ao fun h6 mN=>?_;refine⟨fun out done i h' μ=>∃(j:Nat) (T:List Ev),i=j/\j<=s.n/\μ=s.n-j/\St h h' [.sl out 33 5 (T.map (aC r)),.af h.size (aC r x) 33]/\T.length<=j+1/\(done=false->T.length<=j)/\fK x L=T++(if done=true then L.drop j else fK x (L.drop j)),⟨_,0,[],rfl,by omega,rfl,mN.cn 33 5,by simp,by simp,rfl⟩,?_⟩;clear mN;rintro-out done _ h7 μ ⟨j,T,rfl,hj,rfl,hs,hT,Um,hw⟩;have xy:=(hs.rows 0 rfl (by decide)).ln
 have one:∀ {hX:Heap} {o:Sl} {T:List Ev} {y:Ev} {d:Bool},j<s.n->L[j]?=some y->St h hX [.sl o 33 5 (T.map (aC r)),.af h.size (aC r x) 33]->T.length<=j+1->(T.length<=j\/d=true)->fK x L=T++[y]++(if d=true then L.drop (j+1) else fK x (L.drop (j+1))) ->
   NB s.a fun b o'=>((0<=(j:Int)/\(j:Int)<(s.n:Nat))/\(∃x54:Int,∃x55:Bool,∃x56:Int,∃x57:Int,∃TF:Sl,aY hX ⟨b,o'+Int.toNat (j:Int)*5,none⟩ [.int .i64 x54,.bool x55,.int .i64 x56,.int .i64 x57,.slice TF.a TF.n TF.c] /\
   (∀uT:Heap,uT=hX.push (.cells ⟨[.int .i64 x54,.bool x55,.int .i64 x56,.int .i64 x57,.slice TF.a TF.n TF.c]⟩ 33) ->
   (App Pz 57 57 (.slice o.a o.n o.c) (.slice (some ⟨hX.size,0,none⟩) 1 1) uT fun Ou Ph=>
   (∃m62,m62<s.n-j/\∃(j':Nat) (T:List Ev),IntKind.wrap .i64 ((j:Int)+1)=j'/\j'<=s.n/\m62=s.n-j'/\St h Ph [.sl Ou 33 5 (T.map (aC r)),.af h.size (aC r x) 33]/\T.length<=j'+1/\(d=false->T.length<=j')/\fK x L=T++(if d=true then L.drop j' else fK x (L.drop j'))))))):=fun {hX o T y d} K5 gy hs hT hTd hw=>by
  refine (hr.ext hs.ext).ax (by omega) (by omega) fun b o' z gz t=>?_;replace gz:L[j]?=some z:=gz;rw[gy] at gz;cases gz;refine⟨r,y.send,y.peer,y.label,⟨none,0,0⟩,t,?_⟩;have xy:=(hs.rows 0 rfl (by decide)).ln;refine hs.app 0 rfl JF (m:=1) [aC r y] rfl rfl (by intro q hq;rw[Ye.1 hq];rfl) rfl (by omega) (by simp only[maxLen];omega) fun Ow cR ns hs=>?_;have hlen:(T++[y]).length=T.length+1:=Yh;refine⟨_,(show s.n-(j+1)<s.n-j by omega),j+1,T++[y],by rw[bd (by omega) (by omega)];omega,by omega,rfl,by rw[Ym];exact hs,by omega,fun hd=>?_,hw⟩;rcases hTd with h1 | h1
  .omega
  .rw[h1] at hd;cases hd
 refine aa (fun c=>?_) (fun c=>?_)
 .replace c:=bw c;obtain⟨y,hy⟩:=get_some (l:=L) (i:=j) (by omega);rw[mB hy] at hw;refine aa (fun c1=>?_) (fun c1=>?_)
  .have sk:done=false:=bF c1;subst sk;have Um:=Um rfl;rw[if_neg (by decide)] at hw;refine (hr.ext hs.ext).ax (by omega) (by omega) fun b8 o9 y' gy t=>?_;replace gy:L[j]?=some y':=gy;rw[hy] at gy;cases gy;refine⟨r,y.send,y.peer,y.label,⟨none,0,0⟩,t,r,x.send,x.peer,x.label,⟨none,0,0⟩,hs.at 1 rfl (o:=0) (n:=5) rfl,?_⟩;refine (FO r y x h7).mono ?_;rintro _ Ur ⟨⟨bb,rfl,yX⟩,E⟩;have hs:=hs.step E;refine⟨bb,rfl,aa (fun c2=>?_) (fun c2=>?_)⟩
   .have yT:¬cy y x:=cM yX (bF c2);refine (hr.ext hs.ext).ax (by omega) (by omega) fun b8 o9 y' gy t=>?_;replace gy:L[j]?=some y':=gy;rw[hy] at gy;cases gy;refine⟨r,y.send,y.peer,y.label,⟨none,0,0⟩,t,r,x.send,x.peer,x.label,⟨none,0,0⟩,hs.at 1 rfl (o:=0) (n:=5) rfl,?_⟩;refine (lI r y x Ur).mono ?_;rintro _ RM ⟨rfl,E2⟩;have hs:=hs.step E2;refine⟨_,rfl,aa (fun c3=>?_) (fun c3=>?_)⟩
    .have bI:y≠x:=eI (bF c3);refine⟨r,x.send,x.peer,x.label,⟨none,0,0⟩,hs.at 1 rfl (o:=0) (n:=5) rfl,?_⟩;have xy:=(hs.rows 0 rfl (by decide)).ln;refine hs.app 0 rfl JF (m:=1) [aC r x] rfl rfl (by intro q hq;rw[Ye.1 hq];rfl) rfl (by omega) (by simp only[maxLen];omega) fun DY uU ns hs=>?_;have hs:St h uU [.sl DY 33 5 ((T++[x]).map (aC r)),.af h.size (aC r x) 33]:=by rw[Ym];exact hs
     refine one (d:=true) c hy hs (by rw[Yh,Yv];omega) (.inr rfl) ?_;rw[if_pos rfl,hw,fK,if_neg yT,if_neg (Ne.symm bI),Yz,Yz];rfl
    .have he:y=x:=cd (bT c3);refine one (d:=true) c hy hs (by omega) (.inr rfl) ?_;rw[if_pos rfl,hw,fK,if_neg yT,if_pos he.symm,Yz];rfl
   .have bt:cy y x:=yX.1 (bT c2);refine one (d:=false) c hy hs (by omega) (.inl Um) ?_;rw[if_neg (by decide),hw,fK,if_pos bt,Yz];rfl
  .have sk:done=true:=bT c1;subst sk;rw[if_pos rfl] at hw;refine one (d:=true) c hy hs hT (.inr rfl) ?_;rw[if_pos rfl,hw,Yz];rfl
 .replace c:=bz c;rw[List.drop_eq_nil_of_le (by omega)] at hw;refine aa (fun c1=>?_) (fun c1=>?_)
  .have sk:done=false:=bF c1;subst sk;rw[if_neg (by decide)] at hw;refine⟨r,x.send,x.peer,x.label,⟨none,0,0⟩,hs.at 1 rfl (o:=0) (n:=5) rfl,?_⟩;refine hs.app 0 rfl JF (m:=1) [aC r x] rfl rfl (by intro q hq;rw[Ye.1 hq];rfl) rfl (by omega) (by simp only[maxLen];omega) fun DY uU ns hs=>?_;have hs:St h uU [.sl DY 33 5 ((T++[x]).map (aC r)),.af h.size (aC r x) 33]:=by rw[Ym];exact hs
   exact⟨_,rfl,by rw[hw];exact hs.sub (.cons_cons _ (List.nil_sublist _))⟩
  .have sk:done=true:=bT c1;subst sk;rw[if_pos rfl,Yw] at hw;exact⟨_,rfl,by rw[hw];exact hs.sub (.cons_cons _ (List.nil_sublist _))⟩
theorem St.Ol{h0 h:Heap}{a b:It}(hs:St h0 h [a,b]):St h0 h [b,a]:=hs.perm (List.Perm.swap b a [])
theorem FE{es:List Ed}{role:Int}{l l':List Int}(h:∀x,x∈l ↔ x∈l'):eD es role l=eD es role l':=by
 funext j
 have e:eD es role l j=true ↔ eD es role l' j=true:=by
  rw[bK,bK];exact⟨fun h1=>h1.mono fun x hx=>(h x).1 hx,fun h1=>h1.mono fun x hx=>(h x).2 hx⟩
 cases h1:eD es role l j<;>cases h2:eD es role l' j<;>simp_all
def Stl(n:Int)(l:List Int):Prop:=∀v∈l,0<=v/\v<n
theorem Qr.stl{g:Gl}(hV:ah g){role:Int}{l:List Int}(hl:Stl g.n l){v:Int}(h:Qr g.es role l v):0<=v/\v<g.n:=by
 induction h with
 | base hm=>exact hl _ hm
 | step _ hx _=>
  obtain⟨x,hx,_,_,rfl⟩:=hx;have:=hV.num.e x hx;unfold fp at this;omega
theorem pY{n:Int}:∀ {l:List Int} {a:Int},l.Pairwise (· < ·)->(∀v∈l,a<=v/\v<n)->a<=n->(l.length:Int)<=n-a
 | [],a,_,_,h=>by simp;omega
 | x::l,a,hp,hv,h=>by
  obtain⟨h1,h2⟩:=List.pairwise_cons.1 hp;have hx:=hv x Yx;have:=pY (n:=n) (l:=l) (a:=x+1) h2 (fun v hm=>⟨by have:=h1 v hm;omega,(hv v (Yn _ hm)).2⟩) (by omega);rw[jC];omega
theorem Jo{g:Gl}(hV:ah g){role:Int}{l O:List Int}(hl:Stl g.n l)(ha:O.Pairwise (· < ·))(h1:∀v∈O,Qr g.es role l v)(h2:∀v∈l,v∈O)(hc:∀x∈g.es,aG role x=none->x.f∈O->x.t∈O):O=bW (eD g.es role l):=by
 have hN:=hV.num.n;have key:∀v,Qr g.es role l v->v∈O:=fun v h=>by
  induction h with
  | base hm=>exact h2 _ hm
  | step _ hx ih=>
   obtain⟨x,hx,hv,rfl,rfl⟩:=hx;exact hc x hx hv ih
 refine LN ha fun v=>⟨fun hv=>?_,fun ⟨h0,_,h3⟩=>?_⟩
 .have h3:=h1 v hv;have h4:=h3.stl hV hl;refine⟨h4.1,by omega,bK.2 ?_⟩;rw[show ((v.toNat:Nat):Int)=v by omega];exact h3
 .have:=bK.1 h3;rw[show ((v.toNat:Nat):Int)=v by omega] at this;exact key v this
theorem kU(g:Gl)(role:Int)(l:List Int)(s:Sl)(h:Heap)(hg:GI h g)(hV:ah g)(hr:RL h 1 s aM l)(ha:l.Pairwise (· < ·))(hl:Stl g.n l):
  Fn Pz 216 #[g.v,.int .i64 role,.slice s.a s.n s.c] h fun v h'=>∃s':Sl,v=.slice s'.a s'.n s'.c/\St h h' [.sl s' 3 1 ((bW (eD g.es role l)).map aM)]:=by
 apply VE (bs g.nm) g.hr g.hd g.n g.s g.e g.he g.ht;unfold aaP;have hN:=hV.num.n;have hE:=hV.num.m;have nI:=hg.e.ln;have Cn:=hr.ln;have O4:=pY ha hl (by omega);refine (St.refl h).ao fun h9 hs=>?_;refine hs.ao fun cw hs=>?_;have hs:=hs.dz 0 1 (([]:List Int).map aM) rfl (bX _) rfl (Nat.zero_le _);refine hs.gB 0 rfl dt (hr.rw.ext hs.ext) (bX _) hr.nil (gY (fun _=>rfl) _) (by show (0+s.n)*8<=_;omega) (by show 0+s.n<=_;simp only[maxLen];omega) fun s11 CD _ hs=>?_;have hs:St h CD [.af h.size g.cs 27,.sl s11 3 1 (l.map aM)]:=hs.Ol;refine⟨fun out n h' μ=>∃(k:Nat) (O:List Int),n=(k:Int)/\μ=202-k/\(k:Int)<=g.n+1/\k<=O.length/\St h h' [.af h.size g.cs 27,.sl out 3 1 (O.map aM)]/\O.Pairwise (· < ·)/\(∀v∈O,Qr g.es role l v)/\(∀v∈l,v∈O),⟨_,0,l,rfl,rfl,by omega,Nat.zero_le _,hs,ha,fun v hv=>.base hv,fun v hv=>hv⟩,?_⟩;clear hs;rintro-out _ gJ μ ⟨k,O,rfl,rfl,hk,hkO,hs,hOa,K7,hO2⟩;have Pe:=pY hOa (fun v hv=>(K7 v hv).stl hV hl) (by omega);have hRn:=(hs.rl 1 (s:=out) (cs:=aM) rfl (by decide) (by omega)).ln;refine⟨g.n,hs.rd 0 rfl (i:=3) rfl,aQ (fun c=>?_) (fun c=>absurd c (by omega))⟩;refine⟨fun iv i h' μ'=>∃(j:Nat) (O':List Int),i=(j:Int)/\μ'=g.es.length-j/\j<=g.es.length/\St h h' [.af h.size g.cs 27,.sl iv 3 1 (O'.map aM)]/\O'.Pairwise (· < ·)/\(∀v∈O',Qr g.es role l v)/\(∀v∈l,v∈O') /\
   ((O'=O/\∀(m:Nat) x,m<j->g.es[m]?=some x->aG role x=none->x.f∈O->x.t∈O)\/O.length<O'.length),⟨_,0,O,rfl,rfl,Nat.zero_le _,hs,hOa,K7,hO2,.inl ⟨rfl,fun m x hm=>by omega⟩⟩,?_⟩
 clear hs;rintro-iv _ lu μ' ⟨j,O',rfl,rfl,hj,hs,hOa',hO1',hO2',oA⟩;have ahY:=pY hOa' (fun v hv=>(hO1' v hv).stl hV hl) (by omega);have hR:=hs.rl 1 (s:=iv) (cs:=aM) rfl (by decide) (by omega);have aeV:=hR.ln;refine⟨g.he,hs.rd 0 rfl (i:=6) rfl,aQ (fun c1=>?_) (fun c1=>?_)⟩
 .refine⟨g.he,hs.rd 0 rfl (i:=6) rfl,?_⟩;refine (hg.e.rw.ext hs.ext).ax (by omega) (by omega) fun ZZ Xk x gx t=>?_;replace gx:g.es[j]?=some x:=gx;have EK:=Yb gx;refine⟨x.f,x.a,x.b,x.l,x.t,x.ag,t,?_⟩;refine (St.refl lu).aj (vs:=x.cs) rfl rfl fun oK hx=>?_;have hs:=hs.step hx.ext;have hR:=hR.ext hx.ext;have cr:∀ {hZ:Heap},Ext oK hZ->(aG role x=none->x.f∈O->x.t∈O)\/O.length<O'.length->∃OI,OI<g.es.length-j/\∃(j':Nat) (UE:List Int),IntKind.wrap .i64 ((j:Int)+1)=(j':Int)/\OI=g.es.length-j'/\j'<=g.es.length/\St h hZ [.af h.size g.cs 27,.sl iv 3 1 (UE.map aM)]/\UE.Pairwise (· < ·)/\(∀v∈UE,Qr g.es role l v)/\(∀v∈l,v∈UE) /\
    ((UE=O/\∀(m:Nat) x,m<j'->g.es[m]?=some x->aG role x=none->x.f∈O->x.t∈O)\/O.length<UE.length):=fun {hZ} E hk=>by
   refine⟨_,(show g.es.length-(j+1)<g.es.length-j by omega),j+1,O',by rw[bd (by omega) (by omega)];omega,rfl,by omega,hs.step E,hOa',hO1',hO2',?_⟩;rcases oA with ⟨he,hc⟩ | bt
   .rcases hk with hk | hk
    .refine .inl ⟨he,fun m y hm gy=>?_⟩;by_cases e:m=j
     .subst e;rw[gx] at gy;cases gy;exact hk
     .exact hc m y (by omega) gy
    .exact .inr hk
   .exact .inr bt
  refine⟨x.f,x.a,x.b,x.l,x.t,x.ag,hx.at 0 rfl (o:=0) (n:=6) rfl,?_⟩;refine (zg x role oK).mono ?_;rintro _ oJ ⟨rfl,E1⟩;refine⟨_,rfl,aa (fun c2=>?_) (fun c2=>cr E1 (.inl fun hv=>?_))⟩;rotate_left
  .rw[hv] at c2;cases c2
  have Gd:aG role x=none:=by
   have:=bF c2;cases hv:aG role x with
   | none=>rfl
   | some e=>rw[hv] at this;cases this
  have hx:=hx.step E1;refine⟨x.f,hx.rd 0 rfl (i:=0) rfl,?_⟩;refine (ji O' x.f iv oJ (hR.rw.ext E1) hR.sm).mono ?_;rintro _ j7 ⟨⟨bb,rfl,yX⟩,E2⟩;refine⟨bb,rfl,aa (fun c3=>?_) (fun c3=>cr (E1.trans E2) ?_)⟩;rotate_left
  .have bM:x.f∉O':=cM yX c3;rcases oA with ⟨he,_⟩ | bt
   .exact .inl fun _ hf=>absurd (by rw[he];exact hf) bM
   .exact .inr bt
  have dC:x.f∈O':=yX.1 c3;have hx:=hx.step E2;refine⟨x.t,hx.rd 0 rfl (i:=4) rfl,?_⟩;refine (qq O' x.t iv j7 ((hR.rw.ext E1).ext E2) (by omega)).mono ?_;rintro _ Uq ⟨s',rfl,eO⟩;have hq:Qr g.es role l x.t:=.step (hO1' _ dC) ⟨x,EK,Gd,rfl,rfl⟩;refine⟨s',rfl,_,(show g.es.length-(j+1)<g.es.length-j by omega),j+1,dN x.t O',by rw[bd (by omega) (by omega)];omega,rfl,by omega,(((hs.step E1).step E2).join eO).Nv 1,il hOa',fun v hv=>?_,fun v hv=>gP.2 (.inr (hO2' v hv)),?_⟩
  .rcases gP.1 hv with rfl | hv
   .exact hq
   .exact hO1' v hv
  .by_cases hm:x.t∈O'
   .rw[kA hOa' hm];rcases oA with ⟨he,hc⟩ | bt
    .refine .inl ⟨he,fun m y oC gy=>?_⟩;by_cases e:m=j
     .subst e;rw[gx] at gy;cases gy;exact fun _ _=>by rw[<-he];exact hm
     .exact hc m y (by omega) gy
    .exact .inr bt
   .right
    rw[mR hm];rcases oA with ⟨he,_⟩ | bt
    .rw[he];omega
    .omega
 .refine eS (fun c2=>?_) (fun c2=>?_)
  .rcases oA with ⟨he,hc⟩ | bt
   .subst he;have e:O'=bW (eD g.es role l):=Jo hV hl hOa' hO1' hO2' fun x hx hv hf=>by
     obtain⟨m,hm⟩:=Yf.1 hx;exact hc m x (by have:=(Ya.1 hm).1;omega) hm hv hf
    exact⟨iv,rfl,by rw[<-e];exact hs.drop 1⟩
   .omega
  .have bt:O.length<O'.length:=by
    rcases oA with ⟨he,_⟩ | bt
    .rw[he] at aeV;omega
    .exact bt
   exact⟨_,(show 202-(k+1)<202-k by omega),k+1,O',by rw[bd (by omega) (by omega)];omega,rfl,by omega,by omega,hs,hOa',hO1',hO2'⟩
/-! ### events -/
theorem Sa{g:Gl}(hV:ah g){role:Int}{p:aX}{e:Ev}:e∈j8 g.es role p ↔ ∃x∈g.es,aG role x=some e/\x.f∈bW p:=by
 have hN:=hV.num.n;unfold j8;rw[fq];unfold Pq;rw[List.mem_flatMap];constructor
 .rintro⟨n,hn,hm⟩;obtain⟨a,ha,rfl⟩:=Yp.1 hm;unfold bS at ha;obtain⟨x,hx,h2⟩:=vT.1 ha;split at h2
  .rename_i hf;cases hv:aG role x with
   | none=>rw[hv] at h2;cases h2
   | some e=>
    rw[hv] at h2;injection h2 with h2;refine⟨x,hx,by rw[<-h2];exact hv,dX.2 ?_⟩;have:=br.1 hn;rw[hf];exact⟨by omega,by omega,this.2⟩
  .cases h2
 .rintro⟨x,hx,hv,hf⟩;obtain⟨h0,h1,h2⟩:=dX.1 hf;refine⟨x.f.toNat,br.2 ⟨by omega,h2⟩,Yp.2 ⟨⟨e,x.t⟩,?_,rfl⟩⟩;unfold bS;refine vT.2 ⟨x,hx,?_⟩;rw[if_pos (by omega),hv];rfl
theorem y9{g:Gl}{role:Int}{p:aX}{e:Ev}{v:Int}:v∈jZ g.es role p e ↔ ∃x∈g.es,aG role x=some e/\x.f∈bW p/\v=x.t:=by
 unfold jZ;rw[List.mem_flatMap];constructor
 .rintro⟨n,hn,hm⟩;obtain⟨a,ha,h3⟩:=vT.1 hm;unfold bS at ha;obtain⟨x,hx,h2⟩:=vT.1 ha;split at h2
  .rename_i hf;cases hv:aG role x with
   | none=>rw[hv] at h2;cases h2
   | some e'=>
    rw[hv] at h2;injection h2 with h2;subst h2;split at h3
    .rename_i he;injection h3 with h3;replace he:e'=e:=he;refine⟨x,hx,by rw[hv,he],dX.2 ?_,h3.symm⟩;have:=br.1 hn;rw[hf];exact⟨by omega,by omega,this.2⟩
    .cases h3
  .cases h2
 .rintro⟨x,hx,hv,hf,rfl⟩;obtain⟨h0,h1,h2⟩:=dX.1 hf;refine⟨x.f.toNat,br.2 ⟨by omega,h2⟩,vT.2 ⟨⟨e,x.t⟩,?_,if_pos rfl⟩⟩;unfold bS;refine vT.2 ⟨x,hx,?_⟩;rw[if_pos (by omega),hv];rfl
theorem od(g:Gl)(role:Int)(p:aX)(s:Sl)(h:Heap)(hg:GI h g)(hV:ah g)(hr:RL h 1 s aM (bW p)):
  Fn Pz 155 #[g.v,.int .i64 role,.slice s.a s.n s.c] h fun v h'=>∃s':Sl,v=.slice s'.a s'.n s'.c/\St h h' [.sl s' 33 5 ((j8 g.es role p).map (aC role))]:=by
 apply Wi (bs g.nm) g.hr g.hd g.n g.s g.e g.he g.ht;unfold abz;have hE:=hV.num.m;have nI:=hg.e.ln;refine (St.refl h).ao fun h9 hs=>?_;have hs:St h h9 [.af h.size g.cs 27,.sl ⟨none,0,0⟩ 33 5 (([]:List Ev).map (aC role))]:=(hs.cn 33 5).Ol;refine⟨fun out i h' μ=>∃(j:Nat) (T:List Ev),i=(j:Int)/\μ=g.es.length-j/\j<=g.es.length/\T.length<=j/\St h h' [.af h.size g.cs 27,.sl out 33 5 (T.map (aC role))]/\T.Pairwise cy/\∀e,e∈T ↔ ∃(m:Nat) (x:Ed),m<j/\g.es[m]?=some x/\aG role x=some e/\x.f∈bW p,
  ⟨_,0,[],rfl,rfl,Nat.zero_le _,Nat.zero_le _,hs,.nil,fun e=>⟨fun he=>(by cases he),fun ⟨m,x,hm,_⟩=>(by omega)⟩⟩,?_⟩
 clear hs;rintro-out _ tD μ ⟨j,T,rfl,rfl,hj,hT,hs,hTa,K6⟩;refine⟨g.he,hs.rd 0 rfl (i:=6) rfl,aQ (fun c=>?_) (fun c=>?_)⟩
 .refine⟨g.he,hs.rd 0 rfl (i:=6) rfl,?_⟩;refine (hg.e.rw.ext hs.ext).ax (by omega) (by omega) fun ZZ Xk x gx t=>?_;replace gx:g.es[j]?=some x:=gx;refine⟨x.f,x.a,x.b,x.l,x.t,x.ag,t,?_⟩;refine (St.refl tD).aj (vs:=x.cs) rfl rfl fun rM hx=>?_;have hs:=hs.step hx.ext;have cr:∀ {hZ:Heap},Ext rM hZ->(∀e,aG role x=some e->x.f∉bW p)->∃OI,OI<g.es.length-j/\∃(j':Nat) (T:List Ev),IntKind.wrap .i64 ((j:Int)+1)=(j':Int)/\OI=g.es.length-j'/\j'<=g.es.length/\T.length<=j'/\St h hZ [.af h.size g.cs 27,.sl out 33 5 (T.map (aC role))]/\T.Pairwise cy/\∀e,e∈T ↔ ∃(m:Nat) (x:Ed),m<j'/\g.es[m]?=some x/\aG role x=some e/\x.f∈bW p:=fun {hZ} E bM=>by
   refine⟨_,(show g.es.length-(j+1)<g.es.length-j by omega),j+1,T,by rw[bd (by omega) (by omega)];omega,rfl,by omega,by omega,hs.step E,hTa,fun e=>(K6 e).trans ⟨fun ⟨m,y,hm,h1⟩=>⟨m,y,by omega,h1⟩,fun ⟨m,y,hm,gy,hv,hf⟩=>?_⟩⟩;by_cases e2:m=j
   .subst e2;rw[gx] at gy;cases gy;exact absurd hf (bM e hv)
   .exact⟨m,y,by omega,gy,hv,hf⟩
  refine⟨x.f,x.a,x.b,x.l,x.t,x.ag,hx.at 0 rfl (o:=0) (n:=6) rfl,?_⟩;refine (zg x role rM).mono ?_;rintro _ fO ⟨rfl,E1⟩;refine⟨_,rfl,aa (fun c2=>?_) (fun c2=>cr E1 fun e hv=>by rw[hv] at c2;cases c2)⟩;obtain⟨e,hv⟩:∃e,aG role x=some e:=Option.isSome_iff_exists.1 c2;have hx:=hx.step E1;refine⟨x.f,hx.rd 0 rfl (i:=0) rfl,?_⟩;refine (ji (bW p) x.f s fO (hr.rw.ext (hs.step E1).ext) hr.sm).mono ?_;rintro _ km ⟨⟨bb,rfl,yX⟩,E2⟩;refine⟨bb,rfl,aa (fun c3=>?_) (fun c3=>cr (E1.trans E2) fun _ _=>cM yX c3)⟩;have dC:x.f∈bW p:=yX.1 c3;have hx:=hx.step E2;refine⟨x.f,x.a,x.b,x.l,x.t,x.ag,hx.at 0 rfl (o:=0) (n:=6) rfl,?_⟩;refine (CM x role e hv km).mono ?_;rintro _ Pk ⟨rfl,E3⟩;refine⟨role,e.send,e.peer,e.label,⟨none,0,0⟩,rfl,?_⟩;have hs:=((hs.step E1).step E2).step E3;refine (EH role T e out Pk (hs.rows 1 rfl (by decide)) (by omega)).mono ?_;rintro _ jO ⟨s',rfl,gN⟩;have hl:=qO e T;refine⟨s',rfl,_,(show g.es.length-(j+1)<g.es.length-j by omega),j+1,fK e T,by rw[bd (by omega) (by omega)];omega,rfl,by omega,by omega,(hs.join gN).Nv 1,jq e T hTa,fun e'=>?_⟩;rw[l4,K6];constructor
  .rintro (rfl | ⟨m,y,hm,h1⟩)
   .exact⟨j,x,by omega,gx,hv,dC⟩
   .exact⟨m,y,by omega,h1⟩
  .rintro⟨m,y,hm,gy,vJ,hf⟩;by_cases e2:m=j
   .subst e2;rw[gx] at gy;cases gy;rw[hv] at vJ;cases vJ;exact .inl rfl
   .exact .inr ⟨m,y,by omega,gy,vJ,hf⟩
 .have e:T=j8 g.es role p:=fB _ _ hTa (dm _) fun e=>by
   rw[K6];refine Iff.trans ?_ (Sa hV).symm;constructor
   .rintro⟨m,x,_,gx,h1,h2⟩;exact⟨x,Yb gx,h1,h2⟩
   .rintro⟨x,hx,h1,h2⟩;obtain⟨m,hm⟩:=Yf.1 hx;exact⟨m,x,by have:=(Ya.1 hm).1;omega,hm,h1,h2⟩
  exact⟨out,rfl,by rw[<-e];exact hs.drop 1⟩
theorem zp(g:Gl)(role:Int)(p:aX)(e:Ev)(s:Sl)(h:Heap)(hg:GI h g)(hV:ah g)(hr:RL h 1 s aM (bW p)):
  Fn Pz 156 #[g.v,.int .i64 role,.slice s.a s.n s.c,.agg ⟨aC role e⟩] h fun v h'=>∃s':Sl,v=.slice s'.a s'.n s'.c/\St h h' [.sl s' 3 1 ((bW (eD g.es role (jZ g.es role p e))).map aM)]:=by
 apply Wh (bs g.nm) g.hr g.hd g.n g.s g.e g.he g.ht role s role e.send e.peer e.label ⟨none,0,0⟩;unfold aby;have hE:=hV.num.m;have nI:=hg.e.ln;refine (St.refl h).ao fun uW hs=>?_;refine hs.ao fun tD hs=>?_;have hs:St h tD [.af uW.size (aC role e) 33,.af h.size g.cs 27]:=hs;have hs:St h tD [.af uW.size (aC role e) 33,.af h.size g.cs 27,.sl ⟨none,0,0⟩ 3 1 (([]:List Int).map aM)]:=(hs.cn 3 1).perm (List.perm_append_comm (l₁:=[_]) (l₂:=[_,_]));refine⟨fun out i h' μ=>∃(j:Nat) (T:List Int),i=(j:Int)/\μ=g.es.length-j/\j<=g.es.length/\T.length<=j/\St h h' [.af uW.size (aC role e) 33,.af h.size g.cs 27,.sl out 3 1 (T.map aM)]/\T.Pairwise (· < ·)/\∀v,v∈T ↔ ∃(m:Nat) (x:Ed),m<j/\g.es[m]?=some x/\aG role x=some e/\x.f∈bW p/\v=x.t,
  ⟨_,0,[],rfl,rfl,Nat.zero_le _,Nat.zero_le _,hs,.nil,fun e=>⟨fun he=>(by cases he),fun ⟨m,x,hm,_⟩=>(by omega)⟩⟩,?_⟩
 clear hs;rintro-out _ ko μ ⟨j,T,rfl,rfl,hj,hT,hs,hTa,K6⟩;refine⟨g.he,hs.rd 1 rfl (i:=6) rfl,aQ (fun c=>?_) (fun c=>?_)⟩
 .refine⟨g.he,hs.rd 1 rfl (i:=6) rfl,?_⟩;refine (hg.e.rw.ext hs.ext).ax (by omega) (by omega) fun ZZ Xk x gx t=>?_;replace gx:g.es[j]?=some x:=gx;refine⟨x.f,x.a,x.b,x.l,x.t,x.ag,t,?_⟩;refine (St.refl ko).aj (vs:=x.cs) rfl rfl fun pG hx=>?_;have hs:=hs.step hx.ext;have cr:∀ {hZ:Heap},Ext pG hZ->¬(aG role x=some e/\x.f∈bW p)->∃OI,OI<g.es.length-j/\∃(j':Nat) (T:List Int),IntKind.wrap .i64 ((j:Int)+1)=(j':Int)/\OI=g.es.length-j'/\j'<=g.es.length/\T.length<=j'/\St h hZ [.af uW.size (aC role e) 33,.af h.size g.cs 27,.sl out 3 1 (T.map aM)]/\T.Pairwise (· < ·)/\∀v,v∈T ↔ ∃(m:Nat) (x:Ed),m<j'/\g.es[m]?=some x/\aG role x=some e/\x.f∈bW p/\v=x.t:=fun {hZ} E bM=>by
   refine⟨_,(show g.es.length-(j+1)<g.es.length-j by omega),j+1,T,by rw[bd (by omega) (by omega)];omega,rfl,by omega,by omega,hs.step E,hTa,fun v=>(K6 v).trans ⟨fun ⟨m,y,hm,h1⟩=>⟨m,y,by omega,h1⟩,fun ⟨m,y,hm,gy,hv,hf,QO⟩=>?_⟩⟩;by_cases e2:m=j
   .subst e2;rw[gx] at gy;cases gy;exact absurd ⟨hv,hf⟩ bM
   .exact⟨m,y,by omega,gy,hv,hf,QO⟩
  refine⟨x.f,x.a,x.b,x.l,x.t,x.ag,hx.at 0 rfl (o:=0) (n:=6) rfl,?_⟩;refine (zg x role pG).mono ?_;rintro _ vO ⟨rfl,E1⟩;refine⟨_,rfl,aa (fun c2=>?_) (fun c2=>cr E1 fun ⟨hv,_⟩=>by rw[hv] at c2;cases c2)⟩;obtain⟨e',hv⟩:∃e,aG role x=some e:=Option.isSome_iff_exists.1 c2;have hx:=hx.step E1;have hs:=hs.step E1;refine⟨x.f,x.a,x.b,x.l,x.t,x.ag,hx.at 0 rfl (o:=0) (n:=6) rfl,role,e.send,e.peer,e.label,⟨none,0,0⟩,hs.at 0 rfl (o:=0) (n:=5) rfl,?_⟩;refine (CM x role e' hv vO).mono ?_;rintro _ II ⟨rfl,E2⟩;refine⟨role,e'.send,e'.peer,e'.label,⟨none,0,0⟩,rfl,E2.sm,?_⟩;refine (lI role e' e II).mono ?_;rintro _ oI ⟨rfl,E3⟩;refine⟨_,rfl,E3.sm,aa (fun c3=>?_) (fun c3=>cr ((E1.trans E2).trans E3) fun ⟨h1,_⟩=>eI c3 (by rw[hv] at h1;exact eP h1))⟩;have he:e'=e:=cd c3;subst he;have hx:=(hx.step E2).step E3;have hs:=(hs.step E2).step E3;refine⟨x.f,hx.rd 0 rfl (i:=0) rfl,?_⟩;refine (ji (bW p) x.f s oI (hr.rw.ext hs.ext) hr.sm).mono ?_;rintro _ IH ⟨⟨bb,rfl,yX⟩,E4⟩;refine⟨bb,rfl,E4.sm,aa (fun c4=>?_) (fun c4=>cr (((E1.trans E2).trans E3).trans E4) fun ⟨_,h1⟩=>cM yX c4 h1)⟩;have dC:x.f∈bW p:=yX.1 c4;have hx:=hx.step E4;refine⟨x.t,hx.rd 0 rfl (i:=4) rfl,?_⟩;have hs:=hs.step E4;refine (qq T x.t out IH (hs.rows 2 rfl (by decide)) (by omega)).mono ?_;rintro _ Ng ⟨s',rfl,Aq⟩;have hl:(dN x.t T).length<=T.length+1:=by
   by_cases hm:x.t∈T
   .rw[kA hTa hm];omega
   .rw[mR hm];exact bu _
  refine⟨s',rfl,_,(show g.es.length-(j+1)<g.es.length-j by omega),j+1,dN x.t T,by rw[bd (by omega) (by omega)];omega,rfl,by omega,by omega,(hs.join Aq).Nv 2,il hTa,fun v=>?_⟩;rw[gP,K6];constructor
  .rintro (rfl | ⟨m,y,hm,h1⟩)
   .exact⟨j,x,by omega,gx,hv,dC,rfl⟩
   .exact⟨m,y,by omega,h1⟩
  .rintro⟨m,y,hm,gy,vJ,hf,QO⟩;by_cases e2:m=j
   .subst e2;rw[gx] at gy;cases gy;exact .inl QO
   .exact .inr ⟨m,y,by omega,gy,vJ,hf,QO⟩
 .have dh:∀v,v∈T ↔ v∈jZ g.es role p e:=fun v=>by
   rw[K6];refine Iff.trans ?_ y9.symm;constructor
   .rintro⟨m,x,_,gx,h1,h2,h3⟩;exact⟨x,Yb gx,h1,h2,h3⟩
   .rintro⟨x,hx,h1,h2,h3⟩;obtain⟨m,hm⟩:=Yf.1 hx;exact⟨m,x,by have:=(Ya.1 hm).1;omega,hm,h1,h2,h3⟩
  refine⟨bs g.nm,g.hr,g.hd,g.n,g.s,g.e,g.he,g.ht,hs.at 1 rfl (o:=0) (n:=8) rfl,?_⟩;refine (kU g role T out ko (hg.ext hs.ext) hV (hs.rl 2 rfl (by decide) (by omega)) hTa fun v hv=>?_).mono ?_
  .obtain⟨m,x,_,gx,_,_,rfl⟩:=(K6 v).1 hv;have:=hV.num.e x (Yb gx);unfold fp at this;omega
  rintro _ jN ⟨s',rfl,cj⟩;exact⟨s',rfl,s',rfl,by rw[<-FE dh];exact (hs.join cj).drop 3⟩
/-! ### sets in memory -/
structure SR where
 s:Sl
 p:aX
def SR.cs(x:SR):List Value:=dv x.s
structure SsI (h:Heap) (s:Sl) (Q:List SR):Prop where
 r:RL h 1 s SR.cs Q
 i:∀q∈Q,RL h 1 q.s aM (bW q.p)
def Below(p:aX):Prop:=∀j,p j=true->j<4096
theorem RZ(Q:List SR)(s t:Sl)(p:aX)(h:Heap)(hQ:SsI h s Q)(ht:RL h 1 t aM (bW p))(hb:∀q∈Q,Below q.p)(hp:Below p):
  Fn Pz 157 #[.slice s.a s.n s.c,.slice t.a t.n t.c] h fun v h'=>Ext h h'/\((p∈Q.map SR.p/\v=.int .i64 (fe (Q.map SR.p) p:Nat))\/(p∉Q.map SR.p/\v=.int .i64 (-1))):=by
 apply Wg s t;unfold abx;have hn:=hQ.r.ln;have yS:=hQ.r.sm;refine bU (n:=s.n) (fun i h'=>Ext h h'/\∀(j:Nat) q,j<i->(Q.map SR.p)[j]?=some q->q≠p) ⟨.jg,fun j q hj=>by omega⟩ ?_;rintro-i h5 hi ⟨E,hq⟩;refine aa (fun c=>?_) (fun c=>?_)
 .replace c:=bw c;refine (hQ.r.rw.ext E).ax (by omega) (by omega) fun b6 o7 q gq t6=>?_;replace gq:Q[i]?=some q:=gq;have KY:=Yb gq;have gp:(Q.map SR.p)[i]?=some q.p:=by rw[Yd,gq];rfl
  refine⟨q.s,t6.hd,?_⟩;refine (LR (bW q.p) (bW p) q.s t h5 ((hQ.i q KY).rw.ext E) (ht.rw.ext E) (hQ.i q KY).sm).mono ?_;rintro _ _ ⟨rfl,rfl⟩;refine⟨_,rfl,aa (fun c2=>?_) (fun c2=>Up.next c (by omega) ⟨E,fun j q' hj uZ=>?_⟩)⟩
  .have e:q.p=p:=G3 (hb q KY) hp (cd c2);rw[e] at gp;exact⟨E,.inl ⟨Yb gp,by rw[qm gp hq]⟩⟩
  .by_cases e:j=i
   .subst e;rw[gp] at uZ;cases uZ;intro e2;rw[e2] at c2;simp at c2
   .exact hq j q' (by omega) uZ
 .replace c:=bz c;refine⟨E,.inr ⟨fun hm=>?_,rfl⟩⟩;obtain⟨j,hj⟩:=Yf.1 hm;exact hq j p (by have:=(Ya.1 hj).1;rw[Yc] at this;omega) hj rfl
theorem St.rlm{h0 h:Heap}{L:List It}(hs:St h0 h L){s:Sl}{e n:Nat}{α:Type}{cs:α->List Value}{X:List α}(hk:It.sl s e n (X.map cs)∈L)(hn:0<n)(hX:X.length<=1048576):RL h n s cs X:=by
 obtain⟨k,hk⟩:=Yf.1 hk;exact hs.rl k hk hn hX
theorem St.Xw{h0 h h1 h':Heap}{L L':List It}(hs:St h0 h L)(cj:St h1 h' L')(k k' o:Nat){b:Nat}{xs:List Value}{e:TypeId}(hk:L[k]?=some (.af b xs e))(tu:L'[k']?=some (.af b xs e)):Sm [⟨b,o,none⟩] h h':=by
 intro a ha i v hv;rw[Ye.1 ha] at hv ⊢;have e1:h[b]?=some (.cells ⟨xs⟩ e):=hs.get hk;have e2:h'[b]?=some (.cells ⟨xs⟩ e):=cj.get tu;have e3:h'[b]?=h[b]?:=by rw[e1,e2]
 rw[dQ (h:=h) (h':=h') (a:=fT ⟨b,o,none⟩ i) (by rw[eZ];exact e3)];exact hv
theorem St.SQ{h0 h h2:Heap}{L:List It}(hs:St h0 h L)(kb ks:Nat){cb:Nat}{xs:List Value}{e0 t e:TypeId}{n bytes:Nat}{α:Type}{cs:α->List Value}{so:Sl}{X:List α}{x:α}(Io:L[kb]?=some (.af cb xs e0))(Re:L[ks]?=some (.sl so e n (X.map cs)))
  (hT:cu Pz t e n bytes=true) (e2:h2=h.push (.cells ⟨cs x⟩ e)) (hc:(cs x).length=n) (ho:(cs x).all eF=true) (hn:X.length<=1000000) (XZ:0<n/\bytes<=56) (f:Nat) (hf:f<xs.length) (bI:ks≠kb) {K:Heap->Prop}
  (hK:∀(s':Sl) (h':Heap),St h0 h' ((L.set ks (.sl s' e n ((X++[x]).map cs))).set kb (.af cb (aA xs f [.slice s'.a s'.n s'.c]) e0))->K h') :
  Sm [⟨cb,f,none⟩] h h2/\App Pz t t (.slice so.a so.n so.c) (.slice (some ⟨h.size,0,none⟩) 1 1) h2 fun ug jO=>jl jO ⟨cb,f,none⟩ 1/\∀sn:Heap,sn=bJ jO ⟨cb,f,none⟩ 0 [.slice ug.a ug.n ug.c]->K sn:=by
 have bQ:St h0 h2 (.af h.size (cs x) e::L):=hs.ao (K:=fun h2=>St h0 h2 (.af h.size (cs x) e::L)) (fun _ h=>h) h2 e2;have hl:=(hs.len ks (s:=so) Re XZ.1).1;rw[Yc] at hl;refine⟨hs.Xw bQ kb (kb+1) f Io Io,?_⟩;have nJ:(so.n+1)*bytes<=1000001*56:=Nat.mul_le_mul (by omega) XZ.2;refine bQ.appended (ks+1) (s:=so) Re hT (x:=⟨h.size,0,none⟩) (m:=1) (c:=1) (news:=[cs x]) (bQ.at 0 rfl (o:=0) (n:=n) (by rw[List.drop_zero,<-hc,vV];simp)) rfl (by intro r hr;rw[Ye.1 hr];exact hc) (by simpa using ho) (by omega) (by simp only[maxLen];omega) fun ug jO n55 eO=>?_;have eO:St h0 jO (L.set ks (.sl ug e n (X.map cs++[cs x]))):=eO.drop 1;refine eO.put kb (by rw[Yy bI];exact Io) (o:=f) (vs:=[.slice ug.a ug.n ug.c]) rfl (by show f+1<=xs.length;omega) fun sn gN=>hK ug sn ?_;rw[Ym];exact gN
def rQ(g:Gl)(role:Int):Prop:=ah g/\0<=role/\role<g.rs.length
theorem zm(g:Gl)(role:Int)(h:Heap)(hg:GI h g)(hM:KK g.ds):
  Fn Pz 154 #[g.v,.int .i64 role] h fun v h'=>(¬rQ g role/\v=.tuple ⟨[.slice none 0 0,.int .i64 1]⟩/\Ext h h')\/(rQ g role/\∃s:Sl,v=.tuple ⟨[.slice s.a s.n s.c,.int .i64 0]⟩/\St h h' [.sl s 3 1 ((bW (eD g.es role [g.s])).map aM)]):=by
 apply Wj (bs g.nm) g.hr g.hd g.n g.s g.e g.he g.ht;unfold abA;refine (St.refl h).ao fun h9 hs=>?_;refine⟨_,_,_,_,_,_,_,_,hs.at 0 rfl (o:=0) (n:=8) rfl,?_⟩;refine (IV g role h9 (hg.ext hs.ext) hM).mono ?_;rintro _ az ⟨⟨b,rfl,hb⟩,E⟩;have hs:=hs.step E;refine⟨b,rfl,aa (fun c=>.inl ⟨cM hb (bF c),rfl,hs.ext⟩) (fun c=>?_)⟩;have hG:rQ g role:=hb.1 (bT c);have hN:=hG.1.num.n;refine⟨_,_,_,_,_,_,_,_,hs.at 0 rfl (o:=0) (n:=8) rfl,g.s,hs.rd 0 rfl (i:=4) rfl,?_⟩;refine (St.refl az).ao fun y3 dA=>?_;have hR:RL y3 1 ⟨some ⟨az.size,0,none⟩,1,1⟩ aM [g.s]:=(dA.dz 1 1 ([g.s].map aM) rfl (bX _) rfl (by decide)).rl 0 rfl (by decide) (by show 1<=_;decide);have hs:=hs.step dA.ext;refine (kU g role [g.s] _ y3 (hg.ext hs.ext) hG.1 hR (List.pairwise_singleton _ _) (fun v hv=>by rw[Ye.1 hv];omega)).mono ?_;rintro _ pG ⟨s,rfl,bQ⟩;exact⟨s,rfl,.inr ⟨hG,s,rfl,(hs.join bQ).drop 1⟩⟩
/-! ### the view table -/
theorem Z3:cu Pz 159 102 1 24=true:=by kernel_rfl
def rF(g:Gl)(p:aX):Prop:=(∀j,p j=true->(j:Int)<g.n)/\∃j,p j=true
def SR.it(q:SR):It:=.sl q.s 3 1 ((bW q.p).map aM)
theorem tS{es:List Ed}{role:Int}{i:Nat}{p:aX}:∀(l:List Ev) (S:List aX) (M:List Mv),S.length<=(cH es role i p l S M).1.length
 | [],_,_=>bu _
 | x::r,S,M=>by
  rw[cH];refine iX ?_ (tS r _ _);unfold fW;split
  .exact bu _
  .rw[Yh];omega
theorem SR.rl{h0 h:Heap}{A:List It}{q:SR}(hs:St h0 h A)(hq:q.it∈A):RL h 1 q.s aM (bW q.p):=hs.rlm hq (by decide) (by have:=wq q.p;omega)
inductive RfV (g:Gl) (role:Int) (h h':Heap):Value->Prop
 | bad (hG:¬rQ g role) (E:Ext h h'):RfV g role h h' (.tuple ⟨[.agg ⟨[.slice none 0 0,.slice none 0 0,.slice none 0 0]⟩,.int .i64 1]⟩)
 | lim (hG:rQ g role) (hv:views g role=none) (E:Ext h h'):RfV g role h h' (.tuple ⟨[.agg ⟨[.slice none 0 0,.slice none 0 0,.slice none 0 0]⟩,.int .i64 6]⟩)
 | ok (hG:rQ g role) (ss fs cD:Sl) (Q:List SR) (M:List Mv) (A:List It) (hv:views g role=some (Q.map SR.p,M)) (hs:St h h' (.sl ss 102 1 (Q.map SR.cs) :: .sl fs 4 1 ((Q.map fun q=>q.p g.e.toNat).map bC) :: .sl cD 273 6 (M.map Mv.cs)::A))
   (hA:∀q∈Q,q.it∈A) (hB:∀q∈Q,rF g q.p) (hQ:Q.length<=200) (hM:M.length<=80000):RfV g role h h' (.tuple ⟨[.agg ⟨[.slice ss.a ss.n ss.c,.slice fs.a fs.n fs.c,.slice cD.a cD.n cD.c]⟩,.int .i64 0]⟩)
abbrev Oe(cb rb gb:Nat)(g:Gl)(ss fs cD:Sl)(Q:List SR)(F:List Bool)(M:List Mv)(A:List It):List It:=
 .af cb [.slice ss.a ss.n ss.c,.slice fs.a fs.n fs.c,.slice cD.a cD.n cD.c] 161 :: .sl ss 102 1 (Q.map SR.cs) :: .sl fs 4 1 (F.map bC) :: .sl cD 273 6 (M.map Mv.cs) :: .af rb [.slice none 0 0,.slice none 0 0,.slice none 0 0] 161 :: .af gb g.cs 27::A
theorem zk(g:Gl)(role:Int)(h:Heap)(hg:GI h g)(hM:KK g.ds):Fn Pz 85 #[g.v,.int .i64 role] h fun v h'=>RfV g role h h' v:=by
 apply acO (bs g.nm) g.hr g.hd g.n g.s g.e g.he g.ht;unfold W85;refine (St.refl h).ao fun h9 hs=>?_;refine hs.ao fun cw hs=>?_;refine⟨_,_,_,_,_,_,_,_,hs.at 1 rfl (o:=0) (n:=8) rfl,?_⟩;refine (zm g role cw (hg.ext hs.ext) hM).mono ?_;rintro _ cR (⟨hG,rfl,E⟩ | ⟨hG,s0,rfl,mN⟩)
 .refine⟨⟨none,0,0⟩,1,rfl,dY (fun _=>?_) (fun c=>absurd c (by decide))⟩;refine (hs.step E).put 0 rfl (o:=0) (vs:=[.slice none 0 0,.slice none 0 0,.slice none 0 0]) rfl (bu 3) fun nM hs=>?_;exact⟨⟨none,0,0⟩,⟨none,0,0⟩,⟨none,0,0⟩,hs.at 0 rfl (o:=0) (n:=3) rfl,.bad hG hs.ext⟩
 have hV:=hG.1;have hN:=hV.num.n;refine⟨s0,0,rfl,dY (fun c=>absurd rfl c) (fun _=>?_)⟩;have vK:rF g (eD g.es role [g.s]):=⟨fun j hj=>rj hV (fun v hv=>by rw[Ye.1 hv];omega) j hj,g.s.toNat,bK.2 (by rw[show ((g.s.toNat:Nat):Int)=g.s by omega];exact .base Yx)⟩;have hs:=hs.join mN;refine hs.ao fun rM hs=>?_;have hs:=hs.dz 1 1 ([(⟨s0,eD g.es role [g.s]⟩:SR)].map SR.cs) rfl (by intro r hr;rw[Ye.1 hr];rfl) rfl (by decide);refine hs.aj (vs:=[.slice (some ⟨cR.size,0,none⟩) 1 1,.slice none 0 0,.slice none 0 0]) rfl rfl fun K8 hs=>?_;have hs:St h K8 (Oe rM.size h9.size h.size g ⟨some ⟨cR.size,0,none⟩,1,1⟩ ⟨none,0,0⟩ ⟨none,0,0⟩ [⟨s0,eD g.es role [g.s]⟩] [] [] [SR.it ⟨s0,eD g.es role [g.s]⟩]):=by
  have h1:=(hs.cn 273 6).cn 4 1;exact h1.perm (by
   show List.Perm [It.sl _ 4 1 _,.sl _ 273 6 _,.af rM.size _ 161,.sl _ 102 1 _,.af h9.size _ 161,.af h.size _ 27,_] [.af rM.size _ 161,.sl _ 102 1 _,It.sl _ 4 1 _,.sl _ 273 6 _,.af h9.size _ 161,.af h.size _ 27,_];exact List.perm_append_comm_assoc [_,_] [_,_] _)
 refine⟨fun x h' μ=>∃(i:Nat) (Q:List SR) (M:List Mv) (A:List It) (ss fs cD:Sl),x=(i:Int)/\μ=202-i/\i<=Q.length/\Q.length<=200/\M.length<=400*i/\views g role=du g.es role (202-i) i (Q.map SR.p) M/\St h h' (Oe rM.size h9.size h.size g ss fs cD Q ((Q.take i).map fun q=>q.p g.e.toNat) M A) /\
   (∀q∈Q,q.it∈A)/\(∀q∈Q,rF g q.p),⟨_,0,_,[],_,_,_,_,rfl,rfl,Nat.zero_le _,by show 1<=200;decide,Nat.zero_le _,rfl,hs,fun q hq=>by rw[Ye.1 hq];exact Yx,fun q hq=>by rw[Ye.1 hq];exact vK⟩,?_⟩
 clear hs mN;rintro-_ kP μ ⟨i,Q,M,A,ss,fs,cD,rfl,rfl,hiQ,hQ,Y5,yQ,hs,hA,hB⟩;have ki:=(hs.rows 1 rfl (by decide)).ln;obtain⟨f,hf⟩:∃f,202-i=f+1:=⟨201-i,by omega⟩;rw[hf] at yQ;refine⟨ss,hs.rd 0 rfl (i:=0) rfl,aQ (fun c=>?_) (fun c=>?_)⟩;rotate_left
 .-- the table is done
  have hie:i=Q.length:=by omega
  subst hie;rw[vV] at hs;have e:(Q.map SR.p)[Q.length]?=none:=Yl (by rw[Yc];exact bu _);rw[du,e] at yQ;refine⟨ss,fs,cD,hs.at 0 rfl (o:=0) (n:=3) rfl,?_⟩;refine hs.put 4 rfl (o:=0) (vs:=[.slice ss.a ss.n ss.c,.slice fs.a fs.n fs.c,.slice cD.a cD.n cD.c]) rfl (bu 3) fun afv hs=>?_;refine⟨ss,fs,cD,hs.at 4 rfl (o:=0) (n:=3) rfl,.ok hG ss fs cD Q M (.af h9.size _ 161 :: .af h.size g.cs 27::A) yQ (hs.drop 1) (fun q hq=>Yn _ (Yn _ (hA q hq))) hB hQ (by omega)⟩
 obtain⟨q,gq⟩:=get_some (l:=Q) (i:=i) (by omega);have KY:=Yb gq;have gp:(Q.map SR.p)[i]?=some q.p:=by rw[Yd,gq];rfl
 rw[du,gp] at yQ;replace yQ:views g role=if (cH g.es role i q.p (j8 g.es role q.p) (Q.map SR.p) M).1.length>200 then none else du g.es role f (i+1) (cH g.es role i q.p (j8 g.es role q.p) (Q.map SR.p) M).1 (cH g.es role i q.p (j8 g.es role q.p) (Q.map SR.p) M).2:=yQ
 have Ab:∀ {L:List It} {x:It} {a b c d e f:It},x∈L->x∈a::b::c::d::e::f::L:=fun h=>by simp[h]
 have rowAt:∀ {hX:Heap} {ss fs cD:Sl} {Q':List SR} {F:List Bool} {M:List Mv} {A:List It} {K:Nat->Nat->Prop},St h hX (Oe rM.size h9.size h.size g ss fs cD Q' F M A)->Q'[i]?=some q->(∀b o,hc hX ⟨b,o+Int.toNat (i:Int)*1,none⟩=some (.slice q.s.a q.s.n q.s.c)->K b o)->NB ss.a fun b o=>(0<=(i:Int)/\(i:Int)<(ss.n:Nat))/\K b o:=fun {hX ss fs cD Q' F M A K} hs gq hK=>by
  have hr:=hs.rows 1 rfl (by decide);refine hr.ax (by omega) (by have:=hr.ln;have:=(Ya.1 gq).1;omega) fun b o q' uZ t=>hK b o ?_;replace uZ:Q'[i]?=some q':=uZ;rw[gq] at uZ;cases uZ;exact t.hd
 refine⟨fs,hs.rd 0 rfl (i:=1) rfl,ss,hs.rd 0 rfl (i:=0) rfl,rowAt hs gq fun b38 o39 t=>⟨q.s,t,g.e,hs.rd 5 rfl (i:=5) rfl,?_⟩⟩;have hqR:=SR.rl hs (Ab (hA q KY));refine (ji (bW q.p) g.e q.s kP hqR.rw hqR.sm).mono ?_;rintro _ Az ⟨⟨bb,rfl,yX⟩,E⟩;have Fh:bb=q.p g.e.toNat:=by
  have h1:g.e∈bW q.p ↔ q.p g.e.toNat=true:=by rw[dX];exact⟨fun h=>h.2.2,fun h=>⟨by omega,by omega,h⟩⟩
  cases hb:q.p g.e.toNat<;>cases bb<;>simp_all
 subst Fh;refine⟨_,rfl,E.sm,fun CA e45=>?_⟩;have hs:=hs.step E;refine hs.SQ 0 2 rfl rfl (cs:=bC) (x:=q.p g.e.toNat) PD e45 rfl rfl (by rw[Yc,Yu];omega) ⟨by decide,by decide⟩ 1 (show 1<3 by decide) (by decide) fun pR Ay hs=>?_;have hF:((Q.take i).map fun q=>q.p g.e.toNat)++[q.p g.e.toNat]=(Q.take (i+1)).map fun q=>q.p g.e.toNat:=by rw[ae gq,Ym];rfl
 rw[hF] at hs;replace hs:St h Ay (Oe rM.size h9.size h.size g ss pR cD Q ((Q.take (i+1)).map fun q=>q.p g.e.toNat) M A):=hs;refine⟨_,_,_,_,_,_,_,_,hs.at 5 rfl (o:=0) (n:=8) rfl,ss,hs.rd 0 rfl (i:=0) rfl,rowAt hs gq fun b58 o59 t=>⟨q.s,t,?_⟩⟩;refine (od g role q.p q.s Ay (hg.ext hs.ext) hV (SR.rl hs (Ab (hA q KY)))).mono ?_;rintro _ oI ⟨le,rfl,hle⟩;have Uh:=pS (role:=role) (p:=q.p) hV;have hs:=hs.join hle;refine⟨le,rfl,?_⟩;have hQF:(Q.take (i+1)).length=i+1:=by rw[Yu];omega
 generalize hFe:((Q.take (i+1)).map fun q=>q.p g.e.toNat)=F at *;replace hs:St h oI (Oe rM.size h9.size h.size g ss pR cD Q F M (A++[It.sl le 33 5 ((j8 g.es role q.p).map (aC role))])):=hs;generalize hev:j8 g.es role q.p=ev at *;refine⟨fun x h' μ'=>∃(k:Nat) (Q':List SR) (M':List Mv) (A':List It) (Bo FT:Sl),x=(k:Int)/\μ'=ev.length-k/\k<=ev.length/\(∃T,Q'=Q++T)/\Q'.length<=200/\M'.length<=400*i+k/\cH g.es role i q.p (ev.drop k) (Q'.map SR.p) M'=cH g.es role i q.p ev (Q.map SR.p) M /\
   St h h' (Oe rM.size h9.size h.size g Bo pR FT Q' F M' A')/\(∀q∈Q',q.it∈A')/\It.sl le 33 5 (ev.map (aC role))∈A'/\(∀q∈Q',rF g q.p),
  ⟨_,0,Q,M,A++[It.sl le 33 5 (ev.map (aC role))],ss,cD,rfl,rfl,Nat.zero_le _,⟨[],by rw[Yw]⟩,hQ,Y5,rfl,hs,fun q hq=>List.mem_append_left _ (hA q hq),List.mem_append_right _ (Ye.2 rfl),hB⟩,?_⟩
 clear hs hle hqR;rintro-_ Zc μ' ⟨k,Q',M',A',Bo,FT,rfl,rfl,hk,⟨T,hT⟩,hQ',hM',qT,hs,hA',hle,Un⟩;have uZ:Q'[i]?=some q:=by rw[hT,lg (by omega)];exact gq
 have Fa:RL Zc 5 le (aC role) ev:=hs.rlm (Ab hle) (by decide) (by omega);have hlen:=Fa.ln;refine aQ (fun c2=>?_) (fun c2=>?_);rotate_left
 .have hke:k=ev.length:=by omega
  subst hke;rw[List.drop_length,cH] at qT;refine⟨_,(show 202-(i+1)<202-i by omega),i+1,Q',M',A',Bo,pR,FT,by rw[bd (by omega) (by omega)];omega,rfl,by rw[hT,Yh];omega,hQ',by omega,?_,?_,hA',Un⟩
  .rw[yQ,<-qT];show (if (Q'.map SR.p).length>200 then none else du g.es role f (i+1) (Q'.map SR.p) M')=_;rw[if_neg (by rw[Yc];omega),show 202-(i+1)=f by omega]
  .have e:((Q'.take (i+1)).map fun q=>q.p g.e.toNat)=F:=by
    rw[<-hFe,hT,PG (by omega)]
   rw[e];exact hs
 obtain⟨x,gx⟩:=get_some (l:=ev) (i:=k) (by omega);rw[mB gx,cH] at qT;refine⟨_,_,_,_,_,_,_,_,hs.at 5 rfl (o:=0) (n:=8) rfl,Bo,hs.rd 0 rfl (i:=0) rfl,rowAt hs uZ fun NO OC t=>⟨q.s,t,?_⟩⟩;have ME:∀ {hX:Heap} {K:Nat->Nat->Prop},RL hX 5 le (aC role) ev->(∀b o,aY hX ⟨b,o+Int.toNat (k:Int)*5,none⟩ (aC role x)->K b o)->NB le.a fun b o=>(0<=(k:Int)/\(k:Int)<(le.n:Nat))/\K b o:=fun {hX K} hR hK=>by
  refine hR.rw.ax (by omega) (by omega) fun b o x' vP t=>hK b o ?_;replace vP:ev[k]?=some x':=vP;rw[gx] at vP;cases vP;exact t
 refine ME Fa fun b81 o82 t=>⟨role,x.send,x.peer,x.label,⟨none,0,0⟩,t,?_⟩;refine (zp g role q.p x q.s Zc (hg.ext hs.ext) hV (SR.rl hs (Ab (hA' q (Yb uZ))))).mono ?_;rintro _ vL ⟨s',rfl,cj⟩;generalize xv:eD g.es role (jZ g.es role q.p x)=pn at *;have j6:x∈j8 g.es role q.p:=by rw[hev];exact Yb gx
 have bI:∃j,pn j=true:=by
  obtain⟨y,hy⟩:=GJ j6;obtain⟨z,hz,_,_,hyt⟩:=y9.1 hy;have xl:=hV.num.e z hz;unfold fp at xl;exact⟨y.toNat,by rw[<-xv];exact bK.2 (by rw[show ((y.toNat:Nat):Int)=y by omega];exact .base hy)⟩
 have rK:rF g pn:=⟨fun j hj=>by
  rw[<-xv] at hj;refine rj hV (fun v hv=>?_) j hj;obtain⟨y,hy,_,_,rfl⟩:=y9.1 hv;have:=hV.num.e y hy;unfold fp at this;omega,bI⟩
 have hs:=hs.join cj;replace hs:St h vL (Oe rM.size h9.size h.size g Bo pR FT Q' F M' (A'++[SR.it ⟨s',pn⟩])):=hs;have Pg:∀q∈Q',q.it∈A'++[SR.it ⟨s',pn⟩]:=fun q hq=>List.mem_append_left _ (hA' q hq);have X7:It.sl le 33 5 (ev.map (aC role))∈A'++[SR.it ⟨s',pn⟩]:=List.mem_append_left _ hle;have hmn:SR.it ⟨s',pn⟩∈A'++[SR.it ⟨s',pn⟩]:=List.mem_append_right _ (Ye.2 rfl);have hpR:RL vL 1 s' aM (bW pn):=SR.rl (q:=⟨s',pn⟩) hs (Ab hmn);refine⟨s',rfl,Bo,hs.rd 0 rfl (i:=0) rfl,?_⟩;have bel:∀ {p:aX},(∀j,p j=true->(j:Int)<g.n)->Below p:=fun hp j hj=>by have:=hp j hj;omega
 refine (RZ Q' Bo s' pn vL ⟨hs.rl 1 rfl (by decide) (by omega),fun q hq=>SR.rl hs (Ab (Pg q hq))⟩ hpR (fun q hq=>bel (Un q hq).1) (bel rK.1)).mono ?_;rintro v92 h94 ⟨E,hfd⟩;have hs:=hs.step E;have nD:=pM (S:=Q'.map SR.p) (p:=pn);rw[Yc] at nD;have fi:∃Lo:Int,v92=.int .i64 Lo/\((0<=Lo/\pn∈Q'.map SR.p/\Lo=(fe (Q'.map SR.p) pn:Nat))\/(Lo=-1/\pn∉Q'.map SR.p)):=by
  rcases hfd with ⟨h1,rfl⟩ | ⟨h1,rfl⟩
  .exact⟨_,rfl,.inl ⟨by omega,h1,rfl⟩⟩
  .exact⟨_,rfl,.inr ⟨rfl,h1⟩⟩
 obtain⟨Lo,rfl,hx⟩:=fi;refine⟨Lo,rfl,?_⟩;refine⟨fun n h'=>∃(KH:List SR) (GR:Sl),n=(fe (Q'.map SR.p) pn:Nat)/\(∃T,KH=Q++T)/\KH.length<=201/\(KH.length=201 ↔ n>=200)/\KH.map SR.p=fW (Q'.map SR.p) pn/\St h h' (Oe rM.size h9.size h.size g GR pR FT KH F M' (A'++[SR.it ⟨s',pn⟩]))/\(∀q∈KH,q.it∈A'++[SR.it ⟨s',pn⟩])/\(∀q∈KH,rF g q.p),?_,?_⟩
 .refine aQ (fun c3=>?_) (fun c3=>?_)
  .have bM:pn∉Q'.map SR.p:=by
    rcases hx with ⟨h1,_⟩ | ⟨_,h1⟩
    .omega
    .exact h1
   have hri:=jf bM;rw[Yc] at hri;have ki:=(hs.rows 1 rfl (by decide)).ln;refine⟨Bo,hs.rd 0 rfl (i:=0) rfl,Bo,hs.rd 0 rfl (i:=0) rfl,fun h98 e98=>?_⟩;refine (hs.SQ 0 1 rfl rfl (cs:=SR.cs) (x:=⟨s',pn⟩) Z3 e98 rfl rfl (by omega) ⟨by decide,by decide⟩ 0 (show 0<3 by decide) (by decide) fun GR aiQ hs=>?_).2;refine⟨Q'++[(⟨s',pn⟩:SR)],GR,by rw[hri];omega,⟨T++[(⟨s',pn⟩:SR)],by rw[hT,Yz]⟩,by rw[Yh];show Q'.length+1<=_;omega,?_,?_,hs,fun q hq=>?_,fun q hq=>?_⟩
   .rw[Yh];show Q'.length+1=201 ↔ _;omega
   .unfold fW;rw[if_neg bM,Ym];rfl
   .rcases Yk.1 hq with hq | hq
    .exact Pg q hq
    .rw[Ye.1 hq];exact hmn
   .rcases Yk.1 hq with hq | hq
    .exact Un q hq
    .rw[Ye.1 hq];exact rK
  .rcases hx with ⟨_,h1,h2⟩ | ⟨h1,_⟩
   .have hl:=nD.2 h1;exact⟨Q',Bo,h2,⟨T,hT⟩,by omega,by omega,by unfold fW;rw[if_pos h1],hs,Pg,Un⟩
   .omega
 clear hs hx;rintro-n Zj ⟨KH,GR,hn,⟨T2,hT2⟩,Y2,hQ3,Pd,hs,RG,hB3⟩;refine aQ (fun c3=>?_) (fun c3=>?_)
 .refine hs.put 4 rfl (o:=0) (vs:=[.slice none 0 0,.slice none 0 0,.slice none 0 0]) rfl (bu 3) fun Nj hs=>?_;refine⟨⟨none,0,0⟩,⟨none,0,0⟩,⟨none,0,0⟩,hs.at 4 rfl (o:=0) (n:=3) rfl,.lim hG ?_ hs.ext⟩;have h1:=tS (es:=g.es) (role:=role) (i:=i) (p:=q.p) (ev.drop (k+1)) (fW (Q'.map SR.p) pn) (M'++[⟨i,x.send,x.peer,x.label,fe (Q'.map SR.p) pn,false⟩]);rw[qT,<-Pd,Yc,hQ3.2 c3] at h1;rw[yQ];exact if_pos (by omega)
 .have aeX:KH.length<=200:=by
   have:KH.length≠201:=fun e=>c3 (hQ3.1 e);omega
  refine⟨FT,hs.rd 0 rfl (i:=2) rfl,?_⟩;have Fa:=hs.rlm (Ab X7) (by decide) (by omega);refine ME Fa fun b o t=>⟨x.send,t.nth 1 rfl,?_⟩;refine ME Fa fun b o t=>⟨x.peer,t.nth 2 rfl,?_⟩;refine ME Fa fun b o t=>⟨x.label,t.nth 3 rfl,fun aiP afZ=>?_⟩;refine hs.SQ 0 3 rfl rfl (cs:=Mv.cs) (x:=⟨i,x.send,x.peer,x.label,n,false⟩) PC afZ rfl rfl (by omega) ⟨by decide,by decide⟩ 2 (show 2<3 by decide) (by decide) fun Z2 uX hs=>?_;refine⟨_,(show ev.length-(k+1)<ev.length-k by omega),k+1,KH,M'++[(⟨i,x.send,x.peer,x.label,n,false⟩:Mv)],A'++[SR.it ⟨s',pn⟩],GR,Z2,by rw[bd (by omega) (by omega)];omega,rfl,by omega,⟨T2,hT2⟩,aeX,by rw[Yh];show M'.length+1<=_;omega,?_,hs,RG,X7,hB3⟩;rw[Pd,hn];exact qT
def Tz(g:Gl)(x:Ed)(t:Ti):Prop:=(∃u∈g.ts,u.s=x.f/\∃z,g.es[u.e.toNat]?=some z/\t=⟨x.ag,u.k,⟨true,z.b,z.l⟩⟩)\/((∀u∈g.ts,u.s≠x.f)/\t=⟨x.ag,0,Oj.x⟩)
theorem tZ{g:Gl}(hV:ah g){u:To}(hu:u∈g.ts):0<=u.s/\1<=u.k/\0<=u.e/\∃z,g.es[u.e.toNat]?=some z/\z.f=u.s:=by
 obtain⟨i,hi⟩:=Yf.1 hu;obtain⟨_,hk,he,z,hz,hf,_⟩:=hV.TH i u hi;have xl:=hV.num.e z (Yb hz);unfold fp at xl;exact⟨by omega,hk.1,he,z,hz,hf⟩
theorem qA{g:Gl}(hV:ah g){role:Int}{x:Ed}(hx:x∈g.es)(ha:x.a=role):(ur g.es role g.n.toNat).1[x.f.toNat]?=some true/\∃t,(D8 g.es g.ts role g.n.toNat)[x.f.toNat]?=some t/\Tz g x t:=by
 have hr:=hV.num.e x hx;unfold fp at hr;have hkf:((x.f.toNat:Nat):Int)=x.f:=by omega
 rcases Hq (es:=g.es) (role:=role) (n:=g.n.toNat) (k:=x.f.toNat) (by omega) (fun y hy=>by have:=hV.num.e y hy;unfold fp at this;omega) with ⟨h1,_⟩ | ⟨y,h1,h2,h3,h4,h5⟩
 .exact absurd ⟨hkf.symm,ha⟩ (h1 x hx)
 .have tq:=(eV hV h1 hx (by omega)).2;refine⟨h4,?_⟩;unfold D8;rcases qB (es:=g.es) h4 g.ts _ _ (fun u hu=>by obtain⟨h0,_,_,z,hz,_⟩:=tZ hV hu;exact⟨h0,z,hz⟩) h5 with ⟨h6,h7⟩ | ⟨u,hu,hus,z,hz,h7⟩
  .exact⟨_,h7,.inr ⟨fun u hu=>by have:=h6 u hu;omega,by rw[tq]⟩⟩
  .exact⟨_,h7,.inl ⟨u,hu,by omega,z,hz,by rw[tq]⟩⟩
def oU(g:Gl)(p s:Int):Prop:=∃x∈g.es,x.f=s/\x.a=p
def N2(g:Gl)(s k a b l:Int):Prop:=(∃t∈g.ts,t.s=s/\k=t.k/\∃z,g.es[t.e.toNat]?=some z/\a=z.a/\b=z.b/\l=z.l)\/((∀t∈g.ts,t.s≠s)/\k=0/\a=0/\b=0/\l=0)
theorem HQ{g:Gl}(hV:ah g){x:Ed}{t:Ti}{k a b l:Int}(hx:x∈g.es)(ht:Tz g x t)(hl:N2 g x.f k a b l):t.ag=x.ag/\t.k=k/\((1<=k/\a=x.a/\t.x=⟨true,b,l⟩)\/(k=0/\a=0/\b=0/\l=0/\t.x=Oj.x)):=by
 rcases ht with ⟨u,hu,hus,z,hz,rfl⟩ | ⟨bM,rfl⟩
 .rcases hl with ⟨w,hw,hws,rfl,z',lp,rfl,rfl,rfl⟩ | ⟨bM,_⟩
  .have e:u=w:=v8 hV.TH hu hw (by omega);subst e;rw[hz] at lp;cases lp;obtain⟨_,h1,_,z2,xl,hf⟩:=tZ hV hu;rw[hz] at xl;cases xl;exact⟨rfl,rfl,.inl ⟨h1,(eV hV (Yb hz) hx (by omega)).1,rfl⟩⟩
  .exact absurd hus (bM u hu)
 .rcases hl with ⟨w,hw,hws,_⟩ | ⟨_,rfl,rfl,rfl,rfl⟩
  .exact absurd hws (bM w hw)
  .exact⟨rfl,rfl,.inr ⟨rfl,rfl,rfl,rfl,rfl⟩⟩
theorem PZ{t u:Ti}(h1:t.ag=u.ag)(h2:t.k=u.k)(h3:t.x=u.x):t=u:=by
 cases t;cases u;simp_all
theorem QD{g:Gl}(hV:ah g){x y:Ed}{t u:Ti}{k a b l k' a' b' l':Int}(hx:x∈g.es)(hy:y∈g.es)(XD:x.a=y.a)(ht:Tz g x t)(hu:Tz g y u)(h1:N2 g x.f k a b l)(h2:N2 g y.f k' a' b' l'):
  t=u ↔ k=k'/\(a=a'/\b=b'/\l=l')/\x.ag=y.ag:=by
 obtain⟨g1,k1,c1⟩:=HQ hV hx ht h1;obtain⟨g2,k2,c2⟩:=HQ hV hy hu h2;constructor
 .rintro rfl;refine⟨by omega,?_,by rw[<-g1,<-g2]⟩;rcases c1 with ⟨p1,p2,p3⟩ | ⟨p1,p2,p3,p4,p5⟩
  .rcases c2 with ⟨q1,q2,q3⟩ | ⟨q1,_⟩
   .rw[p3] at q3;injection q3 with _ e1 e2;exact⟨by omega,e1,e2⟩
   .omega
  .rcases c2 with ⟨q1,_⟩ | ⟨_,q2,q3,q4,_⟩
   .omega
   .omega
 .rintro⟨e1,⟨e2,e3,e4⟩,e5⟩;refine PZ (by rw[g1,g2,e5]) (by omega) ?_;rcases c1 with ⟨p1,_,p3⟩ | ⟨p1,p2,p3,p4,p5⟩
  .rcases c2 with ⟨_,_,q3⟩ | ⟨q1,_⟩
   .rw[p3,q3,e3,e4]
   .omega
  .rcases c2 with ⟨q1,_⟩ | ⟨_,_,_,_,q5⟩
   .omega
   .rw[p5,q5]
def yJ(g:Gl)(p s t:Int):Prop:=oU g p s/\oU g p t/\(D8 g.es g.ts p g.n.toNat)[s.toNat]?≠(D8 g.es g.ts p g.n.toNat)[t.toNat]?
/-! ### the timing of a view -/
/-! ### the sending conditions al the reference asks them -/
theorem uh(g:Gl)(l:List Int)(s:Sl)(h:Heap)(hr:Rw h 1 s (l.map aM))(hl:Stl g.n l)(hm:l.length<=1048576):Fn Pz 238 #[g.v,.slice s.a s.n s.c] h fun v h'=>v=.bool true/\Ext h h':=by
 apply Vk (bs g.nm) g.hr g.hd g.n g.s g.e g.he g.ht;unfold aaz;have hn:=hr.ln;refine (St.refl h).ao fun h9 hs=>?_;refine aD (n:=s.n) hs (fun _=>True) trivial ?_;rintro-i uW hi ⟨hs,-⟩;refine aa (fun c=>?_) (fun c=>⟨rfl,hs.ext⟩);replace c:=bw c;refine (hr.ext hs.ext).ax (by omega) (by omega) fun b15 Qj x gx t=>?_;replace gx:l[i]?=some x:=gx;have hx:=hl x (Yb gx);refine⟨x,t.hd,aQ (fun c1=>absurd c1 (by omega)) (fun _=>?_)⟩;refine (hr.ext hs.ext).ax (by omega) (by omega) fun b18 o19 y gy t2=>?_;replace gy:l[i]?=some y:=gy;rw[gx] at gy;cases gy;exact⟨x,t2.hd,g.n,hs.rd 0 rfl (i:=3) rfl,aQ (fun c2=>absurd c2 (by omega)) (fun _=>Up.next c (by omega) ⟨hs,trivial⟩)⟩
theorem rY(g:Gl)(role:Int)(l:List Int)(s:Sl)(h:Heap)(hg:GI h g)(hM:KK g.ds)(hG:rQ g role)(hr:RL h 1 s aM l)(ha:l.Pairwise (· < ·))(hl:Stl g.n l):
  Fn Pz 198 #[g.v,.int .i64 role,.slice s.a s.n s.c] h fun v h'=>∃s':Sl,v=.tuple ⟨[.slice s'.a s'.n s'.c,.int .i64 0]⟩/\St h h' [.sl s' 3 1 ((bW (eD g.es role l)).map aM)]:=by
 apply VI (bs g.nm) g.hr g.hd g.n g.s g.e g.he g.ht;unfold aaT;refine (St.refl h).ao fun h9 hs=>?_;refine⟨_,_,_,_,_,_,_,_,hs.at 0 rfl (o:=0) (n:=8) rfl,?_⟩;refine (IV g role h9 (hg.ext hs.ext) hM).mono ?_;rintro _ az ⟨⟨b,rfl,hb⟩,E⟩;have hs:=hs.step E;refine⟨b,rfl,aa (fun c=>absurd hG (cM hb (bF c))) (fun _=>?_)⟩;refine⟨_,_,_,_,_,_,_,_,hs.at 0 rfl (o:=0) (n:=8) rfl,?_⟩;refine (uh g l s az (hr.rw.ext hs.ext) hl hr.sm).mono ?_;rintro _ xH ⟨rfl,E2⟩;have hs:=hs.step E2;refine⟨true,rfl,im rfl ?_⟩;refine⟨_,_,_,_,_,_,_,_,hs.at 0 rfl (o:=0) (n:=8) rfl,?_⟩;refine (kU g role l s xH (hg.ext hs.ext) hG.1 (hr.ext hs.ext) ha hl).mono ?_;rintro _ vO ⟨s',rfl,cj⟩;exact⟨s',rfl,s',rfl,(hs.join cj).drop 1⟩
theorem G2{p:aX}{v:Int}{b:Bool}(h:0<=v/\v<4096)(hb:b=true ↔ v∈bW p):b=p v.toNat:=by
 have h1:v∈bW p ↔ p v.toNat=true:=by rw[dX];exact⟨fun h=>h.2.2,fun h2=>⟨h.1,h.2,h2⟩⟩
 cases hp:p v.toNat<;>cases b<;>simp_all
theorem zo(g:Gl)(role st:Int)(h:Heap)(hg:GI h g)(hM:KK g.ds)(hG:rQ g role)(h0:0<=st/\st<g.n):
  Fn Pz 112 #[g.v,.int .i64 role,.int .i64 st] h fun v h'=>∃r:Sl,v=.tuple ⟨[.slice r.a r.n r.c,.bool (aV g role st),.int .i64 0]⟩/\St h h' [.sl r 33 5 ((ai g role st).map (aC role))]:=by
 apply WK (bs g.nm) g.hr g.hd g.n g.s g.e g.he g.ht;unfold abX;have hN:=hG.1.num.n;refine (St.refl h).ao fun h9 hs=>?_;refine⟨_,_,_,_,_,_,_,_,hs.at 0 rfl (o:=0) (n:=8) rfl,?_⟩;refine (St.refl h9).ao fun gJ hx=>?_;have hR:RL gJ 1 ⟨some ⟨h9.size,0,none⟩,1,1⟩ aM [st]:=(hx.dz 1 1 ([st].map aM) rfl (bX _) rfl (by decide)).rl 0 rfl (by decide) (by show 1<=_;decide);have hs:=hs.step hx.ext;refine (rY g role [st] _ gJ (hg.ext hs.ext) hM hG hR (List.pairwise_singleton _ _) (fun v hv=>by rw[Ye.1 hv];omega)).mono ?_;rintro _ cR ⟨s',rfl,bQ⟩;have hs:=hs.join bQ;refine⟨s',0,rfl,dY (fun c=>absurd rfl c) (fun _=>?_)⟩;refine⟨_,_,_,_,_,_,_,_,hs.at 0 rfl (o:=0) (n:=8) rfl,g.e,hs.rd 0 rfl (i:=5) rfl,?_⟩;have hR':RL cR 1 s' aM (bW (eD g.es role [st])):=hs.rl 1 rfl (by decide) (by have:=wq (eD g.es role [st]);omega);refine (od g role (eD g.es role [st]) s' cR (hg.ext hs.ext) hG.1 hR').mono ?_;rintro _ kP ⟨r,rfl,eO⟩;have hs:=hs.join eO;refine⟨r,rfl,eO.ext.sm,?_⟩;refine (ji (bW (eD g.es role [st])) g.e s' kP (hR'.rw.ext eO.ext) hR'.sm).mono ?_;rintro _ oK ⟨⟨bb,rfl,yX⟩,E⟩;have Fh:bb=aV g role st:=G2 (by omega) yX;exact⟨bb,rfl,E.sm,r,by rw[Fh],(hs.step E).drop 2⟩
theorem n9(g:Gl)(p s:Int)(h:Heap)(hg:GI h g)(hV:ah g):Fn Pz 220 #[g.v,.int .i64 p,.int .i64 s] h (RP (oU g p s) h):=by
 apply Vy (bs g.nm) g.hr g.hd g.n g.s g.e g.he g.ht;unfold aaL;have nI:=hg.e.ln;refine (St.refl h).ao fun h9 hs=>?_;refine⟨_,_,_,_,_,_,_,_,hs.at 0 rfl (o:=0) (n:=8) rfl,?_⟩;refine (Bx g s h9 (hg.ext hs.ext)).mono ?_;rintro _ az ⟨E,r,rfl,hr⟩;have hs:=hs.step E;have l8:=hr.ln;rw[show (aJ (av g.es s)).length=(av g.es s).length from Yc _] at l8;refine⟨r,rfl,aQ (fun c=>?_) (fun c=>?_)⟩
 .refine⟨g.he,hs.rd 0 rfl (i:=6) rfl,?_⟩;refine hr.ax (by decide) (by omega) fun b22 o23 d gd t=>?_;obtain⟨k,gk,rfl⟩:=cZ (i:=0) gd;obtain⟨x,gx,hf⟩:=ay.1 (Yb gk);have EK:=Yb gx;refine⟨(k:Int),t.hd,?_⟩;refine (hg.e.rw.ext hs.ext).ax (by omega) (by have:=(Ya.1 gx).1;omega) fun b25 o26 y gy t2=>?_;replace gy:g.es[k]?=some y:=gy;rw[gx] at gy;cases gy;refine⟨x.a,t2.nth 1 rfl,RP.e ?_ hs.ext⟩;rw[beq_iff_eq];exact⟨fun e=>⟨x,EK,hf,e⟩,fun ⟨y,hy,QL,OM⟩=>by rw[<-OM];exact (eV hV EK hy (by omega)).1⟩
 .refine RP.f (fun ⟨x,hx,hf,_⟩=>?_) hs.ext;obtain⟨k,hk⟩:=Yf.1 hx;have:=List.length_pos_of_mem (ay.2 ⟨x,hk,hf⟩);omega
theorem oc(g:Gl)(s:Int)(h:Heap)(hg:GI h g)(hV:ah g):Fn Pz 221 #[g.v,.int .i64 s] h fun v h'=>Ext h h'/\∃k a b l:Int,v=.tuple ⟨[.int .i64 k,.agg ⟨[.int .i64 a,.int .i64 b,.int .i64 l]⟩]⟩/\N2 g s k a b l:=by
 apply Vx (bs g.nm) g.hr g.hd g.n g.s g.e g.he g.ht;unfold aaK;have nI:=hg.e.ln;have OT:=hg.t.ln;have EO:=hg.t.sm;refine (St.refl h).ao fun h9 hs=>?_;refine hs.ao fun cw hs=>?_;refine aD (n:=g.ht.n) hs (fun i=>∀(j:Nat) t,j<i->g.ts[j]?=some t->t.s≠s) (fun j t hj=>by omega) ?_;rintro-i tD hi ⟨hs,hq⟩;refine⟨g.ht,hs.rd 1 rfl (i:=7) rfl,aa (fun c=>?_) (fun c=>?_)⟩
 .replace c:=bw c;obtain⟨t,gt⟩:=get_some (l:=g.ts) (i:=i) (by omega);have tAt:∀ {K:Nat->Nat->Prop},(∀b o,aY tD ⟨b,o+Int.toNat (i:Int)*3,none⟩ t.cs->K b o)->NB g.ht.a fun b o=>(0<=(i:Int)/\(i:Int)<(g.ht.n:Nat))/\K b o:=fun {K} hK=>by
   refine (hg.t.rw.ext hs.ext).ax (by omega) (by omega) fun b o t' Pm u=>hK b o ?_;replace Pm:g.ts[i]?=some t':=Pm;rw[gt] at Pm;cases Pm;exact u
  refine⟨g.ht,hs.rd 1 rfl (i:=7) rfl,tAt fun b o u=>⟨t.s,u.hd,eS (fun c1=>?_) (fun c1=>?_)⟩⟩
  .obtain⟨_,_,Ro,z,gz,_⟩:=tZ hV (Yb gt);refine⟨g.ht,hs.rd 1 rfl (i:=7) rfl,tAt fun b o u=>⟨t.k,u.nth 1 rfl,g.he,hs.rd 1 rfl (i:=6) rfl,g.ht,hs.rd 1 rfl (i:=7) rfl,tAt fun b o u=>⟨t.e,u.nth 2 rfl,?_⟩⟩⟩;refine (hg.e.rw.ext hs.ext).ax Ro (by have:=(Ya.1 gz).1;omega) fun b30 o31 z' K9 u2=>?_;rw[gz] at K9;cases K9;refine⟨z.a,z.b,z.l,u2.sub 1 3 rfl,?_⟩;refine hs.put 0 rfl (o:=0) (vs:=[.int .i64 z.a,.int .i64 z.b,.int .i64 z.l]) rfl (bu 3) fun bA hs=>?_;exact⟨z.a,z.b,z.l,hs.at 0 rfl (o:=0) (n:=3) rfl,hs.ext,t.k,z.a,z.b,z.l,rfl,.inl ⟨t,Yb gt,c1,rfl,z,gz,rfl,rfl,rfl⟩⟩
  .refine Up.next c (by omega) ⟨hs,fun j t' hj Pm=>?_⟩;by_cases e:j=i
   .subst e;rw[gt] at Pm;cases Pm;exact c1
   .exact hq j t' (by omega) Pm
 .replace c:=bz c;refine hs.put 0 rfl (o:=0) (vs:=[.int .i64 0,.int .i64 0,.int .i64 0]) rfl (bu 3) fun km hs=>?_;refine⟨0,0,0,hs.at 0 rfl (o:=0) (n:=3) rfl,hs.ext,0,0,0,0,rfl,.inr ⟨fun t ht=>?_,rfl,rfl,rfl,rfl⟩⟩;obtain⟨j,hj⟩:=Yf.1 ht;exact hq j t (by have:=(Ya.1 hj).1;omega) hj
theorem wF(g:Gl)(p s t:Int)(h:Heap)(hg:GI h g)(hV:ah g):Fn Pz 159 #[g.v,.int .i64 p,.int .i64 s,.int .i64 t] h (RP (yJ g p s t) h):=by
 apply We (bs g.nm) g.hr g.hd g.n g.s g.e g.he g.ht;unfold abv;have nI:=hg.e.ln;refine (St.refl h).ao fun h9 hs=>?_;refine⟨_,_,_,_,_,_,_,_,hs.at 0 rfl (o:=0) (n:=8) rfl,?_⟩;refine (n9 g p s h9 (hg.ext hs.ext) hV).mono ?_;rintro _ az ⟨⟨b1,rfl,nJ⟩,E⟩;have hs:=hs.step E;refine⟨b1,rfl,aa (fun c=>RP.f (fun hc=>cM nJ (bF c) hc.1) hs.ext) (fun c=>?_)⟩;have o1:=nJ.1 (bT c);refine⟨_,_,_,_,_,_,_,_,hs.at 0 rfl (o:=0) (n:=8) rfl,?_⟩;refine (n9 g p t az (hg.ext hs.ext) hV).mono ?_;rintro _ xH ⟨⟨b2,rfl,jr⟩,E⟩;have hs:=hs.step E;refine⟨b2,rfl,aa (fun c=>RP.f (fun hc=>cM jr (bF c) hc.2.1) hs.ext) (fun c=>?_)⟩;have o2:=jr.1 (bT c);obtain⟨x,hx,rfl,KU⟩:=o1;obtain⟨y,hy,rfl,OM⟩:=o2;have hOx:oU g p x.f:=⟨x,hx,rfl,KU⟩;have hOy:oU g p y.f:=⟨y,hy,rfl,OM⟩;obtain⟨_,T,hT,K6⟩:=qA hV hx KU;obtain⟨_,U,hU,hUm⟩:=qA hV hy OM;have Rs:yJ g p x.f y.f ↔ T≠U:=by
  unfold yJ;rw[hT,hU];exact⟨fun h e=>h.2.2 (by rw[e]),fun h=>⟨hOx,hOy,fun e=>h (eP e)⟩⟩
 refine⟨_,_,_,_,_,_,_,_,hs.at 0 rfl (o:=0) (n:=8) rfl,?_⟩;refine (oc g x.f xH (hg.ext hs.ext) hV).mono ?_;rintro _ CA ⟨E,k1,a1,c1,l1,rfl,PJ⟩;have hs:=hs.step E;refine⟨k1,a1,c1,l1,rfl,?_⟩;refine hs.aj (vs:=[.int .i64 a1,.int .i64 c1,.int .i64 l1]) rfl rfl fun mO hs=>?_;refine⟨_,_,_,_,_,_,_,_,hs.at 1 rfl (o:=0) (n:=8) rfl,?_⟩;refine (oc g y.f mO (hg.ext hs.ext) hV).mono ?_;rintro _ Ph ⟨E,k2,a2,c2,l2,rfl,tV⟩;have hs:=hs.step E;refine⟨k2,a2,c2,l2,rfl,?_⟩;refine hs.aj (vs:=[.int .i64 a2,.int .i64 c2,.int .i64 l2]) rfl rfl fun oI hs=>?_;have heq:=QD hV hx hy (by rw[KU,OM]) K6 hUm PJ tV;refine dY (fun d=>RP.t (Rs.2 fun e=>d (heq.1 e).1) hs.ext) (fun d=>?_);refine⟨a1,c1,l1,hs.at 1 rfl (o:=0) (n:=3) rfl,a2,c2,l2,hs.at 0 rfl (o:=0) (n:=3) rfl,aa (fun d2=>RP.t (Rs.2 fun e=>?_) hs.ext) (fun d2=>?_)⟩
 .obtain⟨_,⟨e1,e2,e3⟩,_⟩:=heq.1 e;rw[e1,e2,e3] at d2;simp at d2
 have ahX:a1=a2/\c1=c2/\l1=l2:=by
  simp only[Bool.not_eq_false',Yt,beq_iff_eq,and_true] at d2;exact d2
 refine⟨g.he,hs.rd 2 rfl (i:=6) rfl,_,_,_,_,_,_,_,_,hs.at 2 rfl (o:=0) (n:=8) rfl,g.he,hs.rd 2 rfl (i:=6) rfl,_,_,_,_,_,_,_,_,hs.at 2 rfl (o:=0) (n:=8) rfl,?_⟩;have first:∀ {hZ:Heap} {r:Sl} {w:Ed} {K:Int->Nat->Nat->Prop},w∈g.es->Rw hZ 1 r ((aJ (av g.es w.f)).map aM)->(∀(k:Nat) (x:Ed) b o,g.es[k]?=some x->x.f=w.f->hc hZ ⟨b,o+Int.toNat 0*1,none⟩=some (.int .i64 (k:Int))->K k b o)->NB r.a fun b o=>(0<=(0:Int)/\(0:Int)<(r.n:Nat))/\∃Lo:Int,hc hZ ⟨b,o+Int.toNat 0*1,none⟩=some (.int .i64 Lo)/\K Lo b o:=fun {hZ r w K} hw hr hK=>by
  obtain⟨j,hj⟩:=Yf.1 hw;have gG:=List.length_pos_of_mem (ay.2 ⟨w,hj,rfl⟩);have l8:=hr.ln;rw[show (aJ (av g.es w.f)).length=(av g.es w.f).length from Yc _] at l8;refine hr.ax (by decide) (by omega) fun b o d gd t=>?_;obtain⟨k,gk,rfl⟩:=cZ (i:=0) gd;obtain⟨x,gx,hf⟩:=ay.1 (Yb gk);exact⟨(k:Int),t.hd,hK k x b o gx hf t.hd⟩
 refine (Bx g x.f oI (hg.ext hs.ext)).mono ?_;rintro _ vL ⟨E,r,rfl,hr⟩;have hs:=hs.step E;refine⟨r,rfl,E.sm,first hx hr fun k z b o gz TY t=>?_⟩;refine (hg.e.rw.ext hs.ext).ax (by omega) (by have:=(Ya.1 gz).1;omega) fun b94 o95 z' K9 t2=>?_;replace K9:g.es[k]?=some z':=K9;rw[gz] at K9;cases K9;refine⟨z.ag,t2.nth 5 rfl,?_⟩;refine (Bx g y.f vL (hg.ext hs.ext)).mono ?_;rintro _ h99 ⟨E,r2,rfl,kO⟩;have hs:=hs.step E;refine⟨r2,rfl,E.sm,first hy kO fun k2' w b2 o2 gw hwf t3=>?_⟩;refine (hg.e.rw.ext hs.ext).ax (by omega) (by have:=(Ya.1 gw).1;omega) fun ajf ahu w' gw' t4=>?_;replace gw':g.es[k2']?=some w':=gw';rw[gw] at gw';cases gw';refine⟨w.ag,t4.nth 5 rfl,RP.e ?_ hs.ext⟩;have ez:z.ag=x.ag:=(eV hV (Yb gz) hx TY).2;have ew:w.ag=y.ag:=(eV hV (Yb gw) hy hwf).2;rw[Rs,Ne,heq,ez,ew];constructor
 .intro hb he;rw[he.2.2] at hb;simp at hb
 .intro bI;cases hxa2:x.ag<;>cases hya2:y.ag<;>simp_all

/-! ### plain -/
def CpJ(M:List Mv)(n k j:Nat):Prop:=j<=M.length/\∀(i:Nat) y,M[i]?=some y->(i<j ↔ y.f<(n:Int)\/(y.f=(n:Int)/\i<k))
theorem CpJ.end_{M:List Mv}{n j:Nat}(h:CpJ M n 0 j)(hM:∀y∈M,y.f<(n:Int)):j=M.length:=by
 rcases Nat.lt_or_ge j M.length with c | c
 .obtain⟨x,gx⟩:=get_some (l:=M) (i:=j) c;have:=(h.2 j x gx).2 (.inl (hM x (Yb gx)));omega
 .exact Nat.le_antisymm h.1 c
/-! ### the walk -/
end Go.VC
end

section
namespace Go.VC
open Go.Proofs Go.LexS Go.Maps
def t0:To:=⟨0,0,0⟩
structure Vs where
 a:Int
 b:Int
 h:List Ev
def Vs.p(v:Vs):Int × Int:=(v.a,v.b)
/-! ### the queue -/
structure Vt where
 a:Int
 b:Int
 ahead:Int
 x:Ev
def Vt.cs(v:Vt):List Value:=[.int .i64 v.a,.int .i64 v.b,.int .i64 v.ahead,.bool v.x.send,.int .i64 v.x.peer,.int .i64 v.x.label]
/-! ### what tells states apart, al the table tells it -/
/-! ### the machine whose targets are the least ones of their classes -/
section
variable {m:mL} {C:List Nat}
end
section
variable {m:mL} {C:List Nat}
end
section
variable {m:mL} {C:List Nat}
end
section
variable {m:mL} {C:List Nat}
end
section
variable {m:mL} {C:List Nat}
end
section
variable {m:mL} {C:List Nat}
end
section
variable {m:mL} {C:List Nat}
end
section
variable {m:mL} {C:List Nat} {Gn:Nat}
end
section
variable {m:mL} {C:List Nat} {Gn:Nat}
end
section
variable {m:mL} {C:List Nat} {Gn:Nat}
end
section
variable {m:mL} {C:List Nat} {Gn:Nat}
variable {c0:Nat} {M:mL} {Q:List Nat}
end
section
variable {m:mL} {C:List Nat} {Gn:Nat}
variable {c0:Nat} {M:mL} {Q:List Nat}
end
section
variable {m:mL} {C:List Nat} {Gn:Nat}
variable {c0:Nat} {M:mL} {Q:List Nat}
end
section
variable {m:mL} {C:List Nat} {Gn:Nat}
variable {c0:Nat} {M:mL} {Q:List Nat}
end
section
variable {M K:mL} {R:Nat->Nat->Prop}
end
section
variable {M K:mL} {R:Nat->Nat->Prop}
end
section
variable {m:mL} {C:List Nat} {Gn c0:Nat} {M:mL} {Q:List Nat}
end
section
variable {m:mL} {C:List Nat} {Gn c0:Nat} {M:mL} {Q:List Nat}
end
section
variable {n:Nat} {to:List Nat}
end
section
variable {n:Nat} {to:List Nat}
end
section
variable {n:Nat} {to:List Nat}
end
section
variable {n:Nat} {to:List Nat}
end
end Go.VC
end

section
namespace Go.VC
open Go.Proofs Go.LexS

structure PM where
 m:mL
 f:Sl
 v:Sl
 l:Sl
def PM.cs(p:PM):List Value:=mC p.m p.f p.v p.l
theorem lH(p:Addr)(role:Int)(x:Ed)(h:Heap)(hp:hc h ⟨p.block,p.off+8,none⟩=some (.int .i64 role)):Fn Pz 106 #[.pointer (some p),.agg ⟨x.cs⟩] h fun v h'=>Ext h h'/\v=(match aG role x with | some e=>.tuple ⟨[.agg ⟨e.cs⟩,.bool true]⟩ | none=>.tuple ⟨[.agg ⟨[.bool false,.int .i64 0,.int .i64 0]⟩,.bool false]⟩):=by
 apply WN p x.f x.a x.b x.l x.t x.ag;unfold aca;refine (St.refl h).ao fun h7 hs=>?_;refine hs.ao fun h8 hs=>?_;refine⟨role,aw hs.ext hp,x.a,hs.rd 1 rfl (i:=1) rfl,eS (fun c=>?_) (fun c=>?_)⟩
 .refine⟨x.b,hs.rd 1 rfl (i:=2) rfl,x.l,hs.rd 1 rfl (i:=3) rfl,?_⟩;refine hs.put 0 rfl (o:=0) (vs:=[.bool true,.int .i64 x.b,.int .i64 x.l]) rfl (bu 3) fun AB hs=>?_;refine⟨true,x.b,x.l,hs.at 0 rfl (o:=0) (n:=3) rfl,hs.ext,?_⟩;unfold aG;rw[if_pos c];rfl
 .refine⟨x.b,hs.rd 1 rfl (i:=2) rfl,eS (fun c2=>?_) (fun c2=>?_)⟩
  .refine⟨x.a,hs.rd 1 rfl (i:=1) rfl,x.l,hs.rd 1 rfl (i:=3) rfl,?_⟩;refine hs.put 0 rfl (o:=0) (vs:=[.bool false,.int .i64 x.a,.int .i64 x.l]) rfl (bu 3) fun AB hs=>?_;refine⟨false,x.a,x.l,hs.at 0 rfl (o:=0) (n:=3) rfl,hs.ext,?_⟩;unfold aG;rw[if_neg c,if_pos c2];rfl
  .refine hs.put 0 rfl (o:=0) (vs:=[.bool false,.int .i64 0,.int .i64 0]) rfl (bu 3) fun AB hs=>?_;refine⟨false,0,0,hs.at 0 rfl (o:=0) (n:=3) rfl,hs.ext,?_⟩;unfold aG;rw[if_neg c,if_neg c2]
theorem qI(a b s t:Int)(h:Heap):Fn Pz 169 #[.agg ⟨[.int .i64 a,.int .i64 b,.int .i64 s,.int .i64 t]⟩] h fun v h'=>v=.int .i64 (if 0<=a/\0<=b then 2 else 1)/\Ext h h':=by
 apply V4 a b s t;unfold abk;refine (St.refl h).ao fun h5 hs=>?_;refine⟨a,hs.rd 0 rfl (i:=0) rfl,aQ (fun c=>?_) (fun c=>?_)⟩
 .refine⟨b,hs.rd 0 rfl (i:=1) rfl,aQ (fun c2=>?_) (fun c2=>?_)⟩
  .exact⟨by rw[if_pos ⟨c,c2⟩],hs.ext⟩
  .exact⟨by rw[if_neg fun h=>c2 h.2],hs.ext⟩
 .exact⟨by rw[if_neg fun h=>c h.1],hs.ext⟩
theorem qh(L:List Ev)(b:Bool)(s:Sl)(h:Heap)(hr:Rw h 3 s (L.map Ev.cs)):Fn Pz 148 #[.agg ⟨[.slice s.a s.n s.c,.bool b]⟩] h fun v h'=>v=.bool (a8 L 0)/\Ext h h':=by
 apply Wq s b;unfold abF;have hn:=hr.ln;refine (St.refl h).ao fun h3 hs=>?_;refine⟨s,hs.rd 0 rfl (i:=0) rfl,aQ (fun c=>?_) (fun c=>?_)⟩
 .refine⟨s,hs.rd 0 rfl (i:=0) rfl,?_⟩;refine (hr.ext hs.ext).ax (by omega) (by omega) fun b6 o7 e ge t=>?_;replace ge:L[0]?=some e:=ge;refine⟨e.send,t.nth 0 rfl,?_,hs.ext⟩;unfold a8;rw[ge]
 .refine⟨?_,hs.ext⟩;have:L=[]:=List.length_eq_zero_iff.1 (by omega);subst this;rfl
theorem w7(L:List Ev)(b:Bool)(s:Sl)(h:Heap)(hr:Rw h 3 s (L.map Ev.cs))(hl:L.length<=1048576):Fn Pz 149 #[.agg ⟨[.slice s.a s.n s.c,.bool b]⟩] h fun v h'=>v=.bool (a8 L 0&&(b || !a8 L (L.length-1)))/\Ext h h':=by
 apply Wo s b;unfold abE;have hn:=hr.ln;refine (St.refl h).ao fun h3 hs=>?_;refine⟨s,b,hs.at 0 rfl (o:=0) (n:=2) rfl,?_⟩;refine (qh L b s h3 (hr.ext hs.ext)).mono ?_;rintro _ h8 ⟨rfl,E⟩;have hs:=hs.step E;refine⟨_,rfl,aa (fun c=>?_) (fun c=>⟨by rw[c];rfl,hs.ext⟩)⟩;have gG:0<L.length:=by
  cases L with
  | nil=>cases c
  | cons a l=>exact Nat.succ_pos _
 refine⟨b,hs.rd 0 rfl (i:=1) rfl,aa (fun c2=>⟨by rw[c,c2];rfl,hs.ext⟩) (fun c2=>?_)⟩;refine⟨s,hs.rd 0 rfl (i:=0) rfl,s,hs.rd 0 rfl (i:=0) rfl,?_⟩;rw[bd (n:=(s.n:Int)-1) (by omega) (by omega)];refine (hr.ext hs.ext).ax (by omega) (by omega) fun b6 o7 e ge t=>?_;rw[show ((s.n:Int)-1).toNat=L.length-1 by omega] at ge;refine⟨e.send,t.nth 0 rfl,?_,hs.ext⟩;have h1:a8 L (L.length-1)=e.send:=by unfold a8;rw[ge]
 rw[c,c2,h1];rfl
theorem oQ(x y:Ev)(h:Heap):Fn Pz 185 #[.agg ⟨x.cs⟩,.agg ⟨y.cs⟩] h fun v h'=>v=.int .i64 (jx x y)/\Ext h h':=by
 apply Gz x.send x.peer x.label y.send y.peer y.label;unfold JQ;have hs:=St.refl h;refine hs.ao fun h7 hs=>?_;refine hs.ao fun h8 hs=>?_;refine⟨_,hs.rd 1 rfl rfl,?_⟩;refine⟨_,hs.rd 0 rfl rfl,?_⟩;refine aa (fun c=>?_) (fun c=>?_)
 .have bI:x.send≠y.send:=by simpa using c
  refine⟨_,hs.rd 1 rfl rfl,?_⟩;unfold jx;rw[if_pos bI];refine aa (fun d=>?_) (fun d=>?_)
  .exact⟨by rw[if_pos d],hs.ext⟩
  .exact⟨by rw[if_neg (by rw[d];simp)],hs.ext⟩
 .have he:x.send=y.send:=by simpa using c
  refine⟨_,hs.rd 1 rfl rfl,_,hs.rd 0 rfl rfl,_,hs.rd 1 rfl rfl,_,hs.rd 0 rfl rfl,?_⟩;refine (eC _ _ _).mono ?_;rintro _ _ ⟨rfl,rfl⟩;refine⟨_,rfl,fun _ _ _ _ hv=>hv,?_⟩;refine (eC _ _ _).mono ?_;rintro _ _ ⟨rfl,rfl⟩;refine⟨_,rfl,fun _ _ _ _ hv=>hv,?_⟩;refine hs.ao fun cR hs=>?_;have bQ:=hs.dz 2 1 ([cB x.peer y.peer,cB x.label y.label].map aM) rfl (bX _) rfl (by decide);refine (qD [cB x.peer y.peer,cB x.label y.label] _ cR (bQ.rows 0 rfl (by omega)) (show 2<=1048576 by decide)).mono ?_;rintro _ _ ⟨rfl,rfl⟩;refine⟨_,rfl,?_,hs.ext⟩;unfold jx;rw[if_neg (by simpa using he)];show Value.int .i64 (dI _ (dI _ 0))=_;congr 1;unfold dI;split
  .rfl
  .split<;>omega
theorem Nt{x y:Ev}(h:((x.send==y.send)&&((x.peer==y.peer)&&((x.label==y.label)&&true)))=true):x=y:=by
 cases x;cases y;simp_all
theorem EI(L:List Ev)(e:Ev)(s:Sl)(h:Heap)(hr:Rw h 3 s (L.map Ev.cs))(hl:L.length<=1048576):Fn Pz 295 #[.slice s.a s.n s.c,.agg ⟨e.cs⟩] h fun v h'=>∃i:Int,v=.int .i64 i/\Ext h h'/\(0<=i ↔ e∈L):=by
 apply UZ s e.send e.peer e.label;unfold aag;have hn:=hr.ln;refine (St.refl h).ao fun h4 hs=>?_;refine aD (n:=s.n) hs (fun i=>∀(j:Nat) x,j<i->L[j]?=some x->x≠e) (fun j x hj=>by omega) ?_;clear hs;rintro-i h9 hi ⟨hs,hq⟩;refine aa (fun c=>?_) (fun c=>?_)
 .replace c:=bw c;refine⟨e.send,e.peer,e.label,hs.at 0 rfl (o:=0) (n:=3) rfl,?_⟩;refine (hr.ext hs.ext).ax (by omega) (by omega) fun b13 o14 x gx t=>?_;replace gx:L[i]?=some x:=gx;refine⟨x.send,x.peer,x.label,t,aa (fun c2=>?_) (fun c2=>?_)⟩
  .have j6:=Nt c2;exact⟨i,rfl,hs.ext,iff_of_true (by omega) (by rw[j6];exact Yb gx)⟩
  .refine Up.next c (by omega) ⟨hs,fun j x' hj vP=>?_⟩;by_cases e1:j=i
   .subst e1;rw[gx] at vP;cases vP;rintro rfl;simp at c2
   .exact hq j x' (by omega) vP
 .replace c:=bz c;refine⟨-1,rfl,hs.ext,iff_of_false (by omega) fun hm=>?_⟩;obtain⟨j,hj⟩:=Yf.1 hm;exact hq j e (by have:=(Ya.1 hj).1;omega) hj rfl
theorem ve(L:List Ev)(e:Ev)(s:Sl)(h:Heap)(hr:Rw h 3 s (L.map Ev.cs))(hl:L.length<=1048576):Fn Pz 263 #[.slice s.a s.n s.c,.agg ⟨e.cs⟩] h (RP (e∈L) h):=by
 apply Vg s e.send e.peer e.label;unfold aav;refine (St.refl h).ao fun h4 hs=>?_;refine⟨e.send,e.peer,e.label,hs.at 0 rfl (o:=0) (n:=3) rfl,?_⟩;refine (EI L e s h4 (hr.ext hs.ext) hl).mono ?_;rintro _ cw ⟨i,rfl,E,hi⟩;exact⟨i,rfl,RP.e (by rw[decide_eq_true_eq];exact hi) (hs.step E).ext⟩
theorem Cx(L:List Ev)(b:Bool)(e:Ev)(s:Sl)(h:Heap)(hr:Rw h 3 s (L.map Ev.cs))(hl:L.length<=1048576):Fn Pz 214 #[.agg ⟨[.slice s.a s.n s.c,.bool b]⟩,.agg ⟨e.cs⟩] h (RP (e∈L) h):=by
 apply VF s b e.send e.peer e.label;unfold aaQ;refine (St.refl h).ao fun h6 hs=>?_;refine hs.ao fun h7 hs=>?_;refine⟨s,hs.rd 1 rfl (i:=0) rfl,e.send,e.peer,e.label,hs.at 0 rfl (o:=0) (n:=3) rfl,?_⟩;refine (ve L e s h7 (hr.ext hs.ext) hl).mono ?_;rintro _ uW ⟨⟨b2,rfl,hb⟩,E⟩;exact⟨b2,rfl,⟨b2,rfl,hb⟩,(hs.step E).ext⟩
structure Lm where
 k:Int
 x:Ev
def Lm.cs(l:Lm):List Value:=[.int .i64 l.k,.bool l.x.send,.int .i64 l.x.peer,.int .i64 l.x.label]
structure Fs where
 s:Sl
 l:List Ev
 b:Bool
def Fs.cs(f:Fs):List Value:=[.slice f.s.a f.s.n f.s.c,.bool f.b]
structure UK (h:Heap) (p:Addr) (role:Int) (bZ bV bx cm:Sl) (fi:List Fs) (li:List Lm) (ag ow:List Bool):Prop where
 ro:hc h ⟨p.block,p.off+8,none⟩=some (.int .i64 role)
 f:hc h ⟨p.block,p.off+10,none⟩=some (.slice bZ.a bZ.n bZ.c)
 l:hc h ⟨p.block,p.off+11,none⟩=some (.slice bV.a bV.n bV.c)
 a:hc h ⟨p.block,p.off+12,none⟩=some (.slice bx.a bx.n bx.c)
 o:hc h ⟨p.block,p.off+13,none⟩=some (.slice cm.a cm.n cm.c)
 rf:RL h 2 bZ Fs.cs fi
 re:∀f∈fi,RL h 3 f.s Ev.cs f.l
 rl:RL h 4 bV Lm.cs li
 ra:RL h 1 bx bC ag
 rw:RL h 1 cm bC ow
theorem UK.ext{h h':Heap}{p:Addr}{role:Int}{bZ bV bx cm:Sl}{fi:List Fs}{li:List Lm}{ag ow:List Bool}(hA:UK h p role bZ bV bx cm fi li ag ow)(E:Ext h h'):UK h' p role bZ bV bx cm fi li ag ow:=
 ⟨aw E hA.ro,aw E hA.f,aw E hA.l,aw E hA.a,aw E hA.o,hA.rf.ext E,fun f hf=>(hA.re f hf).ext E,hA.rl.ext E,hA.ra.ext E,hA.rw.ext E⟩
theorem OJ{x y:Lm}:((x.k==y.k)&&(((x.x.send==y.x.send)&&((x.x.peer==y.x.peer)&&((x.x.label==y.x.label)&&true)))&&true))=true ↔ x=y:=by
 constructor
 .intro h;obtain⟨k,e⟩:=x;obtain⟨k',e'⟩:=y;cases e;cases e'
  simp_all
 .rintro rfl;simp
def KO(li:List Lm)(ag ow:List Bool)(s t:Nat):Prop:=ow[s]?=some true/\ow[t]?=some true/\(li[s]?≠li[t]?\/ag[s]?≠ag[t]?)
theorem tN(p:Addr)(role:Int)(bZ bV bx cm:Sl)(fi:List Fs)(li:List Lm)(ag ow:List Bool)(s t:Nat)(h:Heap)(hA:UK h p role bZ bV bx cm fi li ag ow)(l1:s<ow.length/\t<ow.length)(l2:s<li.length/\t<li.length)(l3:s<ag.length/\t<ag.length):
  Fn Pz 151 #[.pointer (some p),.agg ⟨[.int .i64 (s:Nat),.int .i64 (t:Nat)]⟩] h (RP (KO li ag ow s t) h):=by
 apply Wl p (s:Nat) (t:Nat);unfold abC;have n1:=hA.rw.ln;have n2:=hA.rl.ln;have n3:=hA.ra.ln;refine (St.refl h).ao fun h3 hs=>?_;have hA:=hA.ext hs.ext;refine⟨cm,hA.o,s,hs.rd 0 rfl (i:=0) rfl,?_⟩;refine hA.rw.rw.ax (by omega) (by omega) fun _ _ o1 g1 u1=>⟨o1,u1.hd,aa (fun c1=>?_) (fun c1=>RP.f (fun hc=>?_) hs.ext)⟩
 case refine_2=>
  have:=hc.1;rw[show ow[s]?=some o1 from g1,c1] at this;cases this
 refine⟨cm,hA.o,t,hs.rd 0 rfl (i:=1) rfl,?_⟩;refine hA.rw.rw.ax (by omega) (by omega) fun _ _ o2 g2 u2=>⟨o2,u2.hd,aa (fun c2=>?_) (fun c2=>RP.f (fun hc=>?_) hs.ext)⟩
 case refine_2=>
  have:=hc.2.1;rw[show ow[t]?=some o2 from g2,c2] at this;cases this
 refine⟨bV,hA.l,s,hs.rd 0 rfl (i:=0) rfl,?_⟩;refine hA.rl.rw.ax (by omega) (by omega) fun _ _ x gx ux=>⟨x.k,x.x.send,x.x.peer,x.x.label,ux,bV,hA.l,t,hs.rd 0 rfl (i:=1) rfl,?_⟩;refine hA.rl.rw.ax (by omega) (by omega) fun _ _ y gy uy=>⟨y.k,y.x.send,y.x.peer,y.x.label,uy,?_⟩;replace gx:li[s]?=some x:=gx;replace gy:li[t]?=some y:=gy;replace g1:ow[s]?=some o1:=g1;replace g2:ow[t]?=some o2:=g2;rw[c1] at g1;rw[c2] at g2;refine aa (fun c3=>RP.t ⟨g1,g2,.inl fun e=>?_⟩ hs.ext) (fun c3=>?_)
 .rw[gx,gy] at e;have:=OJ.2 (eP e);rw[this] at c3;cases c3
 have XD:x=y:=OJ.1 (by simpa using c3);refine⟨bx,hA.a,s,hs.rd 0 rfl (i:=0) rfl,?_⟩;refine hA.ra.rw.ax (by omega) (by omega) fun _ _ a1 k1 v1=>⟨a1,v1.hd,bx,hA.a,t,hs.rd 0 rfl (i:=1) rfl,?_⟩;refine hA.ra.rw.ax (by omega) (by omega) fun _ _ a2 k2 v2=>⟨a2,v2.hd,RP.e ?_ hs.ext⟩;replace k1:ag[s]?=some a1:=k1;replace k2:ag[t]?=some a2:=k2;unfold KO;rw[g1,g2,gx,gy,k1,k2,XD];cases a1<;>cases a2<;>simp
theorem vc{α:Type}{p:α->Bool}:∀(L:List α) (i:Nat) (x:α),(∀(j:Nat) y,j<i->L[j]?=some y->p y=false)->L[i]?=some x->p x=true->L.find? p=some x
 | [],i,x,_,h,_=>by cases h
 | a::L,0,x,_,h,hp=>by cases h;exact List.find?_cons_of_pos hp
 | a::L,i+1,x,hq,h,hp=>by
  rw[List.find?_cons_of_neg (by rw[hq 0 a (by omega) rfl];decide)];exact vc L i x (fun j y hj hy=>hq (j+1) y (by omega) hy) h hp
theorem CH{α:Type}{p:α->Bool}{L:List α}(h:∀(j:Nat) y,L[j]?=some y->p y=false):L.find? p=none:=by
 rw[List.find?_eq_none];intro x hx;obtain⟨j,hj⟩:=Yf.1 hx;rw[h j x hj];decide
def fQ(K:List Ev)(x:Ev):Bool:=x.send && !decide (x∈K)
theorem q9(p:Addr)(role:Int)(bZ bV bx cm:Sl)(fi:List Fs)(li:List Lm)(ag ow:List Bool)(s t:Nat)(fs ft:Fs)(h:Heap)(hA:UK h p role bZ bV bx cm fi li ag ow)(gs:fi[s]?=some fs)(gt:fi[t]?=some ft):
  Fn Pz 170 #[.pointer (some p),.agg ⟨[.int .i64 (s:Nat),.int .i64 (t:Nat)]⟩] h fun v h'=>Ext h h'/\v=(match fs.l.find? (fQ ft.l) with | some x=>.tuple ⟨[.agg ⟨x.cs⟩,.bool true]⟩ | none=>.tuple ⟨[.agg ⟨[.bool false,.int .i64 0,.int .i64 0]⟩,.bool false]⟩):=by
 apply V3 p (s:Nat) (t:Nat);unfold abj;have n1:=hA.rf.ln;have ls:=(Ya.1 gs).1;have lt:=(Ya.1 gt).1;have YI:=hA.re fs (Yb gs);have hft:=hA.re ft (Yb gt);have n2:=YI.ln;have m2:=YI.sm;refine (St.refl h).ao fun h3 hs=>?_;refine hs.ao fun h4 hs=>?_;refine⟨bZ,(hA.ext hs.ext).f,s,hs.rd 1 rfl (i:=0) rfl,?_⟩;refine (hA.rf.ext hs.ext).rw.ax (by omega) (by omega) fun b7 o8 f gf u=>?_;replace gf:fi[s]?=some f:=gf;rw[gs] at gf;cases gf;refine⟨fs.s,u.nth 0 rfl,?_⟩;refine aD (n:=fs.s.n) hs (fun i=>∀(j:Nat) x,j<i->fs.l[j]?=some x->fQ ft.l x=false) (fun j x hj=>by omega) ?_;clear hs;rintro-i uW hi ⟨hs,hq⟩;refine aa (fun c=>?_) (fun c=>?_)
 .replace c:=bw c;refine (YI.ext hs.ext).rw.ax (by omega) (by omega) fun b15 Qj x gx ux=>?_;replace gx:fs.l[i]?=some x:=gx;refine⟨x.send,x.peer,x.label,ux,?_⟩;refine hs.aj (vs:=x.cs) rfl rfl fun ko hs=>?_;have om:∀ {hZ:Heap},Ext ko hZ->fQ ft.l x=false->∃m42,m42<fs.s.n-i/\Up fs.s.n (fun i h'=>St h h' [.af h3.size [.bool false,.int .i64 0,.int .i64 0] 188,.af h.size [.int .i64 (s:Nat),.int .i64 (t:Nat)] 97]/\∀(j:Nat) x,j<i->fs.l[j]?=some x->fQ ft.l x=false) (IntKind.wrap .i64 ((i:Int)+1)) hZ m42:=fun {hZ} E hd=>by
   refine Up.next c (by omega) ⟨(hs.step E).drop 1,fun j y hj gy=>?_⟩;by_cases e:j=i
   .subst e;rw[gx] at gy;cases gy;exact hd
   .exact hq j y (by omega) gy
  refine⟨x.send,hs.rd 0 rfl (i:=0) rfl,aa (fun c2=>?_) (fun c2=>om .jg (by unfold fQ;rw[c2];rfl))⟩;refine⟨bZ,(hA.ext hs.ext).f,t,hs.rd 2 rfl (i:=1) rfl,?_⟩;refine (hA.rf.ext hs.ext).rw.ax (by omega) (by omega) fun b25 o26 f2 gf2 u2=>?_;replace gf2:fi[t]?=some f2:=gf2;rw[gt] at gf2;cases gf2;refine⟨ft.s,ft.b,u2,x.send,x.peer,x.label,hs.at 0 rfl (o:=0) (n:=3) rfl,?_⟩;refine (Cx ft.l ft.b x ft.s ko (hft.ext hs.ext).rw hft.sm).mono ?_;rintro _ kP ⟨⟨b,rfl,hb⟩,E⟩;refine⟨b,rfl,E.sm,aa (fun c3=>?_) (fun c3=>om E ?_)⟩
  .have hs:=hs.step E;have bM:x∉ft.l:=cM hb (bF c3);refine⟨x.send,x.peer,x.label,hs.at 0 rfl (o:=0) (n:=3) rfl,?_⟩;refine hs.put 1 rfl (o:=0) (vs:=x.cs) rfl (bu 3) fun tB hs=>?_;refine⟨x.send,x.peer,x.label,hs.at 1 rfl (o:=0) (n:=3) rfl,hs.ext,?_⟩;rw[vc fs.l i x hq gx (by unfold fQ;rw[c2,decide_eq_false bM];rfl)];rfl
  .unfold fQ;rw[decide_eq_true (hb.1 (bT c3))];simp
 .replace c:=bz c;refine hs.put 0 rfl (o:=0) (vs:=[.bool false,.int .i64 0,.int .i64 0]) rfl (bu 3) fun Az hs=>?_;refine⟨false,0,0,hs.at 0 rfl (o:=0) (n:=3) rfl,hs.ext,?_⟩;rw[CH fun j y hj=>hq j y (by have:=(Ya.1 hj).1;omega) hj]
theorem PV:Pz.underlying 193=some (.slice 188):=by kernel_rfl
theorem Ll(w:World):(zeroValue 188).run Pz w=.ok (.agg #[.bool false,.int .i64 0,.int .i64 0]) w:=by
 have hi:(Pz.info? 188).bind (·.zero)=some (.agg #[.bool false,.int .i64 0,.int .i64 0]):=by kernel_rfl
 cases h:Pz.info? 188 with
 | none=>rw[h] at hi;cases hi
 | some i=>rw[h] at hi;simp only[Option.bind_some] at hi;simp[zeroValue,typeInfo,h,hi]
theorem AP{h0 h:Heap}{L:List It}(hs:St h0 h L)(k:Nat){s:Sl}{l:List Ev}(hk:L[k]?=some (.sl s 188 3 (l.map Ev.cs)))(hm:l.length<=1048576):
  Fn Pz 186 #[.slice s.a s.n s.c] h fun v h'=>∃r:Sl,v=.slice r.a r.n r.c/\St h0 h' (L.set k (.sl r 188 3 ((aL l).map Ev.cs))):=by
 apply VL s;unfold aaV;have hlen:=hs.len k hk (by omega);have hn:s.n=l.length:=by rw[hlen.1,Yc]
 have nH:k<L.length:=(Ya.1 hk).1;have cN:L.set k (.sl s 188 3 (l.map Ev.cs))=L:=by
  obtain⟨a,b⟩:=Ya.1 hk;rw[<-b];exact List.set_getElem_self a
 have qQ:aL l=l->(∃r:Sl,Value.slice s.a s.n s.c=.slice r.a r.n r.c/\St h0 h (L.set k (.sl r 188 3 ((aL l).map Ev.cs)))):=fun e=>⟨s,rfl,by rw[e,cN];exact hs⟩;refine aa (fun c=>?_) (fun c=>?_)
 .have:l.length<2:=by have:=cd c;omega
  refine qQ ?_
  match l,this with
  | [],_=>rfl
  | [a],_=>rfl
 .have h2:2<=l.length:=by have:=eI c;omega
  refine⟨fun x h' m=>∃i:Nat,x=i/\1<=i/\i<=l.length/\m=l.length-i/\h'=h/\aL (l.take i)=l.take i,⟨_,1,rfl,by omega,by omega,rfl,rfl,?_⟩,?_⟩
  .match l,h2 with
   | a::r,_=>rfl
  rintro-x h5 m ⟨i,rfl,hi1,dC,rfl,rfl,Fg⟩;refine aa (fun l2=>?_) (fun l2=>?_)
  .replace l2:=bw l2;have iy:=hs.rows k hk (by omega);refine iy.ax (by omega) (by omega) fun b o x1 g t=>?_;replace g:l[i]?=some x1:=g;refine⟨_,_,_,t,?_⟩;have OO:IntKind.wrap .i64 ((i:Int)-1)=((i-1:Nat):Int):=by rw[bd (by omega) (by omega)];omega
   rw[OO];refine iy.ax (x:=((i-1:Nat):Int)) (by omega) (by omega) fun b' o' y1 g' t'=>?_;replace g':l[i-1]?=some y1:=g';refine⟨_,_,_,t',?_⟩;rw[Jc];have gu:=eT g hi1 g';refine aa (fun e=>?_) (fun e=>?_)
   .replace e:=cd e;rw[if_pos e,Fg] at gu;have uS:=hlen.2.1;refine⟨⟨by omega,by omega,by omega⟩,?_⟩;refine⟨fun kk x h' m=>∃(q j:Nat) (cl:List Ev),kk=q/\x=j/\1<=j/\i+j<=l.length/\q<=i+j-1/\m=l.length-j/\cl.length=l.length/\cl.take q=aL (l.take (i+j))/\(∀a,i+j-1<=a->cl[a]?=l[a]?)/\St h0 h' (L.set k (.sl s 188 3 (cl.map Ev.cs))),
     ⟨_,i,1,l,rfl,rfl,by omega,by omega,by omega,rfl,rfl,gu.symm,fun _ _=>rfl,by rw[cN];exact hs⟩,?_⟩
    rintro-kk x ko m' ⟨q,j,cl,rfl,rfl,hj1,K5,hq,rfl,dU,hct,r9,hs⟩;have Ip:(L.set k (.sl s 188 3 (cl.map Ev.cs)))[k]?=some (.sl s 188 3 (cl.map Ev.cs)):=by rw[Yq nH]
    have me:=(hs.rows k Ip (by omega)).from (i:=i) (by omega) (by omega)
    rw[<-List.map_drop] at me;have QT:Int.toNat ((s.n:Nat):Int)-Int.toNat ((i:Nat):Int)=s.n-i:=by simp
    have htI:Int.toNat ((i:Nat):Int)=i:=by simp
    refine aa (fun c2=>?_) (fun c2=>?_)
    .have Cp:i+j<l.length:=by have:=cd c2;rw[QT] at this;omega
     rw[QT,htI];refine me.ax (x:=(j:Int)) (by omega) (by show (j:Int)<((s.n-i:Nat):Int);omega) fun b2 o2 x2 g2 t2=>?_;replace g2:(cl.drop i)[j]?=some x2:=g2;rw[List.getElem?_drop,r9 _ (by omega)] at g2;refine⟨_,_,_,t2,?_⟩;have Am:IntKind.wrap .i64 ((j:Int)-1)=((j-1:Nat):Int):=by rw[bd (by omega) (by omega)];omega
     rw[Am];refine me.ax (x:=((j-1:Nat):Int)) (by omega) (by show ((j-1:Nat):Int)<((s.n-i:Nat):Int);omega) fun b3 o3 y2 g3 t3=>?_;replace g3:(cl.drop i)[j-1]?=some y2:=g3;rw[List.getElem?_drop,show i+(j-1)=i+j-1 by omega,r9 _ (by omega)] at g3;refine⟨_,_,_,t3,?_⟩;rw[Jc];have ff:=eT g2 (by omega) g3;have QM:IntKind.wrap .i64 ((j:Int)+1)=((j+1:Nat):Int):=by rw[bd (by omega) (by omega)];omega
     have hwq:IntKind.wrap .i64 ((q:Int)+1)=((q+1:Nat):Int):=by rw[bd (by omega) (by omega)];omega
     refine aa (fun e2=>?_) (fun e2=>?_)
     .have bI:x2≠y2:=by simpa using e2
      rw[if_neg bI] at ff;refine me.ax (x:=(j:Int)) (by omega) (by show (j:Int)<((s.n-i:Nat):Int);omega) fun b4 o4 x3 g4 t4=>?_;replace g4:(cl.drop i)[j]?=some x3:=g4;rw[List.getElem?_drop,r9 _ (by omega)] at g4;rw[g2] at g4;cases g4;refine⟨_,_,_,t4,?_⟩;refine hs.set k Ip (by omega) (x:=(q:Int)) (by omega) (by omega) x2 rfl rfl (fun b5 o5 sw hs=>?_) rfl;rw[List.set_set] at hs;refine⟨l.length-(j+1),by omega,q+1,j+1,cl.set q x2,hwq,QM,by omega,by omega,by omega,rfl,by rw[lh];exact dU,?_,?_,hs⟩
      .rw[show i+(j+1)=i+j+1 by omega,ff,<-hct,ae (x:=x2) (by rw[Yq (by omega)]),List.take_set_of_le (bu _)]
      .intro a ha;rw[Yy (by omega)];exact r9 a (by omega)
     .have heq:x2=y2:=by simpa using e2
      rw[if_pos heq] at ff;refine⟨l.length-(j+1),by omega,q,j+1,cl,rfl,QM,by omega,by omega,by omega,rfl,dU,?_,fun a ha=>r9 a (by omega),hs⟩;rw[show i+(j+1)=i+j+1 by omega,ff];exact hct
    .have Cp:i+j=l.length:=by have:=eI c2;rw[QT] at this;omega
     refine⟨⟨by omega,by omega,by omega⟩,?_⟩;have htq:Int.toNat ((q:Nat):Int)=q:=by simp
     have OT:Int.toNat ((s.n:Nat):Int)=s.n:=by simp
     rw[htq,OT];refine hs.clear k Ip (by omega) q (by omega) PV Ll rfl rfl fun v vO hs=>?_;refine⟨⟨by omega,by omega,by omega⟩,⟨s.a,q,s.c⟩,?_,?_⟩
     .rw[show Int.toNat 0=0 from rfl,cp];rfl
     .rw[List.set_set,<-List.map_take,hct,Cp,vV] at hs;exact hs
   .replace e:=eI e;rw[if_neg e,Fg] at gu;refine⟨l.length-(i+1),by omega,i+1,by rw[bd (by omega) (by omega)];omega,by omega,by omega,rfl,rfl,?_⟩;rw[gu,ae g]
  .replace l2:=bz l2;rw[Yj (by omega)] at Fg;exact qQ Fg
end Go.VC
end

section
namespace Go.VC
open Go.Proofs Go.LexS Go.Shelf
theorem W6:Go.Sort.SWO (ltOf yf) where
 irrefl x:=by unfold ltOf;rw[decide_eq_false_iff_not,jT];unfold dd;omega
 trans x y z h1 h2:=by unfold ltOf at *;rw[decide_eq_true_eq,jT] at *;unfold dd at *;omega
 ntrans x y z h1 h2:=by unfold ltOf at *;rw[decide_eq_false_iff_not,jT] at *;unfold dd at *;omega
theorem W7:Go.Sort.SWO (ltOf ri) where
 irrefl x:=by unfold ltOf ri;rw[decide_eq_false_iff_not,mD];unfold acLt;omega
 trans x y z h1 h2:=by unfold ltOf ri at *;rw[decide_eq_true_eq,mD] at *;unfold acLt at *;omega
 ntrans x y z h1 h2:=by unfold ltOf ri at *;rw[decide_eq_false_iff_not,mD] at *;unfold acLt at *;omega
instance:Inhabited Ms:=⟨⟨0,0⟩⟩
instance:Inhabited Ed:=⟨⟨0,0,0,0,0,false⟩⟩
theorem LH{h0 h:Heap}{L:List It}(hs:St h0 h L)(k:Nat){s:Sl}{l:List Ev}(hk:L[k]?=some (.sl s 188 3 (l.map Ev.cs)))(hm:l.length<=1048576):
  Fn Pz 184 #[.slice s.a s.n s.c,.func (.func 185) #[] #[]] h fun v h'=>v=.tuple ⟨[]⟩/\∃l':List Ev,l'.Perm l/\l'.Pairwise (fun a b=>¬cy b a)/\St h0 h' (L.set k (.sl s 188 3 (l'.map Ev.cs))):=by
 refine Fn.mono (lC Tryz.GY 3 188 Tryz.isAgg188 Tryz.sizeOf188 Ev.cs (fun _=>rfl) (fun x v hv=>by simp[Ev.cs] at hv;rcases hv with rfl | rfl | rfl<;>rfl) jx W8 185 (enters_of Tryz.func185 (by kernel_rfl) rfl) (fun x y h=>@M.oQ fv x y h) hs k hk (by omega) (by omega)) ?_;rintro v h' ⟨rfl,l',hp,hw,cj⟩;exact⟨rfl,l',hp,hw.imp fun {a b} kj=>by unfold ltOf at kj;rw[decide_eq_false_iff_not,jw] at kj;exact kj,cj⟩
theorem LG{h0 h:Heap}{L:List It}(hs:St h0 h L)(k:Nat){s:Sl}{l:List Ms}(hk:L[k]?=some (.sl s 72 2 (l.map Ms.cs)))(hm:l.length<=1048576):
  Fn Pz 69 #[.slice s.a s.n s.c,.func (.func 70) #[] #[]] h fun v h'=>v=.tuple ⟨[]⟩/\∃l':List Ms,l'.Perm l/\l'.Pairwise (fun a b=>¬dd b a)/\St h0 h' (L.set k (.sl s 72 2 (l'.map Ms.cs))):=by
 refine Fn.mono (lC Tryz.GX 2 72 Tryz.isAgg72 Tryz.sizeOf72 Ms.cs (fun _=>rfl) (fun x v hv=>by simp[Ms.cs] at hv;rcases hv with rfl | rfl<;>rfl) yf W6 70 (enters_of Tryz.func70 (by kernel_rfl) rfl) (fun x y h=>@M.NI fv x y h) hs k hk (by omega) (by omega)) ?_;rintro v h' ⟨rfl,l',hp,hw,cj⟩;exact⟨rfl,l',hp,hw.imp fun {a b} kj=>by unfold ltOf at kj;rw[decide_eq_false_iff_not,jT] at kj;exact kj,cj⟩
theorem LD{h0 h:Heap}{L:List It}(hs:St h0 h L)(k:Nat){s:Sl}{l:List Ed}(hk:L[k]?=some (.sl s 67 6 (l.map Ed.cs)))(hm:l.length<=1048576):
  Fn Pz 128 #[.slice s.a s.n s.c,.func (.func 129) #[] #[]] h fun v h'=>v=.tuple ⟨[]⟩/\∃l':List Ed,l'.Perm l/\l'.Pairwise (fun a b=>¬acLt b.act a.act)/\St h0 h' (L.set k (.sl s 67 6 (l'.map Ed.cs))):=by
 refine Fn.mono (lC Tryz.GW 6 67 Tryz.isAgg67 Tryz.sizeOf67 Ed.cs (fun _=>rfl) (fun x v hv=>by simp[Ed.cs] at hv;rcases hv with rfl | rfl | rfl | rfl | rfl | rfl<;>rfl) ri W7 129 (enters_of Tryz.func129 (by kernel_rfl) rfl) (fun x y h=>@M.NJ fv x y h) hs k hk (by omega) (by omega)) ?_;rintro v h' ⟨rfl,l',hp,hw,cj⟩;exact⟨rfl,l',hp,hw.imp fun {a b} kj=>by unfold ltOf ri at kj;rw[decide_eq_false_iff_not,mD] at kj;exact kj,cj⟩
end Go.VC
end

section
namespace Go.VC
open Go.Proofs Go.LexS
structure Lk (h:Heap) (b:Nat) (g:Gl) (role:Int) (ho:Sl) (os:Nat->Sl):Prop where
 at_:aY h ⟨b,0,none⟩ (g.cs++[.int .i64 role,.slice ho.a ho.n ho.c])
 gi:GI h g
 ro:Rw h 1 ho ((List.range g.n.toNat).map fun i=>dv (os i))
 rs:∀i,i<g.n.toNat->Rw h 1 (os i) ((aJ (av g.es (i:Nat))).map aM)
theorem Lk.ext{h h':Heap}{b:Nat}{g:Gl}{role:Int}{ho:Sl}{os:Nat->Sl}(hA:Lk h b g role ho os)(E:Ext h h'):Lk h' b g role ho os:=
 ⟨dE E hA.at_,hA.gi.ext E,hA.ro.ext E,fun i hi=>(hA.rs i hi).ext E⟩
theorem CL.perm{es:List Ed}{role:Int}{n:Nat}{l:List Int}{D:List Bool}{T T':List Int}(h:CL es role n l D T)(hp:T.Perm T'):CL es role n l D T':=
 ⟨h.len,by rw[<-hp.length_eq];exact h.Gn,fun v=>hp.mem_iff.symm.trans (h.mem v),fun v hv=>h.r v (hp.mem_iff.2 hv)⟩
def AL(es:List Ed)(role:Int)(k:Nat):Option Ev:=(es[k]?).bind (aG role)
theorem IY{α β:Type}(f:α->Option β)(es:List α):es.filterMap f=(List.range es.length).filterMap fun i=>(es[i]?).bind f:=by
 have key:∀n,n<=es.length->(es.take n).filterMap f=(List.range n).filterMap fun i=>(es[i]?).bind f:=by
  intro n
  induction n with
  | zero=>intro _;simp
  | succ n ih=>
   intro hn;have hx:=Yi (l:=es) (i:=n) (by omega);rw[List.range_succ,List.filterMap_append,<-ih (by omega),ae hx,List.filterMap_append];congr 1;simp only[List.filterMap_cons,List.filterMap_nil,hx,Option.bind_some]
 have:=key es.length (bu _)
 rwa [vV] at this
theorem xO{α β:Type}{f g:α->Option β}:∀ {l:List α},(∀x∈l,f x=g x)->l.filterMap f=l.filterMap g
 | [],_=>rfl
 | a::l,h=>by rw[List.filterMap_cons,List.filterMap_cons,h a (by simp),xO fun x hx=>h x (Yn _ hx)]
theorem acz(es:List Ed)(role:Int)(n:Nat):(av es (n:Nat)).filterMap (AL es role)=(bS es role n).map (·.x):=by
 unfold av bS;rw[List.filterMap_filter,List.map_filterMap,IY _ es];refine xO fun i hi=>?_;unfold fj AL;have hx:=Yi (l:=es) (i:=i) (by simpa using hi);rw[hx];simp only[Option.bind_some];by_cases h:(es[i]'(by simpa using hi)).f=(n:Int)
 .simp only[h,decide_true,if_true,Option.map_map];cases aG role _<;>rfl
 .simp only[h,decide_false,if_false,Bool.false_eq_true,Option.map_none]
def Sd(es:List Ed)(role v:Int):List Ev:=(bS es role v.toNat).map (·.x)
structure FI (g:Gl) (role s:Int) (D:List Bool) (P T:List Int) (E:List Ev):Prop where
 cl:CL g.es role g.n.toNat [s] D (P++T)
 nd:(P++T).Nodup
 q:∀v∈P,∀b∈dH g.es role v.toNat,b∈P++T
 e:E=P.flatMap (Sd g.es role)
 s:s∈P++T
structure FJ (g:Gl) (role s:Int) (v:Int) (j:Nat) (D:List Bool) (P T:List Int) (E:List Ev):Prop where
 cl:CL g.es role g.n.toNat [s] D (P++v::T)
 nd:(P++v::T).Nodup
 q:∀w∈P,∀b∈dH g.es role w.toNat,b∈P++v::T
 qj:∀k∈(av g.es v).take j,∀x,g.es[k]?=some x->aG role x=none->x.t∈P++v::T
 e:E=P.flatMap (Sd g.es role)++((av g.es v).take j).filterMap (AL g.es role)
 s:s∈P++v::T
theorem FI.pop{g:Gl}{role s v:Int}{D:List Bool}{P T:List Int}{E:List Ev}(h:FI g role s D P (T++[v]) E):FJ g role s v 0 D P T E:=by
 have hp:(P++(T++[v])).Perm (P++v::T):=List.Perm.append_left P List.perm_append_comm;exact⟨h.cl.perm hp,hp.nodup_iff.1 h.nd,fun w hw b hb=>hp.mem_iff.1 (h.q w hw b hb),fun k hk=>by simp at hk,by rw[h.e];simp,hp.mem_iff.1 h.s⟩
theorem FJ.fin{g:Gl}{role s v:Int}{D:List Bool}{P T:List Int}{E:List Ev}{j:Nat}(h:FJ g role s v j D P T E)(h0:0<=v)(hj:(av g.es v).length<=j):FI g role s D (P++[v]) T E:=by
 have hp:P++v::T=P++[v]++T:=by simp
 obtain⟨n,rfl⟩:∃n:Nat,v=n:=⟨v.toNat,by omega⟩;refine⟨hp ▸ h.cl,hp ▸ h.nd,fun w hw b hb=>?_,?_,hp ▸ h.s⟩
 .rw[<-hp];rcases Yk.1 hw with hw | hw
  .exact h.q w hw b hb
  .rw[Ye] at hw;subst hw;obtain⟨x,hx,hv,hf,rfl⟩:=ir.1 hb;obtain⟨k,hk⟩:=Yf.1 hx;exact h.qj k (by rw[Yj hj];exact ay.2 ⟨x,hk,by omega⟩) x hk hv
 .rw[h.e,Yj hj,acz,List.flatMap_append];unfold Sd;simp
theorem FJ.vis{g:Gl}{role s v:Int}{D:List Bool}{P T:List Int}{E:List Ev}{j k:Nat}{x:Ed}{e:Ev}(h:FJ g role s v j D P T E)(hk:(av g.es v)[j]?=some k)(hx:g.es[k]?=some x)(hv:aG role x=some e):FJ g role s v (j+1) D P T (E++[e]):=by
 refine⟨h.cl,h.nd,h.q,fun i hi y hy hn=>?_,?_,h.s⟩
 .rw[ae hk,Yk,Ye] at hi;rcases hi with hi | rfl
  .exact h.qj i hi y hy hn
  .rw[hx] at hy;cases hy;rw[hv] at hn;cases hn
 .rw[ae hk,List.filterMap_append,<-Yz,<-h.e];simp[AL,hx,hv]
theorem FJ.Eo{g:Gl}{role s v:Int}{D:List Bool}{P T:List Int}{E:List Ev}{j k:Nat}{x:Ed}(h:FJ g role s v j D P T E)(hk:(av g.es v)[j]?=some k)(hx:g.es[k]?=some x)(hv:aG role x=none)(h0:0<=x.t)(hd:D[x.t.toNat]?=some true):FJ g role s v (j+1) D P T E:=by
 refine⟨h.cl,h.nd,h.q,fun i hi y hy hn=>?_,?_,h.s⟩
 .rw[ae hk,Yk,Ye] at hi;rcases hi with hi | rfl
  .exact h.qj i hi y hy hn
  .rw[hx] at hy;cases hy;exact (h.cl.mem _).2 ⟨h0,hd⟩
 .rw[ae hk,List.filterMap_append,<-Yz,<-h.e];simp[AL,hx,hv]
theorem FJ.new{g:Gl}{role s v:Int}{D:List Bool}{P T:List Int}{E:List Ev}{j k:Nat}{x:Ed}(h:FJ g role s v j D P T E)(hk:(av g.es v)[j]?=some k)(hx:g.es[k]?=some x)(hv:aG role x=none)(h0:0<=x.t)(hd:D[x.t.toNat]?=some false):FJ g role s v (j+1) (D.set x.t.toNat true) P (T++[x.t]) E:=by
 have QP:Qr g.es role [s] v:=h.cl.r v (by simp);have hkm:=ay.1 (Yb hk);obtain⟨x',vH,hf⟩:=hkm;rw[hx] at vH;cases vH;have dU:=h.cl.push h0 hd (.step QP ⟨x,Yb hx,hv,hf,rfl⟩);have hp:P++v::T++[x.t]=P++v::(T++[x.t]):=by simp
 rw[hp] at dU;have bM:x.t∉P++v::T:=fun hm=>by have:=((h.cl.mem _).1 hm).2;rw[hd] at this;cases this
 refine⟨dU,?_,fun w hw b hb=>?_,fun i hi y hy hn=>?_,?_,?_⟩
 .rw[<-hp,List.nodup_append];exact⟨h.nd,by simp,fun a ha c hc e=>by rw[Ye] at hc;subst hc;subst e;exact bM ha⟩
 .rw[<-hp];exact List.mem_append_left _ (h.q w hw b hb)
 .rw[<-hp];rw[ae hk,Yk,Ye] at hi;rcases hi with hi | rfl
  .exact List.mem_append_left _ (h.qj i hi y hy hn)
  .rw[hx] at hy;cases hy;simp
 .rw[ae hk,List.filterMap_append,<-Yz,<-h.e];simp[AL,hx,hv]
 .rw[<-hp];exact List.mem_append_left _ h.s
theorem xU{es:List Ed}{role:Int}{P:List Int}(hP:P.Nodup)(h0:∀v∈P,0<=v):(P.flatMap (Sd es role)).length<=es.length:=by
 have h1:=gQ es role (P.map Int.toNat) (by
  rw[List.Nodup,List.pairwise_map];refine hP.imp_of_mem fun {a b} ha hb kj e=>kj ?_;have:=h0 a ha;have:=h0 b hb;omega)
 rw[List.flatMap_map] at h1;have h2:∀P:List Int,(P.flatMap (Sd es role)).length=(P.flatMap fun v=>bS es role v.toNat).length:=by
  intro P
  induction P with
  | nil=>rfl
  | cons a P ih=>rw[List.flatMap_cons,List.flatMap_cons,Yh,Yh,ih];unfold Sd;rw[Yc]
 rw[h2];exact h1
theorem FJ.len{g:Gl}{role s v:Int}{D:List Bool}{P T:List Int}{E:List Ev}{j:Nat}(h:FJ g role s v j D P T E):E.length<=2*g.es.length:=by
 rw[h.e,Yh];have h1:=xU (es:=g.es) (role:=role) (P:=P) (h.nd.sublist (List.sublist_append_left _ _)) fun v hv=>((h.cl.mem v).1 (by simp[hv])).1;have h2:(((av g.es v).take j).filterMap (AL g.es role)).length<=(av g.es v).length:=iX (List.length_filterMap_le _ _) (by rw[Yu];omega);have h3:=ef g.es v;omega
theorem FI.fin{g:Gl}{role s:Int}{D:List Bool}{P:List Int}{E:List Ev}(h:FI g role s D P [] E)(hV:ah g)(h0:0<=s)(h1:s<g.n):(∀v,v∈P ↔ Qr g.es role [s] v)/\jd E=ai g role s:=by
 have hc:=h.cl;rw[Yw] at hc;have hq:∀v,v∈P ↔ Qr g.es role [s] v:=hc.end_ (fun x hx=>by rw[Ye] at hx;subst hx;have:=h.s;rwa [Yw] at this) fun v hv b hb=>by have:=h.q v hv b hb;rwa [Yw] at this
 refine⟨hq,fB _ _ (dm _) (dm _) fun x=>?_⟩;unfold ai j8;rw[fq,fq,h.e];unfold Pq Sd;rw[List.mem_flatMap,List.mem_flatMap];have hN:=hV.num.n;have hl:∀x∈[s],0<=x/\x<g.n:=fun x hx=>by rw[Ye] at hx;omega
 constructor
 .rintro⟨v,hv,hx⟩;have hb:=((hq v).1 hv).lt hV hl;refine⟨v.toNat,br.2 ⟨by omega,bK.2 ?_⟩,hx⟩;rw[Int.toNat_of_nonneg hb.1];exact (hq v).1 hv
 .rintro⟨n,hn,hx⟩;exact⟨(n:Int),(hq _).2 (bK.1 (br.1 hn).2),hx⟩
theorem S3:cu Pz 193 188 3 24=true:=by kernel_rfl
def La(fb ib:Nat)(td fs:Sl)(D:List Bool)(T:List Int)(E:List Ev)(bl:Bool)(R:List It):List It:=
 .sl td 3 1 (T.map aM) :: .af fb [.slice fs.a fs.n fs.c,.bool bl] 195 :: .sl fs 188 3 (E.map Ev.cs) :: .af ib (D.map Value.bool) 4::R
theorem tG{b:Nat}{g:Gl}{role:Int}{ho:Sl}{os:Nat->Sl}{s v:Int}{h0 fx h4 h1:Heap}{R:List It}{td fs:Sl}{bl:Bool}{D:List Bool}{P T:List Int}{E:List Ev}{m9:Nat}{I7:Sl->Heap->Nat->Prop}
  (hA:Lk h0 b g role ho os) (hV:ah g) (hv0:0<=v) (hv1:v<g.n) (htd:0<td.n) (EO:td.n<=4096)
  (hs:St h0 fx (La h4.size h1.size ⟨aN td.a (Int.toNat 0) td.c 1,Int.toNat ((td.n-1:Nat):Int)-Int.toNat 0,td.c-Int.toNat 0⟩ fs D T E bl R)) (hJ:FJ g role s v 0 D P T E)
  (Fc:∀(GL pR:Sl) (D':List Bool) (T':List Int) (E':List Ev) (h':Heap),St h0 h' (La h4.size h1.size GL pR D' T' E' bl R)->FJ g role s v (av g.es v).length D' P T' E'->∃m,m<m9/\I7 GL h' m) :
  DB fx ⟨b,0,none⟩ v td h4 g.n h1 m9 I7:=by
 unfold DB;have hE:=hV.num.e;have hN:=hV.num.n;have hM:=hV.num.m;rw[show IntKind.wrap .i64 ((td.n:Int)-1)=((td.n-1:Nat):Int) by rw[bd (by omega) (by omega)];omega];have Gd:((v.toNat:Nat):Int)=v:=Int.toNat_of_nonneg hv0;refine⟨ho,(hA.ext hs.ext).at_.nth 9 rfl,?_⟩;refine (hA.ro.ext hs.ext).ax (by omega) (by have:=hA.ro.ln;rw[kv] at this;omega) fun b18 o19 d gd t=>?_;obtain⟨rfl,_⟩:=uo gd;refine⟨os v.toNat,t.hd,?_⟩;have bL:=hA.rs v.toNat (by omega);rw[Gd] at bL;have l8:=bL.ln;rw[show (aJ (av g.es v)).length=(av g.es v).length from Yc _] at l8;have xy:=ef g.es v;refine⟨fun GL x h' m=>∃(j:Nat) (pR:Sl) (D':List Bool) (T':List Int) (E':List Ev),x=j/\m=(os v.toNat).n-j/\j<=(os v.toNat).n/\St h0 h' (La h4.size h1.size GL pR D' T' E' bl R)/\FJ g role s v j D' P T' E',⟨_,0,fs,D,T,E,rfl,rfl,by omega,hs,hJ⟩,?_⟩;clear hs hJ;rintro-GL _ Fl m ⟨j,pR,D',T',E',rfl,rfl,hj,hs,hJ⟩;have hle:=hJ.cl.le;have hDl:=hJ.cl.len;have hEl:=hJ.len;have EP:=hs.len 0 (s:=GL) (e:=3) (n:=1) (rows:=T'.map aM) rfl (by omega);have fV:=hs.len 2 (s:=pR) (e:=188) (n:=3) (rows:=E'.map Ev.cs) rfl (by omega);rw[Yc] at EP fV;rw[Yh,jC] at hle;refine aQ (fun c=>?_) (fun c=>?_)
 .refine (bL.ext hs.ext).ax (by omega) (by omega) fun b27 o28 d gd t=>?_;replace gd:(aJ (av g.es v))[j]?=some d:=gd;obtain⟨k,hk,rfl⟩:∃k:Nat,(av g.es v)[j]?=some k/\d=(k:Int):=by
   unfold aJ at gd;rw[Yd] at gd;obtain⟨k,hk,e⟩:=rP.1 gd;exact⟨k,hk,e.symm⟩
  obtain⟨x0,kL,EL⟩:=ay.1 (Yb hk);have nH:=(Ya.1 kL).1;refine⟨_,t.hd,g.he,(hA.ext hs.ext).at_.nth 6 rfl,?_⟩;have nI:=hA.gi.e.ln;refine (hA.gi.e.rw.ext hs.ext).ax (by omega) (by omega) fun b31 o32 x gx t2=>?_;replace gx:g.es[k]?=some x:=gx;rw[kL] at gx;cases gx;refine⟨x0.f,x0.a,x0.b,x0.l,x0.t,x0.ag,t2,?_⟩;have tn:=hE x0 (Yb kL);unfold fp at tn;refine hs.aj (vs:=x0.cs) rfl rfl fun km hs=>?_;refine⟨x0.f,x0.a,x0.b,x0.l,x0.t,x0.ag,hs.at 0 rfl (o:=0) (n:=6) rfl,?_⟩;refine (lH ⟨b,0,none⟩ role x0 km ((hA.ext hs.ext).at_.nth 8 rfl)).mono ?_;rintro _ vM ⟨E52,rfl⟩;replace hs:=hs.step E52;cases gW:aG role x0 with
  | some e=>
   refine⟨e.send,e.peer,e.label,true,rfl,?_⟩;refine hs.aj (vs:=e.cs) rfl rfl fun Uq hs=>?_;refine gR rfl ?_;refine⟨pR,hs.rd 3 rfl (i:=0) rfl,e.send,e.peer,e.label,hs.at 0 rfl (o:=0) (n:=3) rfl,?_⟩;refine hs.app 4 rfl S3 (m:=1) [e.cs] rfl rfl (fun r hr=>by rw[Ye] at hr;rw[hr];rfl) rfl (by omega) (by simp only[maxLen];omega) fun Ou Ph n60 hs=>?_;refine hs.put 3 rfl (o:=0) (vs:=[.slice Ou.a Ou.n Ou.c]) rfl (show 1<=2 by decide) fun Cz hs=>?_;refine⟨_,by omega,j+1,Ou,D',T',E'++[e],by rw[bd (by omega) (by omega)];omega,rfl,by omega,?_,hJ.vis hk kL gW⟩;have hs:=hs.drop 2;unfold La;rw[Ym];exact hs
  | none=>
   refine⟨false,0,0,false,rfl,?_⟩;refine hs.aj (vs:=[.bool false,.int .i64 0,.int .i64 0]) rfl rfl fun Uq hs=>?_;refine im rfl ?_;obtain⟨y,hy⟩:=get_some (l:=D') (i:=x0.t.toNat) (by omega);have e0:0+Int.toNat x0.t*1=x0.t.toNat:=by omega
   refine⟨x0.t,hs.rd 1 rfl (i:=4) rfl,⟨by omega,by omega⟩,?_⟩;rw[e0];refine⟨y,hs.rd 5 rfl (by rw[uL,hy];rfl),?_⟩;refine aa (fun c2=>?_) (fun c2=>?_)
   .have QL:y=false:=bF c2;subst QL;refine⟨x0.t,hs.rd 1 rfl (i:=4) rfl,⟨by omega,by omega⟩,?_⟩;rw[e0];refine hs.put 5 rfl (o:=x0.t.toNat) (vs:=[.bool true]) rfl (by rw[Yc,Yv];omega) fun IH hs=>?_;refine⟨x0.t,hs.rd 1 rfl (i:=4) rfl,?_⟩;refine hs.app 2 rfl dt (m:=1) [[.int .i64 x0.t]] rfl rfl (by simp) rfl (by omega) (by simp only[maxLen];omega) fun s70 Ng n70 hs=>?_;refine⟨_,by omega,j+1,pR,D'.set x0.t.toNat true,T'++[x0.t],E',by rw[bd (by omega) (by omega)];omega,rfl,by omega,?_,hJ.new hk kL gW (by omega) hy⟩;have hs:=hs.drop 2;unfold La;rw[Ym,<-cI _ (by omega)];exact hs
   .have hyt:y=true:=bT c2;subst hyt;refine⟨_,by omega,j+1,pR,D',T',E',by rw[bd (by omega) (by omega)];omega,rfl,by omega,hs.drop 2,hJ.Eo hk kL gW (by omega) hy⟩
 .refine Fc GL pR D' T' E' Fl hs ?_;rw[show (av g.es v).length=j by omega];exact hJ
theorem AF(b:Nat)(g:Gl)(role:Int)(ho:Sl)(os:Nat->Sl)(s:Nat)(h:Heap)(hA:Lk h b g role ho os)(hV:ah g)(dA:(s:Int)<g.n):
  Fn Pz 107 #[.pointer (some ⟨b,0,none⟩),.int .i64 (s:Nat)] h fun v h'=>∃r:Sl,v=.agg ⟨[.slice r.a r.n r.c,.bool (aV g role s)]⟩/\St h h' [.sl r 188 3 ((ai g role s).map Ev.cs)]:=by
 apply WM ⟨b,0,none⟩ (s:Nat);unfold abZ;have hN:=hV.num.n;have hM:=hV.num.m;refine (St.refl h).ao fun h1 hs=>?_;refine⟨g.n,(hA.ext hs.ext).at_.nth 3 rfl,by omega,?_⟩;rw[HM];refine hs.ao fun h3 hs=>?_;have e0:0+Int.toNat ((s:Nat):Int)*1=s:=by omega
 refine⟨⟨by omega,by omega⟩,?_⟩;rw[e0];refine hs.put 0 rfl (o:=s) (vs:=[.bool true]) rfl (by rw[Yc,Yg,Yv];omega) fun h4 hs=>?_;refine hs.ao fun h5 hs=>?_;refine hs.ao fun h6 hs=>?_;have kM:=hs.dz 1 1 ([((s:Nat):Int)].map aM) rfl (bX _) rfl (by decide);have kM:=kM.cn 188 3;have dU:CL g.es role g.n.toNat [(s:Int)] ((List.replicate g.n.toNat false).set s true) ([]++[(s:Int)]):=
  (CL.start g.es role g.n.toNat [(s:Int)]).push (b:=(s:Int)) (by omega) (by rw[Ys,List.getElem?_replicate,if_pos (by omega)]) (.base (by simp))
 have hl:∀x∈[(s:Int)],0<=x/\x<g.n:=fun x hx=>by rw[Ye] at hx;omega
 refine⟨fun td h' m=>∃(fs:Sl) (D:List Bool) (P T:List Int) (E:List Ev),m=g.n.toNat-P.length/\St h h' (La h4.size h1.size td fs D T E (decide (g.e∈P)) [.af h.size [.slice none 0 0,.bool false] 195])/\FI g role s D P T E,⟨_,⟨none,0,0⟩,(List.replicate g.n.toNat false).set s true,[],[(s:Int)],[],rfl,?_,⟨dU,by simp,fun v hv=>(by cases hv),rfl,by simp⟩⟩,?_⟩
 .refine kM.perm ?_;unfold La;rw[<-cI _ (by rw[Yg];omega)];exact (List.Perm.swap _ _ _).trans (List.Perm.cons _ (List.Perm.swap _ _ _))
 clear hs kM dU;rintro-td jP m ⟨fs,D,P,T,E,rfl,hs,hI⟩;have hle:=hI.cl.le;rw[Yh] at hle;have EP:=hs.len 0 (s:=td) (e:=3) (n:=1) (rows:=T.map aM) rfl (by omega);rw[Yc] at EP;refine aQ (fun c=>?_) (fun c=>?_)
 .rw[show IntKind.wrap .i64 ((td.n:Int)-1)=((td.n-1:Nat):Int) by rw[bd (by omega) (by omega)];omega];refine (hs.rows 0 rfl (by omega)).ax (by omega) (by omega) fun b12 o13 v gv t=>?_;replace gv:T[td.n-1]?=some v:=gv;have hT:T=T.take (td.n-1)++[v]:=by rw[<-ae gv,Yj (by omega)]
  refine⟨v,t.hd,⟨by omega,by omega,by omega⟩,?_⟩;have hJ:FJ g role s v 0 D P (T.take (td.n-1)) E:=by rw[hT] at hI;exact hI.pop
  have QP:=(hJ.cl.mem v).1 (by simp);have KV:v<g.n:=((hJ.cl.r v (by simp)).lt hV hl).2;refine⟨_,hs.rd 1 rfl (i:=1) rfl,?_⟩;have fin:∀(bl:Bool),bl=decide (g.e∈P++[v])->∀(GL pR:Sl) (D':List Bool) (T':List Int) (E':List Ev) (h':Heap),St h h' (La h4.size h1.size GL pR D' T' E' bl [.af h.size [.slice none 0 0,.bool false] 195])->FJ g role s v (av g.es v).length D' P T' E' ->
    ∃m,m<g.n.toNat-P.length/\∃(fs:Sl) (D:List Bool) (P T:List Int) (E:List Ev),m=g.n.toNat-P.length/\St h h' (La h4.size h1.size GL fs D T E (decide (g.e∈P)) [.af h.size [.slice none 0 0,.bool false] 195])/\FI g role s D P T E:=fun bl yW GL pR D' T' E' h' cj hJ'=>by
   subst yW;refine⟨_,?_,pR,D',P++[v],T',E',rfl,cj,hJ'.fin QP.1 (bu _)⟩;rw[Yh,Yv];omega
  refine aa (fun c2=>?_) (fun c2=>?_)
  .refine hs.put 1 rfl (o:=1) (vs:=[.bool true]) rfl (show 2<=2 by decide) fun fx hs=>?_;refine tG hA hV QP.1 KV (by omega) (by omega) (bl:=true) (fs:=fs) (D:=D) (P:=P) (T:=T.take (td.n-1)) (E:=E) ?_ hJ (fin true ?_)
   .have h9:=hs.cut 0 rfl (by omega) (td.n-1) (by omega);rw[<-List.map_take] at h9;rw[show aN td.a (Int.toNat 0) td.c 1=td.a from cp _ _ _];exact h9
   .rw[decide_eq_true];exact List.mem_append_left _ (cd c2)
  .refine⟨g.e,(hA.ext hs.ext).at_.nth 5 rfl,?_⟩;refine hs.put 1 rfl (o:=1) (vs:=[.bool (v==g.e)]) rfl (show 2<=2 by decide) fun fx hs=>?_;refine tG hA hV QP.1 KV (by omega) (by omega) (bl:=v==g.e) (fs:=fs) (D:=D) (P:=P) (T:=T.take (td.n-1)) (E:=E) ?_ hJ (fin _ ?_)
   .have h9:=hs.cut 0 rfl (by omega) (td.n-1) (by omega);rw[<-List.map_take] at h9;rw[show aN td.a (Int.toNat 0) td.c 1=td.a from cp _ _ _];exact h9
   .have h8:¬g.e∈P:=eI c2;rw[Bool.eq_iff_iff,decide_eq_true_eq,Yk,Ye,beq_iff_eq];exact⟨fun e=>.inr e.symm,fun h=>h.elim (fun h=>absurd h h8) Eq.symm⟩
 .have hT:T=[]:=List.length_eq_zero_iff.1 (by omega);subst hT;have fV:=hs.len 2 (s:=fs) (e:=188) (n:=3) (rows:=E.map Ev.cs) rfl (by omega);have hEl:E.length<=g.es.length:=by
   rw[hI.e];exact xU (hI.nd.sublist (List.sublist_append_left _ _)) fun v hv=>((hI.cl.mem v).1 (by simp[hv])).1
  refine⟨fs,hs.rd 1 rfl (i:=0) rfl,?_⟩;refine (LH hs 2 rfl (by omega)).mono ?_;rintro _ RS ⟨rfl,E',hp,hw,hs⟩;refine⟨rfl,fs,hs.rd 1 rfl (i:=0) rfl,?_⟩;refine (AP hs 2 rfl (by rw[hp.length_eq];omega)).mono ?_;rintro _ Zh ⟨r,rfl,hs⟩;refine⟨r,rfl,?_⟩;refine hs.put 1 rfl (o:=0) (vs:=[.slice r.a r.n r.c]) rfl (show 1<=2 by decide) fun afo hs=>?_;refine⟨r,_,hs.at 1 rfl (o:=0) (n:=2) rfl,?_⟩;refine hs.put 4 rfl (o:=0) (vs:=[.slice r.a r.n r.c,.bool (decide (g.e∈P))]) rfl (show 2<=2 by decide) fun Zg hs=>?_;refine⟨r,_,hs.at 4 rfl (o:=0) (n:=2) rfl,r,?_,?_⟩
  .obtain⟨hq,_⟩:=hI.fin hV (by omega) dA;have hb:decide (g.e∈P)=aV g role s:=by
    unfold aV;rw[Bool.eq_iff_iff,decide_eq_true_eq,bK,hq,Int.toNat_of_nonneg (by omega)]
   rw[hb]
  .obtain⟨_,he⟩:=hI.fin hV (by omega) dA;rw[kr hp hw,he] at hs;exact hs.sub (L':=[_]) (by
    refine List.Sublist.trans ?_ (List.drop_sublist 2 _);exact List.singleton_sublist.2 (by simp[La]))
end Go.VC
end

section
namespace Go.VC
open Go.Proofs Go.LexS Go.RowKit Go.Lib
theorem F7{P:Program}{t u e:TypeId}{size bytes:Nat}{kn:IntKind}(hT:cu P t e size bytes=true)(r9:P.underlying u=some (.int kn)){h:Heap}{n:Nat}{m:Int}(hm:m=n)(h0:0<n)(di:n*bytes<=140737488355328)(oI:n<=maxLen)
  {K:Sl->Heap->Prop} (hK:∀(r:Sl) (h':Heap) (xs:List Value),r.n=n->Ext h h'->cF h' h.size e size r xs->K r h'):App P t u (.slice none 0 0) (.int .i64 m) h K:=by
 intro ty w hw;subst hw;subst hm;unfold cu at hT;simp only[Yt] at hT;obtain⟨⟨⟨⟨⟨⟨⟨hs,he⟩,ht⟩,hz⟩,KT⟩,fL⟩,Cv⟩,gG⟩:=hT;have hu:=cX hs;rw[eY he] at hu;obtain⟨i,hi⟩:=gV ht;obtain⟨z,lp⟩:=Option.isSome_iff_exists.1 hz;rw[hi] at lp;simp only[Option.bind_some] at lp;have e1:i.size=size:=by have:=eY fL;simpa [aZ,hi] using this
 have e2:i.bytes=bytes:=by have:=eY Cv;simpa [yh,hi] using this
 have e3:z.cells.size=size:=by have:=eY KT;simpa [bN,hi,lp] using this
 have hp:0<size:=by simpa using gG
 have aex:((0+n:Nat):Int)<=9223372036854775807:=by simp only[maxLen] at oI;omega
 have hr:=Lib.run_append_grow_zeros w t u ty e i z .i64 kn hu r9 hi lp none 0 0 [] (run_firstCells_none w.drew i.size 0 0 0) n h0 (by omega) (by omega) aex
  (by rw[e2];omega) (growslice_fits (by omega) (by rw[Nat.zero_add,e2];exact di))
 rw[Nat.zero_add] at hr;have Fb:=grownCap_ge w n 0 e;have hle:=grownCap_le_maxLen w n 0 e oI;refine⟨_,_,hr,⟨⟨some ⟨w.heap.size,0,none⟩,n,grownCap w n 0 e⟩,rfl,hK _ _ _ rfl (Ext.push _ _) ⟨?_,.inr ⟨w.heap.size,_,rfl,bu _,Array.getElem?_push_size,Fb,hle,?_,rfl⟩⟩⟩,rfl,rfl,rfl⟩
 .rw[Yu];have:(List.toArray ([]:List Value)++Builtin.zeroCells z.cells n++Builtin.zeroCells z.cells (grownCap w n 0 e-n)).toList.length=grownCap w n 0 e*size:=by
   simp only[Array.toList_append,Yh,gC,e3];rw[List.length_nil,Nat.zero_add,<-Nat.add_mul];congr 1;omega
  rw[this];exact Nat.min_eq_left (Nat.mul_le_mul_right _ Fb)
 .show (List.toArray ([]:List Value)++Builtin.zeroCells z.cells n++Builtin.zeroCells z.cells (grownCap w n 0 e-n)).toList.length=grownCap w n 0 e*size;simp only[Array.toList_append,Yh,gC,e3];rw[List.length_nil,Nat.zero_add,<-Nat.add_mul];congr 1;omega
structure bj where
 x:Int
 y:Int
 s:Int
 t:Int
 deriving DecidableEq
def bj.cs(m:bj):List Value:=[.int .i64 m.x,.int .i64 m.y,.int .i64 m.s,.int .i64 m.t]
theorem Qd(L:List bj):∀r∈L.map bj.cs,r.length=4:=fun r hr=>by obtain⟨x,_,rfl⟩:=Yp.1 hr;rfl
theorem kZ:cu Pz 197 200 4 32=true:=by kernel_rfl
theorem adJ:Pz.underlying 3=some (.int .i64):=by kernel_rfl
theorem Nl(n:Nat)(h:Heap)(hn:n<=1048576):Fn Pz 232 #[.slice none 0 0,.int .i64 (n:Nat)] h fun v h'=>∃r:Sl,v=.slice r.a r.n r.c/\St h h' [.sl r 200 4 []]:=by
 apply Vl ⟨none,0,0⟩ (n:Nat);unfold aaA;refine⟨fun h'=>h'=h,aQ (fun c=>by omega) (fun _=>rfl),?_⟩;rintro-_ rfl;have e0:IntKind.wrap .i64 (((0:Nat):Int)-((0:Nat):Int))=0:=by rw[bd (by omega) (by omega)];omega
 have e1:IntKind.wrap .i64 ((n:Int)-IntKind.wrap .i64 (((0:Nat):Int)-((0:Nat):Int)))=n:=by rw[e0,bd (by omega) (by omega)];omega
 show sB (decide ((IntKind.wrap .i64 ((n:Int)-IntKind.wrap .i64 (((0:Nat):Int)-((0:Nat):Int))))>0)) _ _;refine aQ (fun c=>?_) (fun c=>⟨⟨none,0,0⟩,rfl,(St.refl _).cn 200 4⟩);rw[e1] at c;refine⟨⟨by omega,by show (0:Int)<=((0:Nat):Int);omega,by show ((0:Nat):Int)<=((0:Nat):Int);omega⟩,?_⟩;refine F7 kZ adJ (n:=n) e1 (by omega) (by omega) (by simp only[maxLen];omega) fun r h' xs l8 E ho=>?_;refine⟨⟨by omega,by show (0:Int)<=((0:Nat):Int);omega,by show ((0:Nat):Int)<=_;omega⟩,⟨aN r.a (Int.toNat 0) r.c 4,Int.toNat ((0:Nat):Int)-Int.toNat 0,r.c-Int.toNat 0⟩,rfl,?_⟩;have h0:(It.sl ⟨aN r.a (Int.toNat 0) r.c 4,Int.toNat ((0:Nat):Int)-Int.toNat 0,r.c-Int.toNat 0⟩ 200 4 []).ok h':=by
  rw[show aN r.a (Int.toNat 0) r.c 4=r.a from cp _ _ _];refine⟨⟨rfl,?_⟩,fun r hr=>by cases hr⟩;rcases ho.2 with ⟨ha,sg,iA⟩ | ⟨g,cur,ha,_,hh,xz,Cu,xE,_⟩
  .exact .inl ⟨ha,rfl,iA⟩
  .exact .inr ⟨g,cur,ha,Nat.zero_le _,hh,Nat.zero_le _,Cu,xE,rfl⟩
 refine (St.refl _).more E h0 fun b hb=>?_;rw[show aN r.a (Int.toNat 0) r.c 4=r.a from cp _ _ _] at hb;exact (gl ho hb).2.2
theorem wa{α:Type}{L:List (Sl × List α)}{i:Nat}{q:Sl × List α}(h:L[i]?=some q):((L.take (i+1)).map fun q=>q.2.length).sum=((L.take i).map fun q=>q.2.length).sum+q.2.length:=by
 rw[ae h,Ym,List.sum_append];simp
theorem nZ{α:Type}(L:List (Sl × List α))(i:Nat):((L.take i).map fun q=>q.2.length).sum<=(L.map fun q=>q.2.length).sum:=by
 conv=>rhs;rw[<-List.take_append_drop i L,Ym,List.sum_append]
 omega
theorem FB(Ls:List (Sl × List bj))(s:Sl)(h:Heap)(hr:Rw h 1 s (Ls.map fun q=>dv q.1))(hL:∀q∈Ls,RL h 4 q.1 bj.cs q.2)(hn:Ls.length<=1048576)(yS:(Ls.map fun q=>q.2.length).sum<=1048576):
  Fn Pz 187 #[.slice s.a s.n s.c] h fun v h'=>∃r:Sl,v=.slice r.a r.n r.c/\St h h' [.sl r 200 4 ((Ls.flatMap Prod.snd).map bj.cs)]:=by
 apply VK s;unfold aaU;have ki:=hr.ln;refine⟨fun z x h' m=>∃i:Nat,x=i/\m=s.n-i/\i<=s.n/\h'=h/\z=(((Ls.take i).map fun q=>q.2.length).sum:Nat),⟨_,0,rfl,rfl,by omega,rfl,rfl⟩,?_⟩;rintro-_ _ h6 m ⟨i,rfl,rfl,hi,rfl,rfl⟩;refine aQ (fun c=>?_) (fun c=>?_)
 .refine hr.ax (by omega) (by omega) fun b o q gq t=>?_;replace gq:Ls[i]?=some q:=gq;have hq:=hL q (Yb gq);have lq:=hq.ln;have h1:=wa gq;have h2:=nZ Ls (i+1);refine⟨q.1,t.hd,?_⟩;have e:IntKind.wrap .i64 (((((Ls.take i).map fun q=>q.2.length).sum:Nat):Int)+(q.1.n:Int))=(((Ls.take (i+1)).map fun q=>q.2.length).sum:Nat):=by rw[bd (by omega) (by omega)];omega
  rw[e];refine aQ (fun c2=>by omega) (fun _=>⟨_,by omega,i+1,by rw[bd (by omega) (by omega)];omega,rfl,by omega,rfl,rfl⟩)
 .have YH:Ls.take i=Ls:=Yj (by omega);rw[YH];refine (Nl _ h6 yS).mono ?_;rintro _ AB ⟨r,rfl,hs⟩;refine⟨r,rfl,?_⟩;refine dV (n:=s.n) hs (fun i rows=>rows=((Ls.take i).flatMap Prod.snd).map bj.cs) rfl ?_;clear hs;rintro-i2 ns h19 rows hi2 hs rfl;have uS:=hs.len 0 (s:=ns) (e:=200) (n:=4) rfl (by omega);rw[Yc,List.length_flatMap] at uS;refine aQ (fun c2=>?_) (fun c2=>?_)
  .refine (hr.ext hs.ext).ax (by omega) (by omega) fun b o q gq t=>?_;replace gq:Ls[i2]?=some q:=gq;have hq:=hL q (Yb gq);have lq:=hq.ln;have h1:=wa gq;have h2:=nZ Ls (i2+1);refine⟨q.1,t.hd,?_⟩;refine hs.gB 0 rfl kZ (hq.rw.ext hs.ext) (Qd _) hq.nil (by
    rw[List.all_eq_true];intro v hv;obtain⟨r,hr,hv⟩:=List.mem_flatten.1 hv;obtain⟨x,_,rfl⟩:=Yp.1 hr;simp[bj.cs] at hv;rcases hv with rfl | rfl | rfl | rfl<;>rfl) (by omega) (by simp only[maxLen];omega) fun s23 Fm n23 hs=>?_
   refine A8.next (by omega) (by omega) ⟨_,hs,?_⟩;rw[ae gq,List.flatMap_append,Ym];simp
  .rw[Yj (by omega)] at hs;exact⟨ns,rfl,hs⟩
def eA(es:List Ed)(k:Nat):Ed:=es.getD k ⟨0,0,0,0,0,false⟩
theorem aI{es:List Ed}{k:Nat}{x:Ed}(h:es[k]?=some x):eA es k=x:=by unfold eA;rw[Yo,h];rfl
def yN(es:List Ed)(role:Int)(k:Nat):Bool:=(aG role (eA es k)).isNone
def sZ(es:List Ed)(role:Int)(t:Nat)(l:List Nat):List bj:=(l.filter (yN es role)).map fun i:Nat=>⟨(i:Int),-1,(eA es i).t,(t:Nat)⟩
def B8(es:List Ed)(role:Int)(s:Nat)(l:List Nat):List bj:=(l.filter (yN es role)).map fun k:Nat=>⟨-1,(k:Int),(s:Nat),(eA es k).t⟩
def s6(es:List Ed)(role:Int)(i:Nat)(l:List Nat):List bj:=match aG role (eA es i) with
 | none=>[]
 | some a=>(l.filter fun k=>decide (aG role (eA es k)=some a)).map fun k:Nat=>⟨(i:Int),(k:Int),(eA es i).t,(eA es k).t⟩
def pE(es:List Ed)(role:Int)(l m:List Nat):List bj:=l.flatMap fun i=>s6 es role i m
def bP(es:List Ed)(role:Int)(s t:Nat):List bj:=sZ es role t (av es (s:Nat))++B8 es role s (av es (t:Nat))++pE es role (av es (s:Nat)) (av es (t:Nat))
theorem B6{es:List Ed}{role:Int}{t:Nat}{l:List Nat}:(sZ es role t l).length<=l.length:=by unfold sZ;rw[Yc];exact List.length_filter_le _ _
theorem B7{es:List Ed}{role:Int}{t:Nat}{l:List Nat}:(B8 es role t l).length<=l.length:=by unfold B8;rw[Yc];exact List.length_filter_le _ _
theorem uK{es:List Ed}{role:Int}{i:Nat}{l:List Nat}:(s6 es role i l).length<=l.length:=by
 unfold s6;split
 .exact Nat.zero_le _
 .rw[Yc];exact List.length_filter_le _ _
theorem uJ{es:List Ed}{role:Int}:∀ {l m:List Nat},(pE es role l m).length<=l.length*m.length
 | [],m=>by simp[pE]
 | a::l,m=>by
  have h1:=uJ (es:=es) (role:=role) (l:=l) (m:=m);have h2:=uK (es:=es) (role:=role) (i:=a) (l:=m);unfold pE at h1 ⊢;rw[List.flatMap_cons,Yh,jC,Nat.succ_mul];omega
theorem p7{role:Int}{x:Ed}:aG role x=none ↔ x.a≠role/\x.b≠role:=by
 unfold aG;by_cases h1:role=x.a
 .rw[if_pos h1];simp[h1.symm]
 .rw[if_neg h1];by_cases h2:role=x.b
  .rw[if_pos h2];simp[h2.symm]
  .rw[if_neg h2];simp;exact⟨fun e=>h1 e.symm,fun e=>h2 e.symm⟩
theorem RL.zF{α:Type}{h0 h:Heap}{L:List It}(hs:St h0 h L)(k:Nat){s:Sl}{e:TypeId}{n:Nat}{cs:α->List Value}{l:List α}(hk:L[k]?=some (.sl s e n (l.map cs)))(hn:0<n)(hm:l.length<=1048576):RL h n s cs l:=
 ⟨hs.rw k hk hn,(hs.len k hk hn).2.1,(hs.len k hk hn).2.2,hm⟩
end Go.VC
end

section
namespace Go.VC
open Go.Proofs Go.LexS
theorem w5{es:List Ed}{role:Int}{t:Nat}{l:List Nat}{j k:Nat}(hk:l[j]?=some k):sZ es role t (l.take (j+1))=sZ es role t (l.take j)++(if yN es role k then [⟨(k:Int),-1,(eA es k).t,(t:Nat)⟩] else []):=by
 unfold sZ;rw[ae hk,List.filter_append,Ym];congr 1;by_cases h:yN es role k=true
 .rw[if_pos h,List.filter_cons_of_pos h];rfl
 .rw[if_neg h,List.filter_cons_of_neg h];rfl
theorem w6{es:List Ed}{role:Int}{t:Nat}{l:List Nat}{j k:Nat}(hk:l[j]?=some k):B8 es role t (l.take (j+1))=B8 es role t (l.take j)++(if yN es role k then [⟨-1,(k:Int),(t:Nat),(eA es k).t⟩] else []):=by
 unfold B8;rw[ae hk,List.filter_append,Ym];congr 1;by_cases h:yN es role k=true
 .rw[if_pos h,List.filter_cons_of_pos h];rfl
 .rw[if_neg h,List.filter_cons_of_neg h];rfl
theorem w9{es:List Ed}{role:Int}{i:Nat}{l:List Nat}{j k:Nat}{a:Ev}(ha:aG role (eA es i)=some a)(hk:l[j]?=some k):s6 es role i (l.take (j+1))=s6 es role i (l.take j)++(if aG role (eA es k)=some a then [⟨(i:Int),(k:Int),(eA es i).t,(eA es k).t⟩] else []):=by
 unfold s6;rw[ha];simp only;rw[ae hk,List.filter_append,Ym];congr 1;by_cases h:aG role (eA es k)=some a
 .rw[if_pos h,List.filter_cons_of_pos (by rw[decide_eq_true h])];rfl
 .rw[if_neg h,List.filter_cons_of_neg (by rw[decide_eq_false h];decide)];rfl
theorem w8{es:List Ed}{role:Int}{l m:List Nat}{j k:Nat}(hk:l[j]?=some k):pE es role (l.take (j+1)) m=pE es role (l.take j) m++s6 es role k m:=by
 unfold pE;rw[ae hk,List.flatMap_append,List.flatMap_singleton]
theorem HK{es:List Ed}{role:Int}{i:Nat}{l:List Nat}(ha:aG role (eA es i)=none):s6 es role i l=[]:=by unfold s6;rw[ha]
def OG(h:Heap)(q bo:Sl)(Q B:List bj)(s t:Nat):List It:=[.sl q 200 4 (Q.map bj.cs),.sl bo 200 4 (B.map bj.cs),.af h.size [.int .i64 (s:Nat),.int .i64 (t:Nat)] 97]
theorem Eu(b:Nat)(g:Gl)(role:Int)(ho:Sl)(os:Nat->Sl)(s t:Nat)(h:Heap)(hA:Lk h b g role ho os)(hV:ah g)(dA:(s:Int)<g.n)(uP:(t:Int)<g.n):
  Fn Pz 108 #[.pointer (some ⟨b,0,none⟩),.agg ⟨[.int .i64 (s:Nat),.int .i64 (t:Nat)]⟩] h fun v h'=>∃r:Sl,v=.slice r.a r.n r.c/\St h h' [.sl r 200 4 ((bP g.es role s t).map bj.cs)]:=by
 apply WL ⟨b,0,none⟩ (s:Nat) (t:Nat);unfold abY;have hN:=hV.num.n;have hM:=hV.num.m;have MZ:=hA.ro.ln;rw[kv] at MZ;have nI:=hA.gi.e.ln;have QX:=ef g.es (s:Nat);have hto:=ef g.es (t:Nat);have rs:=hA.rs s (by omega);have rt:=hA.rs t (by omega);have rsn:(os s).n=(av g.es (s:Nat)).length:=by rw[rs.ln];exact Yc _
 have rtn:(os t).n=(av g.es (t:Nat)).length:=by rw[rt.ln];exact Yc _
 refine (St.refl h).ao fun h3 hs=>?_;refine⟨ho,(hA.ext hs.ext).at_.nth 9 rfl,(s:Nat),hs.rd 0 rfl (i:=0) rfl,?_⟩;refine (hA.ro.ext hs.ext).ax (by omega) (by omega) fun b6 o7 d gd u=>?_;obtain rfl:s=d:=(uo gd).1;refine⟨os s,u.hd,?_⟩;have hs:=(hs.cn 200 4).cn 200 4;refine⟨fun q bo x h' m=>∃j:Nat,x=j/\m=(os s).n-j/\j<=(os s).n/\St h h' (OG h q bo (sZ g.es role t ((av g.es (s:Nat)).take j)) (pE g.es role ((av g.es (s:Nat)).take j) (av g.es (t:Nat))) s t),⟨_,0,rfl,rfl,by omega,hs⟩,?_⟩;clear hs;rintro-q bo _ tD m ⟨j,rfl,rfl,hj,hs⟩;have Au:=(hs.len 0 (s:=q) (e:=200) (n:=4) rfl (by omega)).1;have yW:=(hs.len 1 (s:=bo) (e:=200) (n:=4) rfl (by omega)).1;rw[Yc] at Au yW;have ES:=B6 (es:=g.es) (role:=role) (t:=t) (l:=(av g.es (s:Nat)).take j);have nJ:=uJ (es:=g.es) (role:=role) (l:=(av g.es (s:Nat)).take j) (m:=av g.es (t:Nat));have jr:((av g.es (s:Nat)).take j).length*(av g.es (t:Nat)).length<=400*400:=Nat.mul_le_mul (by rw[Yu];omega) (by omega);rw[Yu] at ES;refine aQ (fun c=>?_) (fun c=>?_)
 .refine (rs.ext hs.ext).ax (by omega) (by omega) fun b16 o17 d gd u=>?_;obtain⟨k,hk,rfl⟩:=cZ gd;replace hk:(av g.es (s:Nat))[j]?=some k:=hk;obtain⟨x0,kL,EL⟩:=ay.1 (Yb hk);have nH:=(Ya.1 kL).1;have j6:=aI kL;refine⟨_,u.hd,g.he,(hA.ext hs.ext).at_.nth 6 rfl,?_⟩;refine (hA.gi.e.rw.ext hs.ext).ax (by omega) (by omega) fun b20 o21 x gx u2=>?_;replace gx:g.es[k]?=some x:=gx;rw[kL] at gx;cases gx;refine⟨x0.f,x0.a,x0.b,x0.l,x0.t,x0.ag,u2,?_⟩;refine hs.aj (vs:=x0.cs) rfl rfl fun K8 hs=>?_;refine⟨x0.f,x0.a,x0.b,x0.l,x0.t,x0.ag,hs.at 0 rfl (o:=0) (n:=6) rfl,?_⟩;refine (lH ⟨b,0,none⟩ role x0 K8 ((hA.ext hs.ext).at_.nth 8 rfl)).mono ?_;rintro _ Nh ⟨E41,rfl⟩;replace hs:=hs.step E41;cases gW:aG role x0 with
  | none=>
   refine⟨false,0,0,false,rfl,?_⟩;refine hs.aj (vs:=[.bool false,.int .i64 0,.int .i64 0]) rfl rfl fun RM hs=>?_;refine gR rfl ?_;refine⟨x0.t,hs.rd 1 rfl (i:=4) rfl,(t:Nat),hs.rd 4 rfl (i:=1) rfl,?_⟩;refine hs.app 2 rfl kZ (m:=1) [bj.cs ⟨(k:Int),-1,x0.t,(t:Nat)⟩] rfl rfl (fun r hr=>by rw[Ye] at hr;rw[hr];rfl) rfl (by omega) (by simp only[maxLen];omega) fun s47 Ay n47 hs=>?_;refine⟨_,by omega,j+1,by rw[bd (by omega) (by omega)];omega,rfl,by omega,?_⟩;have hs:=hs.drop 2;rw[w5 hk,w8 hk,HK (by rw[j6];exact gW),Yw,if_pos (by unfold yN;rw[j6,gW];rfl),j6];unfold OG;rw[Ym];exact hs
  | some e=>
   refine⟨e.send,e.peer,e.label,true,rfl,?_⟩;refine hs.aj (vs:=e.cs) rfl rfl fun RM hs=>?_;refine im rfl ?_;refine⟨ho,(hA.ext hs.ext).at_.nth 9 rfl,(t:Nat),hs.rd 4 rfl (i:=1) rfl,?_⟩;refine (hA.ro.ext hs.ext).ax (by omega) (by omega) fun b52 o53 d gd u3=>?_;obtain rfl:t=d:=(uo gd).1;refine⟨os t,u3.hd,?_⟩;have ij:sZ g.es role t ((av g.es (s:Nat)).take (j+1))=sZ g.es role t ((av g.es (s:Nat)).take j):=by
    rw[w5 hk,if_neg (by unfold yN;rw[j6,gW];exact fun h9=>by cases h9),Yw]
   refine⟨fun bo x h' m=>∃j2:Nat,x=j2/\m=(os t).n-j2/\j2<=(os t).n/\St h h' (.af Nh.size e.cs 188 :: .af tD.size x0.cs 67::OG h q bo (sZ g.es role t ((av g.es (s:Nat)).take j)) (pE g.es role ((av g.es (s:Nat)).take j) (av g.es (t:Nat))++s6 g.es role k ((av g.es (t:Nat)).take j2)) s t),⟨_,0,rfl,rfl,by omega,?_⟩,?_⟩
   .have:s6 g.es role k ((av g.es (t:Nat)).take 0)=[]:=List.length_eq_zero_iff.1 (by have:=uK (es:=g.es) (role:=role) (i:=k) (l:=(av g.es (t:Nat)).take 0);rw[iY,List.length_nil] at this;rw[iY];omega);rw[this,Yw];exact hs
   clear hs;rintro-bo2 _ II m ⟨j2,rfl,rfl,YB,hs⟩;have aeN:=(hs.len 3 (s:=bo2) (e:=200) (n:=4) rfl (by omega)).1;rw[Yc,Yh] at aeN;have Nb:=uK (es:=g.es) (role:=role) (i:=k) (l:=(av g.es (t:Nat)).take j2);rw[Yu] at Nb;refine aQ (fun c2=>?_) (fun c2=>?_)
   .refine (rt.ext hs.ext).ax (by omega) (by omega) fun b61 o62 d gd u4=>?_;obtain⟨k2,fg,rfl⟩:=cZ gd;replace fg:(av g.es (t:Nat))[j2]?=some k2:=fg;obtain⟨x2,Ak,aec⟩:=ay.1 (Yb fg);have aeC:=(Ya.1 Ak).1;have xn:=aI Ak;refine⟨_,u4.hd,g.he,(hA.ext hs.ext).at_.nth 6 rfl,?_⟩;refine (hA.gi.e.rw.ext hs.ext).ax (by omega) (by omega) fun b65 o66 x gx u5=>?_;replace gx:g.es[k2]?=some x:=gx;rw[Ak] at gx;cases gx;refine⟨x2.f,x2.a,x2.b,x2.l,x2.t,x2.ag,u5,?_⟩;refine hs.aj (vs:=x2.cs) rfl rfl fun IG hs=>?_;refine⟨x2.f,x2.a,x2.b,x2.l,x2.t,x2.ag,hs.at 0 rfl (o:=0) (n:=6) rfl,?_⟩;refine (lH ⟨b,0,none⟩ role x2 IG ((hA.ext hs.ext).at_.nth 8 rfl)).mono ?_;rintro _ jN ⟨E86,rfl⟩;replace hs:=hs.step E86;have hvk:aG role (eA g.es k)=some e:=by rw[j6];exact gW
    have skip:∀ {hZ:Heap},aG role (eA g.es k2)≠some e->St h hZ (.af Nh.size e.cs 188 :: .af tD.size x0.cs 67::OG h q bo2 (sZ g.es role t ((av g.es (s:Nat)).take j)) (pE g.es role ((av g.es (s:Nat)).take j) (av g.es (t:Nat))++s6 g.es role k ((av g.es (t:Nat)).take j2)) s t) ->
      ∃m,m<(os t).n-j2/\∃j3:Nat,IntKind.wrap .i64 ((j2:Int)+1)=j3/\m=(os t).n-j3/\j3<=(os t).n/\St h hZ (.af Nh.size e.cs 188 :: .af tD.size x0.cs 67::OG h q bo2 (sZ g.es role t ((av g.es (s:Nat)).take j)) (pE g.es role ((av g.es (s:Nat)).take j) (av g.es (t:Nat))++s6 g.es role k ((av g.es (t:Nat)).take j3)) s t):=fun {hZ} bI hs=>by
     refine⟨_,by omega,j2+1,by rw[bd (by omega) (by omega)];omega,rfl,by omega,?_⟩;rw[w9 hvk fg,if_neg bI,Yw];exact hs
    cases hvis2:aG role x2 with
    | none=>
     refine⟨false,0,0,false,rfl,?_⟩;refine hs.aj (vs:=[.bool false,.int .i64 0,.int .i64 0]) rfl rfl fun h88 hs=>?_;refine im rfl (skip (by rw[xn,hvis2];exact fun e=>by cases e) (hs.drop 2))
    | some e2=>
     refine⟨e2.send,e2.peer,e2.label,true,rfl,?_⟩;refine hs.aj (vs:=e2.cs) rfl rfl fun h88 hs=>?_;refine gR rfl ?_;refine⟨e.send,e.peer,e.label,hs.at 2 rfl (o:=0) (n:=3) rfl,e2.send,e2.peer,e2.label,hs.at 0 rfl (o:=0) (n:=3) rfl,?_⟩;rw[Jc];refine aQ (fun c3=>?_) (fun c3=>skip (by rw[xn,hvis2];exact fun e9=>c3 (eP e9).symm) (hs.drop 2));subst c3;refine⟨x0.t,hs.rd 3 rfl (i:=4) rfl,x2.t,hs.rd 1 rfl (i:=4) rfl,?_⟩;refine hs.app 5 rfl kZ (m:=1) [bj.cs ⟨(k:Int),(k2:Int),x0.t,x2.t⟩] rfl rfl (fun r hr=>by rw[Ye] at hr;rw[hr];rfl) rfl (by omega) (by simp only[maxLen];omega) fun s98 h99 n98 hs=>?_;refine⟨_,by omega,j2+1,by rw[bd (by omega) (by omega)];omega,rfl,by omega,?_⟩;have hs:=hs.drop 2;rw[w9 hvk fg,if_pos (by rw[xn,hvis2]),j6,xn,<-Yz];unfold OG;rw[Ym (l₁:=pE _ _ _ _++_)];exact hs
   .refine⟨_,by omega,j+1,by rw[bd (by omega) (by omega)];omega,rfl,by omega,?_⟩;rw[ij,w8 hk];rw[Yj (l:=av g.es (t:Nat)) (by omega)] at hs;exact hs.drop 2
 .rw[Yj (by omega)] at hs ES nJ jr;refine⟨ho,(hA.ext hs.ext).at_.nth 9 rfl,(t:Nat),hs.rd 2 rfl (i:=1) rfl,?_⟩;refine (hA.ro.ext hs.ext).ax (by omega) (by omega) fun aje aht d gd u3=>?_;obtain rfl:t=d:=(uo gd).1;refine⟨os t,u3.hd,?_⟩;replace hs:=hs.cn 200 4;refine⟨fun ot x h' m=>∃j2:Nat,x=j2/\m=(os t).n-j2/\j2<=(os t).n/\St h h' (.sl ot 200 4 ((B8 g.es role s ((av g.es (t:Nat)).take j2)).map bj.cs)::OG h q bo (sZ g.es role t (av g.es (s:Nat))) (pE g.es role (av g.es (s:Nat)) (av g.es (t:Nat))) s t),⟨_,0,rfl,rfl,by omega,hs⟩,?_⟩;clear hs;rintro-ot _ qU m ⟨j2,rfl,rfl,YB,hs⟩;have xy:=(hs.len 0 (s:=ot) (e:=200) (n:=4) rfl (by omega)).1;rw[Yc] at xy;have Uc:=B7 (es:=g.es) (role:=role) (t:=s) (l:=(av g.es (t:Nat)).take j2);rw[Yu] at Uc;refine aQ (fun c2=>?_) (fun c2=>?_)
  .refine (rt.ext hs.ext).ax (by omega) (by omega) fun b61 o62 d gd u4=>?_;obtain⟨k2,fg,rfl⟩:=cZ gd;replace fg:(av g.es (t:Nat))[j2]?=some k2:=fg;obtain⟨x2,Ak,aec⟩:=ay.1 (Yb fg);have aeC:=(Ya.1 Ak).1;have xn:=aI Ak;refine⟨_,u4.hd,g.he,(hA.ext hs.ext).at_.nth 6 rfl,?_⟩;refine (hA.gi.e.rw.ext hs.ext).ax (by omega) (by omega) fun b65 o66 x gx u5=>?_;replace gx:g.es[k2]?=some x:=gx;rw[Ak] at gx;cases gx;refine⟨x2.f,x2.a,x2.b,x2.l,x2.t,x2.ag,u5,?_⟩;refine hs.aj (vs:=x2.cs) rfl rfl fun RT hs=>?_;have skip:aG role x2≠none->∃m,m<(os t).n-j2/\∃j3:Nat,IntKind.wrap .i64 ((j2:Int)+1)=j3/\m=(os t).n-j3/\j3<=(os t).n/\St h RT (.sl ot 200 4 ((B8 g.es role s ((av g.es (t:Nat)).take j3)).map bj.cs)::OG h q bo (sZ g.es role t (av g.es (s:Nat))) (pE g.es role (av g.es (s:Nat)) (av g.es (t:Nat))) s t):=fun bI=>by
    refine⟨_,by omega,j2+1,by rw[bd (by omega) (by omega)];omega,rfl,by omega,?_⟩;rw[w6 fg,if_neg (by unfold yN;rw[xn];intro h9;exact bI (Option.isNone_iff_eq_none.1 h9)),Yw];exact hs.drop 1
   refine⟨x2.a,hs.rd 0 rfl (i:=1) rfl,role,(hA.ext hs.ext).at_.nth 8 rfl,?_⟩;refine dY (fun c3=>?_) (fun c3=>skip fun h9=>(p7.1 h9).1 c3);refine⟨x2.b,hs.rd 0 rfl (i:=2) rfl,role,(hA.ext hs.ext).at_.nth 8 rfl,?_⟩;refine dY (fun c4=>?_) (fun c4=>skip fun h9=>(p7.1 h9).2 c4);have Gd:=p7.2 ⟨c3,c4⟩;refine⟨(s:Nat),hs.rd 4 rfl (i:=0) rfl,x2.t,hs.rd 0 rfl (i:=4) rfl,?_⟩;refine hs.app 1 rfl kZ (m:=1) [bj.cs ⟨-1,(k2:Int),(s:Nat),x2.t⟩] rfl rfl (fun r hr=>by rw[Ye] at hr;rw[hr];rfl) rfl (by omega) (by simp only[maxLen];omega) fun s98 h99 n98 hs=>?_;refine⟨_,by omega,j2+1,by rw[bd (by omega) (by omega)];omega,rfl,by omega,?_⟩;have hs:=hs.drop 1;rw[w6 fg,if_pos (by unfold yN;rw[xn,Gd];rfl),xn,Ym];exact hs
  .rw[Yj (by omega)] at hs Uc;refine hs.ao fun Zh hs=>?_;have kM:=hs.dz 3 1 ([q,ot,bo].map dv) rfl (fun r hr=>by obtain⟨x,_,rfl⟩:=Yp.1 hr;rfl) rfl (by decide);refine (FB [(q,sZ g.es role t (av g.es (s:Nat))),(ot,B8 g.es role s (av g.es (t:Nat))),(bo,pE g.es role (av g.es (s:Nat)) (av g.es (t:Nat)))] _ Zh (kM.rw 0 rfl (by omega)) ?_ (show 3<=1048576 by decide) ?_).mono ?_
   .intro z hz;simp only[Yr,List.not_mem_nil,or_false] at hz;rcases hz with rfl | rfl | rfl
    .exact RL.zF hs 2 rfl (by omega) (by show (sZ _ _ _ _).length<=_;omega)
    .exact RL.zF hs 1 rfl (by omega) (by show (B8 _ _ _ _).length<=_;omega)
    .exact RL.zF hs 3 rfl (by omega) (by show (pE _ _ _ _).length<=_;omega)
   .simp only[iM,List.map_nil,List.sum_cons,List.sum_nil];omega
   .rintro _ xI ⟨r,rfl,bQ⟩;refine⟨r,rfl,r,rfl,?_⟩;have h5:=hs.join bQ;have h6:=h5.sub (L':=[.sl r 200 4 ((([(q,sZ g.es role t (av g.es (s:Nat))),(ot,B8 g.es role s (av g.es (t:Nat))),(bo,pE g.es role (av g.es (s:Nat)) (av g.es (t:Nat)))]:List (Sl × List bj)).flatMap Prod.snd).map bj.cs)]) (List.singleton_sublist.2 (by simp));have e9:(([(q,sZ g.es role t (av g.es (s:Nat))),(ot,B8 g.es role s (av g.es (t:Nat))),(bo,pE g.es role (av g.es (s:Nat)) (av g.es (t:Nat)))]:List (Sl × List bj)).flatMap Prod.snd)=bP g.es role s t:=by
     unfold bP;simp
    rw[e9] at h6;exact h6
end Go.VC
end

section
namespace Go.VC
open Go.Proofs Go.LexS Go.Maps
theorem de{α β:Type}[DecidableEq α](a x:α)(b:β):∀l:List (α × β),aW (cL l a b) x=if x=a then some b else aW l x
 | []=>by
  unfold cL aW;by_cases h:x=a
  .rw[if_pos h,if_pos h.symm]
  .rw[if_neg h,if_neg (fun e=>h e.symm)];rfl
 | (c,y)::r=>by
  have ih:=de a x b r;by_cases hc:c=a
  .rw[cL,if_pos hc];by_cases h:x=a
   .rw[aW,if_pos (by rw[hc,h]),if_pos h]
   .rw[aW,if_neg (fun e=>h (e.symm.trans hc)),if_neg h,aW,if_neg (fun e=>h (e.symm.trans hc))]
  .rw[cL,if_neg hc];by_cases h:c=x
   .rw[aW,if_pos h,if_neg (fun e=>hc (h.trans e)),aW,if_pos h]
   .rw[aW,if_neg h,ih,aW,if_neg h]
theorem df{α β:Type}[DecidableEq α](x:α):∀l:List (α × β),(aW l x).isSome=true ↔ x∈l.map Prod.fst
 | []=>by simp[aW]
 | (c,y)::r=>by
  rw[aW];by_cases h:c=x
  .rw[if_pos h];simp[h]
  .rw[if_neg h,df x r,iM,Yr];exact⟨.inr,fun h9=>h9.resolve_left fun e=>h e.symm⟩
def pC(p:Nat × Nat):List Value:=[.int .i64 (p.1:Nat),.int .i64 (p.2:Nat)]
def pV(p:Nat × Nat):Value:=.agg ⟨pC p⟩
def eW(p:Nat × Nat):Prop:=p.1<1048576/\p.2<1048576
theorem adN : ∃ fs, Pz.underlying 97 = some (.struct fs) /\ fs.all (·.name != "_") = true /\ fs.toList.map (fun f => (f.type, f.offset)) = [(3, 0), (3, 1)] := su (by kernel_rfl)
theorem ZS:Pz.cellsOf 97=2:=by kernel_rfl
theorem xe(p:Nat × Nat)(h:eW p):∃l,keyOf Pz 97 (pV p)=some l:=by
 obtain⟨fs,hu,hn,hf⟩:=adN;obtain⟨h1,h2⟩:=h;have fL:∃n,Pz.types.size+1=n+2:=⟨Pz.types.size-1,by kernel_rfl⟩;obtain⟨n,fL⟩:=fL;have w1:Xy ((p.1:Nat):Int):=⟨by omega,by omega⟩;have w2:Xy ((p.2:Nat):Int):=⟨by omega,by omega⟩;have hl:Pz.keyLits (n+2) 97 (pC p)=some [[.int .i64 ((p.1:Nat):Int)],[.int .i64 ((p.2:Nat):Int)]].flatten:=by
  refine te hu (by rw[ZS];rfl) hn hf ?_;simp only[List.mapM_cons,List.mapM_nil,c3,pC,List.drop_zero,List.take_succ_cons,iY,List.drop_succ_cons,qL u3 w1.wf,qL u3 w2.wf];rfl
 have hkt:Pz.keyType 97=true:=by kernel_rfl
 have Uf:(pV p).formed Pz 97=true:=by
  unfold pV Value.formed;simp only[hu,ZS];rfl
 have e:keyOf Pz 97 (pV p)=(Pz.keyLits (n+2) 97 (pC p)).map fun ls=>.string (keyBytes ls):=by
  unfold keyOf;simp only[hu,hkt,Uf,Bool.and_self,if_true,fL];rfl
 rw[e,hl];exact⟨_,rfl⟩
theorem Hp(a b:Nat × Nat)(h:pV a=pV b):a=b:=by
 unfold pV pC at h;simp at h;exact Prod.ext (by omega) (by omega)
theorem yG:MT Pz 93 97 197 pV eW (.slice none 0 0) where
 K:=Keyed.of_law (deep_law_laid Af (m:=2) (by omega) (cd (by kernel_rfl)) (by kernel_rfl) (by kernel_rfl))
 ht:=by kernel_rfl
 key:=xe
 inj:=Hp
 z:=fun w=>by kernel_rfl
theorem KI:MT Pz 293 97 3 pV eW (.int .i64 0) where
 K:=Keyed.of_law (deep_law_laid Af (m:=2) (by omega) (cd (by kernel_rfl)) (by kernel_rfl) (by kernel_rfl))
 ht:=by kernel_rfl
 key:=xe
 inj:=Hp
 z:=fun w=>by kernel_rfl
def bD(m:bj):Nat × Nat:=(m.s.toNat,m.t.toNat)
inductive eR (g:Gl) (role:Int):Nat × Nat->Prop where
 | start:eR g role (g.s.toNat,g.s.toNat)
 | step {p:Nat × Nat} {m:bj}:eR g role p->m∈bP g.es role p.1 p.2->eR g role (bD m)
theorem Ji{es:List Ed}{k:Nat}{s:Int}(h:k∈av es s):eA es k∈es/\(eA es k).f=s:=by
 obtain⟨x,hx,hf⟩:=ay.1 h;rw[aI hx];exact⟨Yb hx,hf⟩
theorem Mp{g:Gl}{role:Int}{s t:Nat}(hV:ah g)(hs:(s:Int)<g.n)(ht:(t:Int)<g.n){m:bj}(hm:m∈bP g.es role s t):0<=m.s/\m.s<g.n/\0<=m.t/\m.t<g.n:=by
 have hE:∀ {k:Nat} {s:Int},k∈av g.es s->0<=(eA g.es k).t/\(eA g.es k).t<g.n:=fun {k s} hk=>by
  have:=hV.num.e _ (Ji hk).1;unfold fp at this;omega
 unfold bP at hm;rcases Yk.1 hm with hm | hm
 .rcases Yk.1 hm with hm | hm
  .obtain⟨k,hk,rfl⟩:=Yp.1 hm;have:=hE (List.mem_filter.1 hk).1;exact⟨this.1,this.2,by show (0:Int)<=((t:Nat):Int);omega,ht⟩
  .obtain⟨k,hk,rfl⟩:=Yp.1 hm;have:=hE (List.mem_filter.1 hk).1;exact⟨by show (0:Int)<=((s:Nat):Int);omega,hs,this.1,this.2⟩
 .unfold pE at hm;obtain⟨i,hi,hm⟩:=List.mem_flatMap.1 hm;unfold s6 at hm;split at hm
  .cases hm
  .obtain⟨k,hk,rfl⟩:=Yp.1 hm;have h1:=hE hi;have h2:=hE (List.mem_filter.1 hk).1;exact⟨h1.1,h1.2,h2.1,h2.2⟩
theorem qv{g:Gl}{role:Int}{p:Nat × Nat}(hV:ah g)(hp:(p.1:Int)<g.n/\(p.2:Int)<g.n){m:bj}(hm:m∈bP g.es role p.1 p.2):((bD m).1:Int)<g.n/\((bD m).2:Int)<g.n/\((bD m).1:Int)=m.s/\((bD m).2:Int)=m.t:=by
 have:=Mp hV hp.1 hp.2 hm;unfold bD;refine⟨?_,?_,?_,?_⟩<;>simp only<;>omega
theorem eR.lt{g:Gl}{role:Int}(hV:ah g){p:Nat × Nat}(h:eR g role p):(p.1:Int)<g.n/\(p.2:Int)<g.n:=by
 induction h with
 | start=>have:=hV.num.n;exact⟨by simp only;omega,by simp only;omega⟩
 | step _ hm ih=>have:=qv hV ih hm;exact⟨this.1,this.2.1⟩
theorem uY{n:Nat}{A:List (Nat × Nat)}(hn:A.Nodup)(h:∀p∈A,p.1<n/\p.2<n):A.length<=n*n:=by
 have h1:=List.Nodup.length_le_of_subset hn (l₂:=(List.range n).flatMap fun i=>(List.range n).map fun j=>(i,j)) fun p hp=>by
  have:=h p hp;exact List.mem_flatMap.2 ⟨p.1,List.mem_range.2 this.1,Yp.2 ⟨p.2,List.mem_range.2 this.2,rfl⟩⟩
 have h2:((List.range n).flatMap fun i=>(List.range n).map fun j=>(i,j)).length=n*n:=by
  rw[List.length_flatMap];simp only[Yc,kv];have:∀(l:List Nat),(l.map fun _=>n).sum=l.length*n:=fun l=>by
   induction l with
   | nil=>simp
   | cons a l ih=>rw[iM,List.sum_cons,ih,jC,Nat.succ_mul];omega
  rw[this,kv]
 omega
theorem lS{es:List Ed}{role:Int}{s t:Nat}(h:es.length<=400):(bP es role s t).length<=160800:=by
 unfold bP;rw[Yh,Yh];have h1:=B6 (es:=es) (role:=role) (t:=t) (l:=av es (s:Nat));have h2:=B7 (es:=es) (role:=role) (t:=s) (l:=av es (t:Nat));have h3:=uJ (es:=es) (role:=role) (l:=av es (s:Nat)) (m:=av es (t:Nat));have h4:=ef es (s:Nat);have h5:=ef es (t:Nat);have h6:(av es (s:Nat)).length*(av es (t:Nat)).length<=400*400:=Nat.mul_le_mul (by omega) (by omega);omega
end Go.VC
end
