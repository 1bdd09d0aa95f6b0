/- PjQ0 PjR0 PjT0 PjCa PjLsA PjX0 PjShelf PjSh PjStA PjG0 PjStB PjLi0 PjLi PjStub PjB PjC PjD PjE PjF PjG PjH. -/
import Derived.Test.YtfdhgcladnbdeaaGreatDoorDM04
import Derived.Shelf.Strings.Split
import Derived.Shelf.Bits.Mul64
import Derived.Shelf.Spec.TrailingZeros
import Derived.Shelf.SlLaysF0
import Derived.Ground.NamesProg
import Derived.Ground.Names7Prog
import Derived.Ground.SlsfProg
import Derived.Lib.TrailingZeros
import Derived.Maps.AppendAt
set_option linter.all false
set_option maxRecDepth 100000
set_option maxHeartbeats 8000000

section
namespace Go.VC
structure Ti where
 ag:Bool
 k:Int
 x:Ev
 deriving DecidableEq
def Ti.cs (t:Ti):List Value:=[.bool t.ag,.int .i64 t.k,.bool t.x.send,.int .i64 t.x.peer,.int .i64 t.x.label]
def ti0:Ti:=⟨false,0,⟨false,0,0⟩⟩
def updT (T:List Ti) (n:Nat) (f:Ti->Ti):List Ti:=match T[n]? with | some t=>T.set n (f t) | none=>T
def own1 (role:Int) (s:List Bool × List Ti) (x:Ed):List Bool × List Ti:=
 if x.a=role then (s.1.set x.f.toNat true,updT s.2 x.f.toNat fun t=>{ t with ag:=x.ag }) else s
def own2 (es:List Ed) (O:List Bool) (T:List Ti) (t:To):List Ti:=
 match O[t.s.toNat]?,es[t.e.toNat]? with
 | some true,some x=>updT T t.s.toNat fun q=>⟨q.ag,t.k,⟨true,x.b,x.l⟩⟩
 | _,_=>T
theorem updT_len (T:List Ti) (n:Nat) (f:Ti->Ti):(updT T n f).length=T.length:=by
 unfold updT;split
 .rw[Yyh]
 .rfl
theorem own1_len (role:Int) (s:List Bool × List Ti) (x:Ed):(own1 role s x).1.length=s.1.length/\(own1 role s x).2.length=s.2.length:=by
 unfold own1;split
 .exact⟨Yyh,updT_len _ _ _⟩
 .exact⟨rfl,rfl⟩
theorem own2_len (es:List Ed) (O:List Bool) (T:List Ti) (t:To):(own2 es O T t).length=T.length:=by
 unfold own2;split
 .exact updT_len _ _ _
 .rfl
def ownE (es:List Ed) (role:Int) (n:Nat):List Bool × List Ti:=es.foldl (own1 role) (List.replicate n false,List.replicate n ti0)
def ownT (es:List Ed) (ts:List To) (role:Int) (n:Nat):List Ti:=ts.foldl (own2 es (ownE es role n).1) (ownE es role n).2
theorem ownE_len (es:List Ed) (role:Int) (n:Nat):(ownE es role n).1.length=n/\(ownE es role n).2.length=n:=by
 unfold ownE
 suffices h:∀(l:List Ed) (s:List Bool × List Ti),(l.foldl (own1 role) s).1.length=s.1.length/\(l.foldl (own1 role) s).2.length=s.2.length by
  have:=h es (List.replicate n false,List.replicate n ti0);simpa using this
 intro l
 induction l with
 | nil=>intro s;exact⟨rfl,rfl⟩
 | cons a l ih=>intro s;rw[List.foldl_cons];have h1:=ih (own1 role s a);have h2:=own1_len role s a;exact⟨h1.1.trans h2.1,h1.2.trans h2.2⟩
theorem ownT_len (es:List Ed) (ts:List To) (role:Int) (n:Nat):(ownT es ts role n).length=n:=by
 unfold ownT
 suffices h:∀(l:List To) (T:List Ti),(l.foldl (own2 es (ownE es role n).1) T).length=T.length from (h ts _).trans (ownE_len es role n).2
 intro l
 induction l with
 | nil=>intro s;rfl
 | cons a l ih=>intro s;rw[List.foldl_cons,ih,own2_len]
theorem foldl_snoc {α β:Type} {f:β->α->β} {b:β} {l:List α} {i:Nat} {x:α} (h:l[i]?=some x):(l.take (i+1)).foldl f b=f ((l.take i).foldl f b) x:=by
 rw[List.take_add_one,h,List.foldl_append];rfl
theorem St.setf {α:Type} {h0 h:Heap} {L:List It} (hs:St h0 h L) (k:Nat) {s:Sl} {e:TypeId} {n:Nat} {cs:α->List Value} {l:List α} (hk:L[k]?=some (.sl s e n (l.map cs))) (hn:0<n) {x:Int} (hx0:0<=x) (hx1:x<(s.n:Nat)) (j:Nat) {y:α} (hy:l[x.toNat]?=some y) (y':α) {vs:List Value} (hsp:splice (cs y) j vs=cs y')
  (hv:j+vs.length<=n) {m:Nat} (hm:m=vs.length) {K:Nat->Nat->Heap->Prop} (hK:∀b o h',St h0 h' (L.set k (.sl s e n ((l.set x.toNat y').map cs)))->K b o h') :
  NB s.a fun b o=>(0<=x/\x<(s.n:Nat))/\(okAt h ⟨b,o+x.toNat*n+j,none⟩ m/\∀h',h'=hputs h ⟨b,o+x.toNat*n+j,none⟩ 0 vs->K b o h'):=by
 refine hs.nbput k hk hn (i:=x.toNat) (row:=cs y) (by rw[Yd,hy];rfl) j hv (fun b o h' h1=>hK b o h' ?_) hm ⟨hx0,hx1⟩;rw[hsp] at h1;rw[List.map_set];exact h1
theorem updT_get {T:List Ti} {n:Nat} {f:Ti->Ti} {t:Ti} (h:T[n]?=some t):updT T n f=T.set n (f t):=by unfold updT;rw[h]
def sndAt (L:List Ev) (i:Nat):Bool:=match L[i]? with | some x=>x.send | none=>false
def badV (F:Nat->List Ev) (en:Nat->Bool) (l:List Nat) (n:Nat):Bool:=sndAt (F n) 0&&(en n || !sndAt (F n) ((F n).length-1)||l.any fun k=>en k||decide (F n≠F k))
def stepV (F:Nat->List Ev) (en:Nat->Bool) (O:List Bool) (T:List Ti) (l:List Nat) (st:Option (Bool × Ti)) (n:Nat):Option (Bool × Ti):=
 match st with
 | none=>none
 | some (k,o)=>if badV F en l n then none else match O[n]?,T[n]? with
  | some true,some t=>if k&&decide (t≠o) then none else some (true,t)
  | _,_=>some (k,o)
def viewV (F:Nat->List Ev) (en:Nat->Bool) (O:List Bool) (T:List Ti) (l:List Nat):Option Ti:=(l.foldl (stepV F en O T l) (some (false,ti0))).map Prod.snd
theorem stepV_none (F:Nat->List Ev) (en:Nat->Bool) (O:List Bool) (T:List Ti) (l m:List Nat):m.foldl (stepV F en O T l) none=none:=by
 induction m with
 | nil=>rfl
 | cons a m ih=>rw[List.foldl_cons];exact ih
theorem viewV_none {F:Nat->List Ev} {en:Nat->Bool} {O:List Bool} {T:List Ti} {l:List Nat} {i:Nat} {b:Option (Bool × Ti)} {n:Nat} (hb:(l.take i).foldl (stepV F en O T l) (some (false,ti0))=b) (hn:l[i]?=some n) (h:stepV F en O T l b n=none):viewV F en O T l=none:=by
 unfold viewV;have e:l=l.take i++(n::l.drop (i+1)):=by
  have:=List.take_append_drop i l;obtain⟨h1,h2⟩:=Ya.1 hn;rw[List.drop_eq_getElem_cons h1,h2] at this;exact this.symm
 have e2:l.foldl (stepV F en O T l) (some (false,ti0))=none:=by
  have:∀m,m=l->m.foldl (stepV F en O T l) (some (false,ti0))=none:=by
   intro m hm;rw[hm.trans e,List.foldl_append,hb,List.foldl_cons,h,stepV_none]
  exact this l rfl
 rw[e2];rfl
theorem ti_eqb (x y:Ti):(((x.ag==y.ag)&&((x.k==y.k)&&(((x.x.send==y.x.send)&&((x.x.peer==y.x.peer)&&((x.x.label==y.x.label)&&true)))&&true))):Bool)=decide (x=y):=by
 obtain⟨a,k,⟨s,p,l⟩⟩:=x;obtain⟨a',k',⟨s',p',l'⟩⟩:=y;simp[Bool.beq_eq_decide_eq,<-Bool.decide_and]
theorem Rw.atI {α:Type} {h:Heap} {k:Nat} {s:Sl} {cs:α->List Value} {L:List α} (hr:Rw h k s (L.map cs)) {b o:Nat} (ha:s.a=some ⟨b,o,none⟩) {i:Nat} {y:α} (hi:L[i]?=some y):atC h ⟨b,o+i*k,none⟩ (cs y):=by
 obtain⟨b',o',ha',hall⟩:=hr.2 (by rw[Yc];have:=(Ya.1 hi).1;omega);rw[ha] at ha';cases ha';exact hall i (cs y) (by rw[Yd,hi];rfl)
theorem St.nbw {α:Type} {h0 h:Heap} {L:List It} (hs:St h0 h L) (k:Nat) {s:Sl} {e:TypeId} {n:Nat} {cs:α->List Value} {l:List α} (hk:L[k]?=some (.sl s e n (l.map cs))) (hn:0<n) {x:Int} (hx0:0<=x) (hx1:x<(s.n:Nat)) {F:Nat->Nat->Prop}
  (hF:∀b o y,l[x.toNat]?=some y->s.a=some ⟨b,o,none⟩->atC h ⟨b,o+x.toNat*n,none⟩ (cs y)->(∀(j:Nat) (y':α) (vs:List Value),splice (cs y) j vs=cs y'->j+vs.length<=n->∀ {m:Nat} (_:m=vs.length) {K:Heap->Prop},(∀h',St h0 h' (L.set k (.sl s e n ((l.set x.toNat y').map cs)))->K h') ->
   okAt h ⟨b,o+x.toNat*n+j,none⟩ m/\∀h',h'=hputs h ⟨b,o+x.toNat*n+j,none⟩ 0 vs->K h')->F b o):NB s.a fun b o=>(0<=x/\x<(s.n:Nat))/\F b o:=by
 have hr:=hs.rows k hk hn;have hl:=hr.ln;have hlt:x.toNat<l.length:=by omega
 have hg:l[x.toNat]?=some l[x.toNat]:=Yi hlt;refine hr.nb (i:=x.toNat) (row:=cs l[x.toNat]) (by rw[Yd,hg];rfl) fun b o ha hat=>⟨⟨hx0,hx1⟩,hF b o _ hg ha hat ?_⟩;intro j y' vs hsp hv m hm K hK;have h1:=hs.setf k hk hn hx0 hx1 j hg y' hsp hv hm (K:=fun _ _ h'=>K h') (fun _ _ h' h2=>hK h' h2);rw[ha,NB_some] at h1;exact h1.2
structure Mch where
 role:Int
 n:Int
 s:Int
 fin:List Bool
 mv:List Mv
 li:List To
def updR (n:Nat) (x:Ti) (y:Mv):Mv:=if y.f=n/\y.send=true then { y with ag:=x.ag } else y
def limC (n:Nat) (x:Ti) (q:Mv × Nat):Option To:=if q.1.f=n/\q.1.send=true/\x.k>0/\x.x=⟨true,q.1.peer,q.1.label⟩ then some ⟨n,x.k,q.2⟩ else none
def limR (n:Nat) (x:Ti) (M:List Mv):List To:=M.zipIdx.filterMap (limC n x)
def rawL (vw:List Nat->Option Ti):Nat->List PSet->List Mv->List To->Option (List Mv × List To)
 | _,[],M,L=>some (M,L)
 | n,p::S,M,L=>match vw (elems p) with
  | none=>none
  | some x=>rawL vw (n+1) S (M.map (updR n x)) (L++limR n x M)
theorem updR_same (n:Nat) (x:Ti) (y:Mv):(updR n x y).f=y.f/\(updR n x y).send=y.send/\(updR n x y).peer=y.peer/\(updR n x y).label=y.label/\(updR n x y).t=y.t:=by
 unfold updR;split<;>exact⟨rfl,rfl,rfl,rfl,rfl⟩
theorem limR_len (n:Nat) (x:Ti) (M:List Mv):(limR n x M).length<=M.length:=by
 unfold limR;refine Yys (List.length_filterMap_le _ _) ?_;rw[List.length_zipIdx];exact Yyt _
theorem zip_snoc {α:Type} {l:List α} {i:Nat} {x:α} (h:l[i]?=some x):(l.take (i+1)).zipIdx=(l.take i).zipIdx++[(x,i)]:=by
 rw[take_snoc h,List.zipIdx_append,Yu,Nat.min_eq_left (Nat.le_of_lt (Ya.1 h).1)];simp
theorem set_split {α:Type} {i:Nat} {x y:α} (f:α->α) {M:List α} (h:M[i]?=some x) (hy:f x=y):((M.take i).map f++M.drop i).set i y=(M.take (i+1)).map f++M.drop (i+1):=by
 obtain⟨h1,h2⟩:=Ya.1 h;have hl:((M.take i).map f).length=i:=by rw[Yc,Yu];omega
 rw[take_snoc h,Ym,List.drop_eq_getElem_cons h1,List.set_append_right _ _ (by omega),hl,Nat.sub_self,List.set_cons_zero,Yz,<-hy];rfl
theorem get_split {α:Type} {i:Nat} {f:α->α} {M:List α}:((M.take i).map f++M.drop i)[i]?=M[i]?:=by
 by_cases hi:i<=M.length
 .have hl:((M.take i).map f).length=i:=by rw[Yc,Yu];omega
  rw[Yyc (by omega),hl,Nat.sub_self,List.getElem?_drop,Nat.add_zero]
 .rw[Yl (by rw[Yh,Yc,Yu,List.length_drop];omega),Yl (by omega)]
end Go.VC
end

section
namespace Go.VC
def dedF {K:Type} [DecidableEq K] (l:List K):List K:=l.foldl (fun a k=>if k∈a then a else a++[k]) []
def idxF {K:Type} [DecidableEq K]:List K->K->Nat
 | [],_=>0
 | x::r,k=>if x=k then 0 else idxF r k+1
def canonL {K:Type} [DecidableEq K] (l:List K):List Nat:=l.map (idxF (dedF l))
section
variable {K K':Type} [DecidableEq K] [DecidableEq K']
theorem dedF_snoc (l:List K) (k:K):dedF (l++[k])=if k∈dedF l then dedF l else dedF l++[k]:=by unfold dedF;rw[List.foldl_append];rfl
theorem dedF_take {l:List K} {i:Nat} {k:K} (h:l[i]?=some k):dedF (l.take (i+1))=if k∈dedF (l.take i) then dedF (l.take i) else dedF (l.take i)++[k]:=by rw[take_snoc h,dedF_snoc]
theorem dedF_mem (l:List K) (k:K):k∈dedF l ↔ k∈l:=by
 suffices h:∀(m a:List K),k∈m.foldl (fun a k=>if k∈a then a else a++[k]) a ↔ k∈a\/k∈m by have:=h l [];simpa [dedF] using this
 intro m
 induction m with
 | nil=>intro a;simp
 | cons x r ih=>
  intro a;rw[List.foldl_cons,ih];split
  .rename_i hx;rw[Yr];constructor
   .rintro (h | h)
    .exact .inl h
    .exact .inr (.inr h)
   .rintro (h | rfl | h)
    .exact .inl h
    .exact .inl hx
    .exact .inr h
  .rw[Yk,Ye,Yr];constructor
   .rintro ((h | h) | h)
    .exact .inl h
    .exact .inr (.inl h)
    .exact .inr (.inr h)
   .rintro (h | h | h)
    .exact .inl (.inl h)
    .exact .inl (.inr h)
    .exact .inr h
theorem idxF_mem {l:List K} {k:K} (h:k∈l) (m:List K):idxF (l++m) k=idxF l k:=by
 induction l with
 | nil=>cases h
 | cons x r ih=>
  rw[List.cons_append,idxF,idxF];split
  .rfl
  .rename_i hx;rw[ih (by rcases Yr.1 h with h | h;exact absurd h.symm hx;exact h)]
theorem idxF_not {l:List K} {k:K} (h:k∉l):idxF l k=l.length:=by
 induction l with
 | nil=>rfl
 | cons x r ih=>
  rw[Yr,not_or] at h;rw[idxF,if_neg (fun e=>h.1 e.symm),ih h.2,Yyj]
theorem idxF_lt {l:List K} {k:K} (h:k∈l):idxF l k<l.length:=by
 induction l with
 | nil=>cases h
 | cons x r ih=>
  rw[idxF,Yyj];split
  .omega
  .rename_i hx;have:=ih (by rcases Yr.1 h with h | h;exact absurd h.symm hx;exact h);omega
theorem idxF_inj {l:List K} {a b:K} (ha:a∈l) (h:idxF l a=idxF l b):a=b:=by
 induction l with
 | nil=>cases ha
 | cons x r ih=>
  rw[idxF,idxF] at h;split at h<;>split at h
  .rename_i h1 h2;rw[<-h1,<-h2]
  .omega
  .omega
  .rename_i h1 _;exact ih (by rcases Yr.1 ha with h | h;exact absurd h.symm h1;exact h) (by omega)
theorem canon_pat {l:List K} {l':List K'} (hl:l.length=l'.length) (hp:∀(i j:Nat) (a b:K) (a' b':K'),l[i]?=some a->l[j]?=some b->l'[i]?=some a'->l'[j]?=some b'->(a=b ↔ a'=b')) :
  ∀n,n<=l.length->(dedF (l.take n)).length=(dedF (l'.take n)).length/\∀(j:Nat) (a:K) (a':K'),j<n->l[j]?=some a->l'[j]?=some a'->idxF (dedF (l.take n)) a=idxF (dedF (l'.take n)) a'
 | 0,_=>⟨rfl,fun j _ _ hj=>by omega⟩
 | n+1,hn=>by
  obtain⟨h1,h2⟩:=canon_pat hl hp n (by omega);obtain⟨x,hx⟩:=get_some (l:=l) (i:=n) (by omega);obtain⟨x',hx'⟩:=get_some (l:=l') (i:=n) (by omega);have hmem:x∈dedF (l.take n) ↔ x'∈dedF (l'.take n):=by
   rw[dedF_mem,dedF_mem];constructor
   .intro h;obtain⟨j,hj⟩:=Yf.1 h;have hjn:j<n:=by have:=(Ya.1 hj).1;rw[Yu] at this;omega
    rw[Yyf,if_pos hjn] at hj;obtain⟨y',hy'⟩:=get_some (l:=l') (i:=j) (by omega);have:=(hp j n x x y' x' hj hx hy' hx').1 rfl;subst this;exact Yb (i:=j) (by rw[Yyf,if_pos hjn];exact hy')
   .intro h;obtain⟨j,hj⟩:=Yf.1 h;have hjn:j<n:=by have:=(Ya.1 hj).1;rw[Yu] at this;omega
    rw[Yyf,if_pos hjn] at hj;obtain⟨y,hy⟩:=get_some (l:=l) (i:=j) (by omega);have:=(hp j n y x x' x' hy hx hj hx').2 rfl;subst this;exact Yb (i:=j) (by rw[Yyf,if_pos hjn];exact hy)
  rw[dedF_take hx,dedF_take hx'];by_cases hm:x∈dedF (l.take n)
  .rw[if_pos hm,if_pos (hmem.1 hm)];refine⟨h1,fun j a a' hj ha ha'=>?_⟩;by_cases e:j=n
   .subst e;rw[hx] at ha;cases ha;rw[hx'] at ha';cases ha';obtain⟨i,hi⟩:=Yf.1 ((dedF_mem _ _).1 hm);have hin:i<j:=by have:=(Ya.1 hi).1;rw[Yu] at this;omega
    rw[Yyf,if_pos hin] at hi;obtain⟨y',hy'⟩:=get_some (l:=l') (i:=i) (by omega);have:=(hp i j x x y' x' hi hx hy' hx').1 rfl;rw[h2 i x y' hin hi hy',this]
   .exact h2 j a a' (by omega) ha ha'
  .rw[if_neg hm,if_neg (fun h=>hm (hmem.2 h))];refine⟨by rw[Yh,Yh,h1];rfl,fun j a a' hj ha ha'=>?_⟩;by_cases e:j=n
   .subst e;rw[hx] at ha;cases ha;rw[hx'] at ha';cases ha';have key:∀ {K:Type} [DecidableEq K] {l:List K} {k:K},k∉l->idxF (l++[k]) k=l.length:=by
     intro K _ l k h
     induction l with
     | nil=>rw[List.nil_append,idxF,if_pos rfl];rfl
     | cons x r ih=>
      rw[Yr,not_or] at h;rw[List.cons_append,idxF,if_neg (fun e=>h.1 e.symm),ih h.2,Yyj]
    rw[key hm,key (fun h=>hm (hmem.2 h)),h1]
   .have hmj:∀ {K:Type} [DecidableEq K] {l:List K} {a:K},l[j]?=some a->a∈dedF (l.take n):=fun h=>(dedF_mem _ _).2 (Yb (i:=j) (by rw[Yyf,if_pos (by omega)];exact h));rw[idxF_mem (hmj ha),idxF_mem (hmj ha')];exact h2 j a a' (by omega) ha ha'
theorem canon_eq {l:List K} {l':List K'} (hl:l.length=l'.length) (hp:∀(i j:Nat) (a b:K) (a' b':K'),l[i]?=some a->l[j]?=some b->l'[i]?=some a'->l'[j]?=some b'->(a=b ↔ a'=b')):canonL l=canonL l'/\(dedF l).length=(dedF l').length:=by
 have h:=canon_pat hl hp l.length (Yyt _);rw[Yye,hl,Yye] at h;refine⟨?_,h.1⟩;apply Yyr;intro j;unfold canonL;rw[Yd,Yd];by_cases hj:j<l.length
 .obtain⟨a,ha⟩:=get_some (l:=l) (i:=j) hj;obtain⟨a',ha'⟩:=get_some (l:=l') (i:=j) (by omega);rw[ha,ha',Option.map_some,Option.map_some,h.2 j a a' (by omega) ha ha']
 .rw[Yl (by omega),Yl (by omega)];rfl
theorem canonL_len (l:List K):(canonL l).length=l.length:=Yc _
theorem canonL_get {l:List K} {i:Nat} {k:K} (h:l[i]?=some k):(canonL l)[i]?=some (idxF (dedF l) k):=by unfold canonL;rw[Yd,h];rfl
theorem canonL_lt {l:List K} {c:Nat} (h:c∈canonL l):c<(dedF l).length:=by
 obtain⟨k,hk,rfl⟩:=Yp.1 h;exact idxF_lt ((dedF_mem _ _).2 hk)
theorem canonL_eq {l:List K} {i j:Nat} {a b:K} (ha:l[i]?=some a) (hb:l[j]?=some b):(canonL l)[i]?=(canonL l)[j]? ↔ a=b:=by
 rw[canonL_get ha,canonL_get hb];constructor
 .intro h;exact idxF_inj ((dedF_mem _ _).2 (Yb ha)) (Yyp h)
 .intro h;rw[h]
theorem dedF_canon (l:List K):(dedF (canonL l)).length=(dedF l).length:=by
 refine (canon_eq (canonL_len l) fun i j a b a' b' h1 h2 h3 h4=>?_).2;have:=canonL_eq h3 h4;rw[h1,h2] at this;rw[<-this];exact⟨fun h=>by rw[h],fun h=>Yyp h⟩
theorem dedF_map_le (f:K->K') (l:List K):(dedF (l.map f)).length<=(dedF l).length:=by
 have key:∀n,n<=l.length->(dedF ((l.map f).take n)).length<=(dedF (l.take n)).length:=by
  intro n
  induction n with
  | zero=>intro _;exact Yyt _
  | succ n ih=>
   intro hn;obtain⟨x,hx⟩:=get_some (l:=l) (i:=n) (by omega);rw[dedF_take hx,dedF_take (l:=l.map f) (k:=f x) (by rw[Yd,hx];rfl)];have:=ih (by omega);by_cases hm:x∈dedF (l.take n)
   .have:f x∈dedF ((l.map f).take n):=by
     rw[dedF_mem,<-List.map_take];exact Yp.2 ⟨x,(dedF_mem _ _).1 hm,rfl⟩
    rw[if_pos hm,if_pos this];omega
   .rw[if_neg hm,Yh];split
    .omega
    .rw[Yh];simp only[Yv];omega
 have:=key l.length (Yyt _)
 rwa [Yye,Yj (by rw[Yc];exact Yyt _)] at this
theorem dedF_len_le (l:List K):(dedF l).length<=l.length:=by
 have key:∀n,n<=l.length->(dedF (l.take n)).length<=n:=by
  intro n
  induction n with
  | zero=>intro _;exact Yyt _
  | succ n ih=>
   intro hn;obtain⟨x,hx⟩:=get_some (l:=l) (i:=n) (by omega);rw[dedF_take hx];have:=ih (by omega);split
   .omega
   .rw[Yh];simp only[Yv];omega
 have:=key l.length (Yyt _)
 rwa [Yye] at this
end
structure Sg where
 b:Int
 k:Int
 x:Ev
 ag:Bool
 num:Int
 deriving DecidableEq
def Sg.v (s:Sg):Value:=.agg ⟨[.int .i64 s.b,.int .i64 s.k,.bool s.x.send,.int .i64 s.x.peer,.int .i64 s.x.label,.bool s.ag,.int .i64 s.num]⟩
theorem Sg.v_inj (a b:Sg) (h:a.v=b.v):a=b:=by
 obtain⟨a1,a2,⟨a3,a4,a5⟩,a6,a7⟩:=a;obtain⟨b1,b2,⟨b3,b4,b5⟩,b6,b7⟩:=b;unfold Sg.v at h;simp at h;simp[h]
structure NOk (n:Int) (N:List (Sg × Int)):Prop where
 nd:(N.map Prod.fst).Nodup
 va:∀(j:Nat) (q:Sg × Int),N[j]?=some q->q.2=(j:Int)+n+2
theorem NOk.nil (n:Int):NOk n []:=⟨List.nodup_nil,fun j q h=>by simp at h⟩
theorem NOk.push {n:Int} {N:List (Sg × Int)} (h:NOk n N) {s:Sg} (hs:∀q∈N,q.1≠s):NOk n (N++[(s,(N.length:Int)+n+2)]):=by
 refine⟨?_,fun j q hq=>?_⟩
 .rw[Ym,List.nodup_append];refine⟨h.nd,by simp,fun a ha b hb=>?_⟩;simp only[Yyl,List.map_nil,Ye] at hb;subst hb;obtain⟨q,hq,rfl⟩:=Yp.1 ha;exact hs q hq
 .by_cases hj:j<N.length
  .rw[Yyi hj] at hq;exact h.va j q hq
  .have hjl:=(Ya.1 hq).1;rw[Yh,Yv] at hjl;have:j=N.length:=by omega
   subst this;rw[Yyc (Yyt _),Nat.sub_self] at hq;cases hq;rfl
theorem NOk.keyv {n:Int} {N:List (Sg × Int)} (h:NOk n N) {s s':Sg} {v:Int} (h1:(s,v)∈N) (h2:(s',v)∈N):s=s':=by
 obtain⟨i,hi⟩:=Yf.1 h1;obtain⟨j,hj⟩:=Yf.1 h2;have e1:=h.va i _ hi;have e2:=h.va j _ hj;have:i=j:=by simp only at e1 e2;omega
 subst this;rw[hi] at hj;cases hj;rfl
theorem NOk.val {n:Int} {N:List (Sg × Int)} (h:NOk n N) {s:Sg} {v v':Int} (h1:(s,v)∈N) (h2:(s,v')∈N):v=v':=by
 obtain⟨i,hi⟩:=Yf.1 h1;obtain⟨j,hj⟩:=Yf.1 h2;have hi':(N.map Prod.fst)[i]?=some s:=by rw[Yd,hi];rfl
 have hj':(N.map Prod.fst)[j]?=some s:=by rw[Yd,hj];rfl
 have:i=j:=(List.getElem?_inj (Ya.1 hi').1 h.nd).1 (hi'.trans hj'.symm);subst this;rw[hi] at hj;cases hj;rfl
inductive HsN (N:List (Sg × Int)):Int->List Sg->Prop
 | base {s:Sg} {v:Int} (hm:(s,v)∈N) (hk:s.k=0):HsN N v [s]
 | step {s:Sg} {v:Int} {l:List Sg} (hm:(s,v)∈N) (hk:s.k≠0) (hh:HsN N s.b l):HsN N v ({ s with b:=0 }::l)
theorem HsN.mono {N N':List (Sg × Int)} (hsub:∀q∈N,q∈N') {v:Int} {l:List Sg} (h:HsN N v l):HsN N' v l:=by
 induction h with
 | base hm hk=>exact .base (hsub _ hm) hk
 | step hm hk _ ih=>exact .step (hsub _ hm) hk ih
theorem HsN.ne {N:List (Sg × Int)} {v:Int} (h:HsN N v []):False:=by cases h
theorem HsN.inj {n:Int} {N:List (Sg × Int)} (hN:NOk n N):∀ {l:List Sg} {v v':Int},HsN N v l->HsN N v' l->v=v'
 | [],_,_,h,_=>h.ne.elim
 | a::l,v,v',h,h'=>by
  cases h with
  | base hm hk=>
   cases h' with
   | base hm' hk'=>exact hN.val hm hm'
   | @step s' _ _ hm' hk' hh=>exact hh.ne.elim
  | @step s _ _ hm hk hh=>
   generalize hq:({ s with b:=0 }:Sg)=q at h';cases h' with
   | base hm' hk'=>exact hh.ne.elim
   | @step s' _ _ hm' hk' hh'=>
    have hb:=HsN.inj hN hh hh';have:s=s':=by
     obtain⟨a1,a2,a3,a4,a5⟩:=s;obtain⟨b1,b2,b3,b4,b5⟩:=s';simp only[Sg.mk.injEq] at hq ⊢;exact⟨hb,hq.2⟩
    subst this;exact hN.val hm hm'
theorem HsN.func {n:Int} {N:List (Sg × Int)} (hN:NOk n N) {v:Int} {l l':List Sg} (h:HsN N v l):HsN N v l'->l=l':=by
 intro h'
 induction h generalizing l' with
 | base hm hk=>
  cases h' with
  | base hm' hk'=>rw[hN.keyv hm hm']
  | step hm' hk' hh=>have:=hN.keyv hm hm';subst this;exact absurd hk hk'
 | step hm hk hh ih=>
  cases h' with
  | base hm' hk'=>have:=hN.keyv hm hm';subst this;exact absurd hk' hk
  | step hm' hk' hh'=>have:=hN.keyv hm hm';subst this;rw[ih hh']
def nextF (n:Int) (N:List (Sg × Int)) (s:Sg):Int × List (Sg × Int):=match mget N s with
 | some v=>(v,N)
 | none=>((N.length:Int)+n+2,N++[(s,(N.length:Int)+n+2)])
theorem mget_mem {α β:Type} [DecidableEq α] {a:α} {y:β}:∀ {l:List (α × β)},mget l a=some y->(a,y)∈l
 | [],h=>by cases h
 | (x,z)::r,h=>by
  rw[mget] at h;split at h
  .rename_i e;cases h;subst e;simp
  .exact Yn _ (mget_mem h)
theorem mget_not {α β:Type} [DecidableEq α] {a:α}:∀ {l:List (α × β)},mget l a=none->∀q∈l,q.1≠a
 | [],_,q,hq=>by cases hq
 | (x,z)::r,h,q,hq=>by
  rw[mget] at h;split at h
  .cases h
  .rename_i e;rcases Yr.1 hq with rfl | hq
   .exact e
   .exact mget_not h q hq
theorem nextF_spec {n:Int} {N:List (Sg × Int)} (hN:NOk n N) (s:Sg):NOk n (nextF n N s).2/\(∀q∈N,q∈(nextF n N s).2)/\(s,(nextF n N s).1)∈(nextF n N s).2/\(nextF n N s).2.length<=N.length+1/\∀q∈(nextF n N s).2,q∈N\/q.1=s:=by
 unfold nextF;cases h:mget N s with
 | some v=>exact⟨hN,fun q hq=>hq,mget_mem h,by simp,fun q hq=>.inl hq⟩
 | none=>
  refine⟨hN.push (mget_not h),fun q hq=>Yk.2 (.inl hq),Yk.2 (.inr (by simp)),by simp,fun q hq=>?_⟩;rcases Yk.1 hq with hq | hq
  .exact .inl hq
  .rw[Ye] at hq;subst hq;exact .inr rfl
theorem NOk.bound {n:Int} {N:List (Sg × Int)} (h:NOk n N) {s:Sg} {v:Int} (hm:(s,v)∈N):n+2<=v/\v<(N.length:Int)+n+2:=by
 obtain⟨j,hj⟩:=Yf.1 hm;have:=h.va j _ hj;have:=(Ya.1 hj).1;simp only at *;omega
def ev0:Ev:=⟨false,0,0⟩
def Mv.ev (x:Mv):Ev:=⟨x.send,x.peer,x.label⟩
def sgB (C:List Nat) (fin:List Bool) (s:Nat):Sg:=⟨(C.getD s 0:Nat),0,ev0,fin.getD s false,0⟩
def sgL (mv:List Mv) (t:To):Sg:=⟨0,1,match mv[t.e.toNat]? with | some x=>x.ev | none=>ev0,false,t.k⟩
def sgM (C:List Nat) (x:Mv):Sg:=⟨0,2,x.ev,x.ag,(C.getD x.t.toNat 0:Nat)⟩
def keyH (m:Mch) (C:List Nat) (li:List To) (mv:List Mv) (s:Nat):List Sg:=
 ((mv.filter fun x=>x.f=(s:Int)).map (sgM C)).reverse++(((li.filter fun t=>t.s=(s:Int)).map (sgL m.mv)).reverse++[sgB C m.fin s])
def keyS (m:Mch) (C:List Nat) (s:Nat):List Sg:=keyH m C m.li m.mv s
theorem keyH_li {m:Mch} {C:List Nat} {li:List To} {j:Nat} {t:To} (h:li[j]?=some t) (s:Nat):keyH m C (li.take (j+1)) [] s=if t.s=(s:Int) then sgL m.mv t::keyH m C (li.take j) [] s else keyH m C (li.take j) [] s:=by
 unfold keyH;rw[take_snoc h,List.filter_append];by_cases e:t.s=(s:Int)
 .rw[if_pos e,List.filter_cons_of_pos (by simpa using e)];simp
 .rw[if_neg e,List.filter_cons_of_neg (by simpa using e)];simp
theorem keyH_mv {m:Mch} {C:List Nat} {li:List To} {mv:List Mv} {j:Nat} {x:Mv} (h:mv[j]?=some x) (s:Nat):keyH m C li (mv.take (j+1)) s=if x.f=(s:Int) then sgM C x::keyH m C li (mv.take j) s else keyH m C li (mv.take j) s:=by
 unfold keyH;rw[take_snoc h,List.filter_append];by_cases e:x.f=(s:Int)
 .rw[if_pos e,List.filter_cons_of_pos (by simpa using e)];simp
 .rw[if_neg e,List.filter_cons_of_neg (by simpa using e)];simp
def clsK (m:Mch) (C:List Nat):List (List Sg):=(List.range m.n.toNat).map (keyS m C)
def clsN (m:Mch):Nat->List Nat->Nat->List Nat × Nat
 | 0,C,c=>(C,c)
 | f+1,C,c=>if (dedF (clsK m C)).length=c then (canonL (clsK m C),c) else clsN m f (canonL (clsK m C)) (dedF (clsK m C)).length
def cls (m:Mch):List Nat × Nat:=clsN m 202 (List.replicate m.n.toNat 0) 0
theorem clsK_len (m:Mch) (C:List Nat):(clsK m C).length=m.n.toNat:=by unfold clsK;rw[Yc,Yyd]
theorem clsK_ge {m:Mch} {C:List Nat} (hC:C.length=m.n.toNat):(dedF C).length<=(dedF (clsK m C)).length:=by
 have e:C=(clsK m C).map fun k=>match k.getLast? with | some s=>s.b.toNat | none=>0:=by
  apply Yyr;intro i;unfold clsK;rw[List.map_map,Yd];by_cases hi:i<m.n.toNat
  .rw[Yyb hi];obtain⟨c,hc⟩:=get_some (l:=C) (i:=i) (by omega);rw[hc];show _=some (match (keyS m C i).getLast? with | some s=>s.b.toNat | none=>0);have:(keyS m C i).getLast?=some (sgB C m.fin i):=by
    unfold keyS keyH;rw[<-Yz,List.getLast?_append];rfl
   rw[this];unfold sgB;simp[Yo,hc]
  .rw[Yl (by omega),Yl (by rw[Yyd];omega)];rfl
 have:=dedF_map_le (fun k:List Sg=>match k.getLast? with | some s=>s.b.toNat | none=>0) (clsK m C)
 rwa [<-e] at this
theorem dedF_nodup {K:Type} [DecidableEq K] (l:List K):(dedF l).Nodup:=by
 suffices h:∀(m a:List K),a.Nodup->(m.foldl (fun a k=>if k∈a then a else a++[k]) a).Nodup from h l [] List.nodup_nil
 intro m
 induction m with
 | nil=>intro a h;exact h
 | cons x r ih=>
  intro a h;rw[List.foldl_cons];refine ih _ ?_;split
  .exact h
  .rename_i hx;rw[List.nodup_append];exact⟨h,by simp,fun a ha b hb=>by rw[Ye] at hb;subst hb;exact fun e=>hx (e ▸ ha)⟩
def zipI {K:Type} (D:List K) (k:Nat):List (K × Int):=(D.zipIdx k).map fun q=>(q.1,(q.2:Int))
theorem zipI_fst {K:Type} (D:List K) (k:Nat):(zipI D k).map Prod.fst=D:=by
 unfold zipI;rw[List.map_map];exact List.zipIdx_map_fst k D
theorem zipI_snoc {K:Type} (D:List K) (a:K):zipI (D++[a]) 0=zipI D 0++[(a,(D.length:Int))]:=by
 unfold zipI;rw[List.zipIdx_append,Ym];simp
theorem zipI_len {K:Type} (D:List K) (k:Nat):(zipI D k).length=D.length:=by unfold zipI;rw[Yc,List.length_zipIdx]
theorem mget_zipI {K:Type} [DecidableEq K] (a:K):∀(D:List K) (k:Nat),mget (zipI D k) a=if a∈D then some ((idxF D a:Int)+k) else none
 | [],k=>rfl
 | x::r,k=>by
  have e:zipI (x::r) k=(x,(k:Int))::zipI r (k+1):=rfl;rw[e,mget,idxF];by_cases h:x=a
  .rw[if_pos h,if_pos (by simp[h]),if_pos h];simp
  .rw[if_neg h,mget_zipI a r (k+1),if_neg h];by_cases hm:a∈r
   .rw[if_pos hm,if_pos (Yn _ hm)];congr 1;omega
   .rw[if_neg hm,if_neg (fun hc=>by rcases Yr.1 hc with hc | hc;exact h hc.symm;exact hm hc)]
structure MOk (m:Mch):Prop where
 n:1<=m.n/\m.n<=200
 s:0<=m.s/\m.s<m.n
 fl:m.fin.length=m.n.toNat
 ml:m.mv.length<=400
 ll:m.li.length<=80000
 mv:∀x∈m.mv,0<=x.f/\x.f<m.n/\0<=x.t/\x.t<m.n/\(-9223372036854775808<=x.peer/\x.peer<=9223372036854775807)/\(-9223372036854775808<=x.label/\x.label<=9223372036854775807)
 li:∀t∈m.li,0<=t.s/\t.s<m.n/\0<=t.e/\t.e<m.mv.length/\(-9223372036854775808<=t.k/\t.k<=9223372036854775807)
def mvLt (a b:Mv):Prop:=a.f<b.f\/(a.f=b.f/\evLt a.ev b.ev)
theorem mvLt_irr (a:Mv):¬mvLt a a:=by
 rintro (h | ⟨_,h⟩)
 .omega
 .exact evLt_irr _ h
theorem mvLt_trans {a b c:Mv} (h1:mvLt a b) (h2:mvLt b c):mvLt a c:=by
 rcases h1 with h1 | ⟨h1,h1'⟩<;>rcases h2 with h2 | ⟨h2,h2'⟩
 .exact .inl (by omega)
 .exact .inl (by omega)
 .exact .inl (by omega)
 .exact .inr ⟨by omega,evLt_trans h1' h2'⟩
theorem mvSorted_same:∀ {l l':List Mv},l'.Perm l->l.Pairwise mvLt->l'.Pairwise (fun a b=>¬mvLt b a)->l'=l
 | [],l',hp,_,_=>List.perm_nil.1 hp
 | a::l,[],hp,_,_=>by have:=hp.length_eq;simp at this
 | a::l,b::l',hp,hs,hs'=>by
  rw[List.pairwise_cons] at hs hs';have hb:b=a:=by
   have hbm:b∈a::l:=hp.subset (Yx ..);have ham:a∈b::l':=hp.symm.subset (Yx ..);rcases Yr.1 hbm with h | h
   .exact h
   .rcases Yr.1 ham with h' | h'
    .exact h'.symm
    .exact absurd (hs.1 b h) (hs'.1 a h')
  subst hb;rw[mvSorted_same ((List.perm_cons b).1 hp) hs.2 hs'.2]
end Go.VC
end

section
namespace Go.VC
open Go.Proofs Go.LexS
def sideM (x:Mv):Int:=if x.send then 0 else 1
def cmpM (x y:Mv):Int:=orI3 (cmpI x.f y.f) (orI3 (cmpI (sideM x) (sideM y)) (orI3 (cmpI x.peer y.peer) (cmpI x.label y.label)))
theorem cmpM_neg {x y:Mv}:cmpM x y<0 ↔ mvLt x y:=by
 unfold cmpM mvLt evLt orI3 cmpI sideM Mv.ev;obtain⟨f,s,p,l,t,a⟩:=x;obtain⟨f',s',p',l',t',a'⟩:=y;cases s<;>cases s'<;>simp<;>(repeat' split)<;>omega
namespace M
theorem inrows (L:List Int):∀r∈L.map inC,r.length=1:=fun r hr=>by obtain⟨x,_,rfl⟩:=Yp.1 hr;rfl
end M
variable [Mono]
namespace M
theorem nan151 (x:Int) (h:Heap):Fn Pz 151 #[.int .i64 x] h fun v h'=>v=.bool false/\h'=h:=by
 apply vc151;unfold W151;exact⟨by rw[bne_self_eq_false],rfl⟩
theorem cmp110 (x y:Int) (h:Heap):Fn Pz 110 #[.int .i64 x,.int .i64 y] h fun v h'=>v=.int .i64 (cmpI x y)/\h'=h:=by
 apply vc110;unfold W110;refine (nan151 x h).mono ?_;rintro _ _ ⟨rfl,rfl⟩;refine⟨_,rfl,?_⟩;refine (nan151 y _).mono ?_;rintro _ _ ⟨rfl,rfl⟩;refine⟨_,rfl,?_⟩;refine sB_f rfl (sB_f rfl ?_);unfold cmpI;refine sBi (fun c=>?_) (fun c=>sBi (fun d=>?_) (fun d=>?_))
 .exact⟨by rw[if_pos c],rfl⟩
 .exact⟨by rw[if_neg c,if_pos d],rfl⟩
 .exact⟨by rw[if_neg c,if_neg d],rfl⟩
theorem or109 (l:List Int) (s:Sl) (h:Heap) (hr:Rw h 1 s (l.map inC)) (hm:l.length<=1048576) :
  Fn Pz 109 #[.slice s.a s.n s.c] h fun v h'=>v=.int .i64 (l.foldr orI3 0)/\h'=h:=by
 apply vc109;unfold W109;have hn:=hr.ln;refine up_loop (n:=s.n) (fun i h'=>h'=h/\l.foldr orI3 0=(l.drop i).foldr orI3 0) ⟨rfl,rfl⟩ ?_;rintro-i h5 hi ⟨rfl,hq⟩;refine sB_intro (fun l2=>?_) (fun l2=>?_)
 .replace l2:=lt_t l2;refine hr.nbI (by omega) (by omega) fun b o d g t=>?_;replace g:l[i]?=some d:=g;have hd:l.drop i=d::l.drop (i+1):=by
   obtain⟨hl,he⟩:=Ya.1 g;rw[List.drop_eq_getElem_cons hl,he]
  rw[hd,List.foldr_cons] at hq;refine⟨_,t.hd,?_⟩;refine sBn (fun c=>?_) (fun c=>?_)
  .refine⟨?_,rfl⟩;rw[hq];unfold orI3;rw[if_pos c]
  .refine Up.next l2 (by omega) ⟨rfl,?_⟩;rw[hq];unfold orI3;rw[if_neg (by omega)]
 .replace l2:=lt_f l2;rw[List.drop_eq_nil_of_le (by omega)] at hq;exact⟨by rw[hq];rfl,rfl⟩
theorem compare138 (x y:Ev) (h:Heap):Fn Pz 138 #[.agg ⟨x.cs⟩,.agg ⟨y.cs⟩] h fun v h'=>v=.int .i64 (cmpE x y)/\Ext h h':=by
 apply vc138 x.send x.peer x.label y.send y.peer y.label;unfold W138;have hs:=St.refl h;refine hs.newb fun h7 hs=>?_;refine hs.newb fun h8 hs=>?_;refine⟨_,hs.rd 1 rfl rfl,?_⟩;refine⟨_,hs.rd 0 rfl rfl,?_⟩;refine sB_intro (fun c=>?_) (fun c=>?_)
 .have hne:x.send≠y.send:=by simpa using c
  refine⟨_,hs.rd 1 rfl rfl,?_⟩;unfold cmpE;rw[if_pos hne];refine sB_intro (fun d=>?_) (fun d=>?_)
  .exact⟨by rw[if_pos d],hs.ext⟩
  .exact⟨by rw[if_neg (by rw[d];simp)],hs.ext⟩
 .have he:x.send=y.send:=by simpa using c
  refine⟨_,hs.rd 1 rfl rfl,_,hs.rd 0 rfl rfl,_,hs.rd 1 rfl rfl,_,hs.rd 0 rfl rfl,?_⟩;refine (cmp110 _ _ _).mono ?_;rintro _ _ ⟨rfl,rfl⟩;refine⟨_,rfl,fun _ _ _ _ hv=>hv,?_⟩;refine (cmp110 _ _ _).mono ?_;rintro _ _ ⟨rfl,rfl⟩;refine⟨_,rfl,fun _ _ _ _ hv=>hv,?_⟩;refine hs.newb fun h22 hs=>?_;have hs2:=hs.blkS 2 1 ([cmpI x.peer y.peer,cmpI x.label y.label].map inC) rfl (inrows _) rfl (by decide);refine (or109 [cmpI x.peer y.peer,cmpI x.label y.label] _ h22 (hs2.rows 0 rfl (by omega)) (show 2<=1048576 by decide)).mono ?_;rintro _ _ ⟨rfl,rfl⟩;refine⟨_,rfl,?_,hs.ext⟩;unfold cmpE;rw[if_neg (by simpa using he)];show Value.int .i64 (orI3 _ (orI3 _ 0))=_;congr 1;unfold orI3;split
  .rfl
  .split<;>omega
theorem side129 (x:Mv) (h:Heap):Fn Pz 129 #[.agg ⟨x.cs⟩] h fun v h'=>v=.int .i64 (sideM x)/\Ext h h':=by
 apply vc129 x.f x.send x.peer x.label x.t x.ag;unfold W129;have hs:=St.refl h;refine hs.newb fun h7 hs=>?_;refine⟨_,hs.rd 0 rfl rfl,?_⟩;unfold sideM;refine sB_intro (fun c=>?_) (fun c=>?_)
 .exact⟨by rw[if_pos c],hs.ext⟩
 .exact⟨by rw[if_neg (by rw[c];simp)],hs.ext⟩
theorem Sm_ext {al:List Addr} {h h':Heap} (E:Ext h h'):Sm al h h':=fun _ _ _ _ hv=>hc_ext E hv
theorem order73 (x y:Mv) (h:Heap):Fn Pz 73 #[.agg ⟨x.cs⟩,.agg ⟨y.cs⟩] h fun v h'=>v=.int .i64 (cmpM x y)/\Ext h h':=by
 apply vc73 x.f x.send x.peer x.label x.t x.ag y.f y.send y.peer y.label y.t y.ag;unfold W73;have hs:=St.refl h;refine hs.newb fun h13 hs=>?_;refine hs.newb fun h14 hs=>?_;refine⟨_,hs.rd 1 rfl rfl,_,hs.rd 0 rfl rfl,_,_,_,_,_,_,hs.at 1 rfl (o:=0) (n:=6) rfl,_,_,_,_,_,_,hs.at 0 rfl (o:=0) (n:=6) rfl,_,hs.rd 1 rfl rfl,_,hs.rd 0 rfl rfl,_,hs.rd 1 rfl rfl,_,hs.rd 0 rfl rfl,?_⟩;refine (cmp110 _ _ _).mono ?_;rintro _ _ ⟨rfl,rfl⟩;refine⟨_,rfl,fun _ _ _ _ hv=>hv,?_⟩;refine (side129 x _).mono ?_;rintro _ h38 ⟨rfl,E1⟩;refine⟨_,rfl,Sm_ext E1,?_⟩;have hs:=hs.step E1;refine (side129 y _).mono ?_;rintro _ h41 ⟨rfl,E2⟩;refine⟨_,rfl,Sm_ext E2,?_⟩;have hs:=hs.step E2;refine (cmp110 _ _ _).mono ?_;rintro _ _ ⟨rfl,rfl⟩;refine⟨_,rfl,fun _ _ _ _ hv=>hv,?_⟩;refine (cmp110 _ _ _).mono ?_;rintro _ _ ⟨rfl,rfl⟩;refine⟨_,rfl,fun _ _ _ _ hv=>hv,?_⟩;refine (cmp110 _ _ _).mono ?_;rintro _ _ ⟨rfl,rfl⟩;refine⟨_,rfl,fun _ _ _ _ hv=>hv,?_⟩;refine hs.newb fun h51 hs=>?_;have hs2:=hs.blkS 4 1 ([cmpI x.f y.f,cmpI (sideM x) (sideM y),cmpI x.peer y.peer,cmpI x.label y.label].map inC) rfl (inrows _) rfl (by decide);refine (or109 [cmpI x.f y.f,cmpI (sideM x) (sideM y),cmpI x.peer y.peer,cmpI x.label y.label] _ h51 (hs2.rows 0 rfl (by omega)) (show 4<=1048576 by decide)).mono ?_;rintro _ _ ⟨rfl,rfl⟩;refine⟨_,rfl,?_,hs.ext⟩;unfold cmpM;show Value.int .i64 (orI3 _ (orI3 _ (orI3 _ (orI3 _ 0))))=_;congr 3;unfold orI3;split
 .rfl
 .omega
end M
end Go.VC
end

section
namespace Go.VC
open Go.Proofs Go.LexS
structure Ms where
 p:Int
 l:Int
 deriving DecidableEq
def Ms.cs (x:Ms):List Value:=[.int .i64 x.p,.int .i64 x.l]
structure Ac where
 a:Int
 b:Int
 l:Int
 deriving DecidableEq
def Ac.cs (x:Ac):List Value:=[.int .i64 x.a,.int .i64 x.b,.int .i64 x.l]
def Ed.act (x:Ed):Ac:=⟨x.a,x.b,x.l⟩
def cmpMs (x y:Ms):Int:=orI3 (cmpI x.p y.p) (orI3 (cmpI x.l y.l) 0)
def cmpA (x y:Ac):Int:=orI3 (cmpI x.a y.a) (orI3 (cmpI x.b y.b) (orI3 (cmpI x.l y.l) 0))
def cmpEd (x y:Ed):Int:=cmpA x.act y.act
def msLt (x y:Ms):Prop:=x.p<y.p\/(x.p=y.p/\x.l<y.l)
instance (x y:Ms):Decidable (msLt x y):=by unfold msLt;infer_instance
def acLt (x y:Ac):Prop:=x.a<y.a\/(x.a=y.a/\(x.b<y.b\/(x.b=y.b/\x.l<y.l)))
instance (x y:Ac):Decidable (acLt x y):=by unfold acLt;infer_instance
theorem cmpMs_neg {x y:Ms}:cmpMs x y<0 ↔ msLt x y:=by
 unfold cmpMs msLt orI3 cmpI
 repeat' split
 all_goals omega
theorem cmpA_neg {x y:Ac}:cmpA x y<0 ↔ acLt x y:=by
 unfold cmpA acLt orI3 cmpI
 repeat' split
 all_goals omega
variable [Mono]
namespace M
theorem compareR204 (x y:Ev) (h:Heap):Fn Pz 204 #[.agg ⟨x.cs⟩,.agg ⟨y.cs⟩] h fun v h'=>v=.int .i64 (cmpE x y)/\Ext h h':=by
 apply vc204 x.send x.peer x.label y.send y.peer y.label;unfold W204;have hs:=St.refl h;refine hs.newb fun h7 hs=>?_;refine hs.newb fun h8 hs=>?_;refine⟨_,hs.rd 1 rfl rfl,?_⟩;refine⟨_,hs.rd 0 rfl rfl,?_⟩;refine sB_intro (fun c=>?_) (fun c=>?_)
 .have hne:x.send≠y.send:=by simpa using c
  refine⟨_,hs.rd 1 rfl rfl,?_⟩;unfold cmpE;rw[if_pos hne];refine sB_intro (fun d=>?_) (fun d=>?_)
  .exact⟨by rw[if_pos d],hs.ext⟩
  .exact⟨by rw[if_neg (by rw[d];simp)],hs.ext⟩
 .have he:x.send=y.send:=by simpa using c
  refine⟨_,hs.rd 1 rfl rfl,_,hs.rd 0 rfl rfl,_,hs.rd 1 rfl rfl,_,hs.rd 0 rfl rfl,?_⟩;refine (cmp110 _ _ _).mono ?_;rintro _ _ ⟨rfl,rfl⟩;refine⟨_,rfl,fun _ _ _ _ hv=>hv,?_⟩;refine (cmp110 _ _ _).mono ?_;rintro _ _ ⟨rfl,rfl⟩;refine⟨_,rfl,fun _ _ _ _ hv=>hv,?_⟩;refine hs.newb fun h22 hs=>?_;have hs2:=hs.blkS 2 1 ([cmpI x.peer y.peer,cmpI x.label y.label].map inC) rfl (inrows _) rfl (by decide);refine (or109 [cmpI x.peer y.peer,cmpI x.label y.label] _ h22 (hs2.rows 0 rfl (by omega)) (show 2<=1048576 by decide)).mono ?_;rintro _ _ ⟨rfl,rfl⟩;refine⟨_,rfl,?_,hs.ext⟩;unfold cmpE;rw[if_neg (by simpa using he)];show Value.int .i64 (orI3 _ (orI3 _ 0))=_;congr 1;unfold orI3;split
  .rfl
  .split<;>omega
theorem cmpM208 (x y:Ms) (h:Heap):Fn Pz 208 #[.agg ⟨x.cs⟩,.agg ⟨y.cs⟩] h fun v h'=>v=.int .i64 (cmpMs x y)/\Ext h h':=by
 apply vc208 x.p x.l y.p y.l;unfold W208;have hs:=St.refl h;refine hs.newb fun h7 hs=>?_;refine hs.newb fun h8 hs=>?_;refine⟨_,hs.rd 1 rfl rfl,_,hs.rd 0 rfl rfl,_,hs.rd 1 rfl rfl,_,hs.rd 0 rfl rfl,?_⟩;refine (cmp110 _ _ _).mono ?_;rintro _ _ ⟨rfl,rfl⟩;refine⟨_,rfl,fun _ _ _ _ hv=>hv,?_⟩;refine (cmp110 _ _ _).mono ?_;rintro _ _ ⟨rfl,rfl⟩;refine⟨_,rfl,fun _ _ _ _ hv=>hv,?_⟩;refine hs.newb fun h22 hs=>?_;have hs2:=hs.blkS 2 1 ([cmpI x.p y.p,cmpI x.l y.l].map inC) rfl (inrows _) rfl (by decide);refine (or109 [cmpI x.p y.p,cmpI x.l y.l] _ h22 (hs2.rows 0 rfl (by omega)) (show 2<=1048576 by decide)).mono ?_;rintro _ _ ⟨rfl,rfl⟩;exact⟨_,rfl,rfl,hs.ext⟩
theorem order245 (x y:Ac) (h:Heap):Fn Pz 245 #[.agg ⟨x.cs⟩,.agg ⟨y.cs⟩] h fun v h'=>v=.int .i64 (cmpA x y)/\Ext h h':=by
 apply vc245 x.a x.b x.l y.a y.b y.l;unfold W245;have hs:=St.refl h;refine hs.newb fun h7 hs=>?_;refine hs.newb fun h8 hs=>?_;refine⟨_,hs.rd 1 rfl rfl,_,hs.rd 0 rfl rfl,_,hs.rd 1 rfl rfl,_,hs.rd 0 rfl rfl,_,hs.rd 1 rfl rfl,_,hs.rd 0 rfl rfl,?_⟩;refine (cmp110 _ _ _).mono ?_;rintro _ _ ⟨rfl,rfl⟩;refine⟨_,rfl,fun _ _ _ _ hv=>hv,?_⟩;refine (cmp110 _ _ _).mono ?_;rintro _ _ ⟨rfl,rfl⟩;refine⟨_,rfl,fun _ _ _ _ hv=>hv,?_⟩;refine (cmp110 _ _ _).mono ?_;rintro _ _ ⟨rfl,rfl⟩;refine⟨_,rfl,fun _ _ _ _ hv=>hv,?_⟩;refine hs.newb fun h22 hs=>?_;have hs2:=hs.blkS 3 1 ([cmpI x.a y.a,cmpI x.b y.b,cmpI x.l y.l].map inC) rfl (inrows _) rfl (by decide);refine (or109 [cmpI x.a y.a,cmpI x.b y.b,cmpI x.l y.l] _ h22 (hs2.rows 0 rfl (by omega)) (show 3<=1048576 by decide)).mono ?_;rintro _ _ ⟨rfl,rfl⟩;exact⟨_,rfl,rfl,hs.ext⟩
theorem cmpE244 (x y:Ed) (h:Heap):Fn Pz 244 #[.agg ⟨x.cs⟩,.agg ⟨y.cs⟩] h fun v h'=>v=.int .i64 (cmpEd x y)/\Ext h h':=by
 apply vc244 x.f x.a x.b x.l x.t x.ag y.f y.a y.b y.l y.t y.ag;unfold W244;have hs:=St.refl h;refine hs.newb fun h7 hs=>?_;refine hs.newb fun h8 hs=>?_;refine⟨x.a,x.b,x.l,hs.at 1 rfl (o:=1) (n:=3) rfl,y.a,y.b,y.l,hs.at 0 rfl (o:=1) (n:=3) rfl,?_⟩;refine (order245 x.act y.act h8).mono ?_;rintro _ h23 ⟨rfl,E⟩;exact⟨_,rfl,rfl,(hs.step E).ext⟩
end M
end Go.VC
end

section
namespace Go.VC
def setOf (L:List Nat):PSet:=fun j=>decide (j∈L)
def Can (n:Nat) (L:List Nat):Prop:=L=(List.range n).filter fun j=>decide (j∈L)
theorem Can.mk (n:Nat) (p:Nat->Bool):Can n ((List.range n).filter p):=by
 unfold Can;apply List.filter_congr;intro x hx;by_cases hm:x∈(List.range n).filter p
 .rw[decide_eq_true hm];exact (List.mem_filter.1 hm).2
 .rw[decide_eq_false hm];cases hp:p x
  .rfl
  .exact absurd (List.mem_filter.2 ⟨hx,hp⟩) hm
theorem Can.lt {n:Nat} {L:List Nat} (h:Can n L):∀j∈L,j<n:=by
 intro j hj;rw[h,List.mem_filter,List.mem_range] at hj;exact hj.1
theorem setOf_inj {n:Nat} {L L':List Nat} (h:Can n L) (h':Can n L'):setOf L=setOf L' ↔ L=L':=by
 constructor
 .intro e;rw[h,h'];congr 1
 .intro e;rw[e]
theorem elems_setOf {n:Nat} {L:List Nat} (h:Can n L) (hn:n<=4096):elems (setOf L)=L:=by
 unfold elems;have e:List.range 4096=List.range n++(List.range (4096-n)).map (n + ·):=by rw[<-List.range_add];congr 1;omega
 rw[e,List.filter_append];have e2:((List.range (4096-n)).map (n + ·)).filter (setOf L)=[]:=by
  rw[List.filter_eq_nil_iff];intro x hx;obtain⟨y,_,rfl⟩:=Yp.1 hx;unfold setOf;simp only[decide_eq_true_eq];intro hm;have:=h.lt _ hm;omega
 rw[e2,Yw];exact h.symm
def evsC (es:List Ed) (role:Int) (L:List Nat):List Ev:=sortE (L.flatMap fun n=>(visL es role n).map (·.x))
def toC (es:List Ed) (role:Int) (L:List Nat) (x:Ev):List Int:=L.flatMap fun n=>(visL es role n).filterMap fun a=>if a.x=x then some a.to else none
theorem evs_setOf {n:Nat} {L:List Nat} (h:Can n L) (hn:n<=4096) (es:List Ed) (role:Int):evs es role (setOf L)=evsC es role L:=by unfold evs evL evsC;rw[elems_setOf h hn]
theorem toL_setOf {n:Nat} {L:List Nat} (h:Can n L) (hn:n<=4096) (es:List Ed) (role:Int) (x:Ev):toL es role (setOf L) x=toC es role L x:=by unfold toL toC;rw[elems_setOf h hn]
def addC (es:List Ed) (role:Int) (L:List Nat):List Nat:=es.foldl (fun L x=>if (vis1 role x).isNone&&decide (x.f.toNat∈L) && !decide (x.t.toNat∈L) then L++[x.t.toNat] else L) L
def bfsC (es:List Ed) (role:Int):Nat->List Nat->List Nat
 | 0,L=>L
 | f+1,L=>bfsC es role f (addC es role L)
def okC (es:List Ed) (role:Int) (l:List Int) (L:List Nat):Bool:=
 l.all (fun v=>decide (0<=v)&&decide (v.toNat∈L))&&es.all (fun x=>!(vis1 role x).isNone || !decide (x.f.toNat∈L)||decide (x.t.toNat∈L)) &&
  (List.range L.length).all fun i=>match L[i]? with
   | some j=>l.any (fun v=>decide (v=(j:Int)))||es.any fun x=>(vis1 role x).isNone&&decide (x.f.toNat∈L.take i)&&decide (x.t=(j:Int))
   | none=>false
theorem okC_clo {es:List Ed} {role:Int} {l:List Int} {L:List Nat} (hes:∀x∈es,0<=x.f/\0<=x.t) (h:okC es role l L=true) (j:Nat):clo es role l j=decide (j∈L):=by
 unfold okC at h;simp only[Yt,List.all_eq_true,List.mem_range] at h;obtain⟨⟨h1,h2⟩,h3⟩:=h;have fwd:∀a:Int,Qr es role l a->0<=a/\a.toNat∈L:=by
  intro a ha
  induction ha with
  | base hm=>have:=h1 _ hm;simpa using this
  | step _ hx ih=>
   obtain⟨x,hx,hv,hf,rfl⟩:=hx;refine⟨(hes x hx).2,?_⟩;have:=h2 x hx;simp only[Bool.or_eq_true,Bool.not_eq_true',decide_eq_false_iff_not,decide_eq_true_eq] at this;rcases this with (h4 | h4) | h4
   .rw[hv] at h4;cases h4
   .exact absurd (by rw[hf];exact ih.2) h4
   .exact h4
 have bwd:∀i,i<=L.length->∀j∈L.take i,Qr es role l (j:Int):=by
  intro i
  induction i with
  | zero=>intro _ j hj;rw[Yyk] at hj;cases hj
  | succ i ih=>
   intro hi j hj;obtain⟨y,hy⟩:=get_some (l:=L) (i:=i) (by omega);rw[take_snoc hy,Yk,Ye] at hj;rcases hj with hj | rfl
   .exact ih (by omega) j hj
   .have:=h3 i (by omega);rw[hy] at this;simp only[Bool.or_eq_true,List.any_eq_true,decide_eq_true_eq,Yt] at this;rcases this with ⟨v,hv,rfl⟩ | ⟨x,hx,⟨h4,h5⟩,h6⟩
    .exact .base hv
    .have hq:=ih (by omega) _ h5;rw[show ((x.f.toNat:Nat):Int)=x.f by have:=hes x hx;omega] at hq;exact .step hq ⟨x,hx,Option.isNone_iff_eq_none.1 h4,rfl,h6⟩
 have hiff:clo es role l j=true ↔ j∈L:=by
  rw[clo_iff];constructor
  .intro h;have:=(fwd _ h).2;rwa [Ys] at this
  .intro h;exact bwd L.length (Yyt _) j (by rw[Yye];exact h)
 by_cases hj:j∈L
 .rw[decide_eq_true hj];exact hiff.2 hj
 .rw[decide_eq_false hj];cases hc:clo es role l j
  .rfl
  .exact absurd (hiff.1 hc) hj
def cloC (es:List Ed) (role:Int) (n:Nat) (l:List Int):Option (List Nat):=
 let L:=bfsC es role n (l.map Int.toNat).eraseDups
 if okC es role l L then some ((List.range n).filter fun j=>decide (j∈L)) else none
theorem cloC_ok {es:List Ed} {role:Int} {n:Nat} {l:List Int} {L:List Nat} (hes:∀x∈es,0<=x.f/\0<=x.t) (hlt:∀j:Nat,clo es role l j=true->j<n) (h:cloC es role n l=some L):Can n L/\clo es role l=setOf L:=by
 unfold cloC at h;simp only at h;split at h
 .rename_i hk;cases h;refine⟨Can.mk _ _,?_⟩
  funext j
  rw[okC_clo hes hk];unfold setOf;by_cases hj:j∈bfsC es role n (l.map Int.toNat).eraseDups
  .rw[decide_eq_true hj,decide_eq_true];have:clo es role l j=true:=by rw[okC_clo hes hk,decide_eq_true hj]
   exact List.mem_filter.2 ⟨List.mem_range.2 (hlt j this),decide_eq_true hj⟩
  .rw[decide_eq_false hj,decide_eq_false];intro hm;exact hj (Yyn (List.mem_filter.1 hm).2)
 .cases h
def rowCS (S:List (List Nat)) (L:List Nat):List (List Nat):=if L∈S then S else S++[L]
theorem rowI_setOf {n:Nat} {L:List Nat} (hL:Can n L):∀ {S:List (List Nat)},(∀s∈S,Can n s)->rowI (S.map setOf) (setOf L)=idxF S L
 | [],_=>rfl
 | s::S,h=>by
  rw[Yyl,rowI,idxF];have hs:=setOf_inj (h s (Yx ..)) hL;by_cases e:s=L
  .rw[if_pos (hs.2 e),if_pos e]
  .rw[if_neg (fun h=>e (hs.1 h)),if_neg e,rowI_setOf hL fun s hs=>h s (Yn _ hs)]
theorem rowS_setOf {n:Nat} {L:List Nat} (hL:Can n L) {S:List (List Nat)} (hS:∀s∈S,Can n s):rowS (S.map setOf) (setOf L)=(rowCS S L).map setOf/\∀s∈rowCS S L,Can n s:=by
 have hiff:setOf L∈S.map setOf ↔ L∈S:=by
  rw[<-rowI_lt,rowI_setOf hL hS,Yc];constructor
  .intro h;by_cases hm:L∈S
   .exact hm
   .rw[idxF_not hm] at h;omega
  .intro h;exact idxF_lt h
 unfold rowS rowCS;by_cases hm:L∈S
 .rw[if_pos (hiff.2 hm),if_pos hm];exact⟨rfl,hS⟩
 .rw[if_neg (fun h=>hm (hiff.1 h)),if_neg hm,Ym];refine⟨rfl,fun s hs=>?_⟩;rcases Yk.1 hs with hs | hs
  .exact hS s hs
  .rw[Ye] at hs;rw[hs];exact hL
def arcsC (es:List Ed) (role:Int) (n:Nat) (i:Nat) (L:List Nat):List Ev->List (List Nat)->List Mv->Option (List (List Nat) × List Mv)
 | [],S,M=>some (S,M)
 | x::r,S,M=>match cloC es role n (toC es role L x) with
  | none=>none
  | some T=>arcsC es role n i L r (rowCS S T) (M++[⟨i,x.send,x.peer,x.label,(idxF S T:Nat),false⟩])
theorem arcsC_ok {es:List Ed} {role:Int} {n i:Nat} {L:List Nat} (hn:n<=4096) (hes:∀x∈es,0<=x.f/\0<=x.t) (hlt:∀(x:Ev) (j:Nat),clo es role (toC es role L x) j=true->j<n) (hL:Can n L):∀(l:List Ev) (S:List (List Nat)) (M:List Mv) {S':List (List Nat)} {M':List Mv},(∀s∈S,Can n s)->arcsC es role n i L l S M=some (S',M') ->
  arcsF es role i (setOf L) l (S.map setOf) M=(S'.map setOf,M')/\∀s∈S',Can n s
 | [],S,M,S',M',hS,h=>by cases h;exact⟨rfl,hS⟩
 | x::r,S,M,S',M',hS,h=>by
  rw[arcsC] at h;cases hc:cloC es role n (toC es role L x) with
  | none=>rw[hc] at h;cases h
  | some T=>
   rw[hc] at h;replace h:arcsC es role n i L r (rowCS S T) (M++[⟨i,x.send,x.peer,x.label,(idxF S T:Nat),false⟩])=some (S',M'):=h;obtain⟨h1,h2⟩:=cloC_ok hes (hlt x) hc;have h3:=rowS_setOf h1 hS;have:=arcsC_ok hn hes hlt hL r _ _ h3.2 h;rw[arcsF,toL_setOf hL hn,h2,rowI_setOf h1 hS,h3.1];exact this
def viewsCF (es:List Ed) (role:Int) (n:Nat):Nat->Nat->List (List Nat)->List Mv->Option (Option (List (List Nat) × List Mv))
 | 0,_,_,_=>some none
 | f+1,i,S,M=>match S[i]? with
  | none=>some (some (S,M))
  | some L=>match arcsC es role n i L (evsC es role L) S M with
   | none=>none
   | some (S',M')=>if S'.length>200 then some none else viewsCF es role n f (i+1) S' M'
theorem viewsCF_ok {es:List Ed} {role:Int} {n:Nat} (hn:n<=4096) (hes:∀x∈es,0<=x.f/\0<=x.t) (hlt:∀(L:List Nat) (x:Ev) (j:Nat),clo es role (toC es role L x) j=true->j<n):∀(f i:Nat) (S:List (List Nat)) (M:List Mv) {r:Option (List (List Nat) × List Mv)},(∀s∈S,Can n s)->viewsCF es role n f i S M=some r ->
  viewsF es role f i (S.map setOf) M=r.map (fun q=>(q.1.map setOf,q.2))/\∀q,r=some q->∀s∈q.1,Can n s
 | 0,i,S,M,r,_,h=>by cases h;exact⟨rfl,fun q hq=>by cases hq⟩
 | f+1,i,S,M,r,hS,h=>by
  rw[viewsCF] at h;rw[viewsF,Yd];cases hg:S[i]? with
  | none=>
   rw[hg] at h;cases h;exact⟨rfl,fun q hq=>by cases hq;exact hS⟩
  | some L=>
   rw[hg] at h;have hL:=hS L (Yb hg);cases ha:arcsC es role n i L (evsC es role L) S M with
   | none=>simp only[ha] at h;cases h
   | some q=>
    obtain⟨S',M'⟩:=q;simp only[ha] at h;have h1:=arcsC_ok hn hes (hlt L) hL _ S M hS ha;rw[<-evs_setOf hL hn] at h1;show (if (arcsF es role i (setOf L) (evs es role (setOf L)) (S.map setOf) M).1.length>200 then none else viewsF es role f (i+1) (arcsF es role i (setOf L) (evs es role (setOf L)) (S.map setOf) M).1 (arcsF es role i (setOf L) (evs es role (setOf L)) (S.map setOf) M).2)=_/\_;rw[h1.1];simp only[Yc];split
    .rename_i hc;rw[if_pos hc] at h;cases h;exact⟨rfl,fun q hq=>by cases hq⟩
    .rename_i hc;rw[if_neg hc] at h;exact viewsCF_ok hn hes hlt f (i+1) S' M' h1.2 h
theorem viewV_congr {F F':Nat->List Ev} {en en':Nat->Bool} {O:List Bool} {T:List Ti} {l:List Nat} (hF:∀k∈l,F k=F' k) (he:∀k∈l,en k=en' k):viewV F en O T l=viewV F' en' O T l:=by
 have hb:∀k∈l,badV F en l k=badV F' en' l k:=by
  intro k hk;unfold badV;have ha:(l.any fun q=>en q||decide (F k≠F q))=l.any fun q=>en' q||decide (F' k≠F' q):=by
   rw[Bool.eq_iff_iff,List.any_eq_true,List.any_eq_true];constructor
   .rintro⟨q,hq,h⟩;exact⟨q,hq,by rw[<-he q hq,<-hF q hq,<-hF k hk];exact h⟩
   .rintro⟨q,hq,h⟩;exact⟨q,hq,by rw[he q hq,hF q hq,hF k hk];exact h⟩
  rw[ha,hF k hk,he k hk]
 unfold viewV;congr 1
 suffices h:∀(m:List Nat) (st:Option (Bool × Ti)),(∀k∈m,k∈l)->m.foldl (stepV F en O T l) st=m.foldl (stepV F' en' O T l) st from h l _ fun k hk=>hk
 intro m
 induction m with
 | nil=>intro st _;rfl
 | cons a m ih=>
  intro st hs;rw[List.foldl_cons,List.foldl_cons];have:stepV F en O T l st a=stepV F' en' O T l st a:=by unfold stepV;rw[hb a (hs a (Yx ..))]
  rw[this];exact ih _ fun k hk=>hs k (Yn _ hk)
def rawLC (vw:List Nat->Option Ti):Nat->List (List Nat)->List Mv->List To->Option (List Mv × List To)
 | _,[],M,L=>some (M,L)
 | n,p::S,M,L=>match vw p with
  | none=>none
  | some x=>rawLC vw (n+1) S (M.map (updR n x)) (L++limR n x M)
theorem rawLC_ok {vw vw':List Nat->Option Ti} {N:Nat} (hN:N<=4096):∀(n:Nat) (S:List (List Nat)) (M:List Mv) (L:List To),(∀s∈S,Can N s/\vw s=vw' s)->rawL vw n (S.map setOf) M L=rawLC vw' n S M L
 | _,[],_,_,_=>rfl
 | n,p::S,M,L,h=>by
  obtain⟨h1,h2⟩:=h p (Yx ..);rw[Yyl,rawL,rawLC,elems_setOf h1 hN,h2];cases vw' p with
  | none=>rfl
  | some x=>exact rawLC_ok hN (n+1) S _ _ fun s hs=>h s (Yn _ hs)
end Go.VC
end

section
/- The kit's shelf at this program. -/
namespace Go.Proofs
open Go.Shelf
def Tryz.lays146_ren : Go.Shelf.Ren := ⟨fun | 146 => 255 | 221 => 282 | 268 => 298 | 138 => 299 | 143 => 300 | 195 => 306 | 197 => 307 | 218 => 308 | 219 => 309 | 260 => 311 | 217 => 312 | 225 => 313 | 224 => 314 | 267 => 315 | 266 => 316 | 314 => 317 | n => n, fun | 9 => 9 | 31 => 22 | 3 => 3 | 4 => 4 | 0 => 0 | 105 => 402 | 21 => 21 | 5 => 5 | 46 => 178 | 119 => 407 | 139 => 410 | 138 => 409 | 146 => 237 | 51 => 236 | n => n, fun | 1 => 1 | 3 => 2 | 4 => 3 | n => n⟩
theorem Tryz.lays146 : Go.Proofs.Lays.n146 Tryz.prog Tryz.lays146_ren := {
  mixed := by kernel_rfl
  f138 := Tryz.func299.trans (congrArg some (by kernel_rfl))
  f143 := Tryz.func300.trans (congrArg some (by kernel_rfl))
  f146 := Tryz.func255.trans (congrArg some (by kernel_rfl))
  f195 := Tryz.func306.trans (congrArg some (by kernel_rfl))
  f197 := Tryz.func307.trans (congrArg some (by kernel_rfl))
  f217 := Tryz.func312.trans (congrArg some (by kernel_rfl))
  f218 := Tryz.func308.trans (congrArg some (by kernel_rfl))
  f219 := Tryz.func309.trans (congrArg some (by kernel_rfl))
  f221 := Tryz.func282.trans (congrArg some (by kernel_rfl))
  f224 := Tryz.func314.trans (congrArg some (by kernel_rfl))
  f225 := Tryz.func313.trans (congrArg some (by kernel_rfl))
  f260 := Tryz.func311.trans (congrArg some (by kernel_rfl))
  f266 := Tryz.func316.trans (congrArg some (by kernel_rfl))
  f267 := Tryz.func315.trans (congrArg some (by kernel_rfl))
  f268 := Tryz.func298.trans (congrArg some (by kernel_rfl))
  f314 := Tryz.func317.trans (congrArg some (by kernel_rfl))
  t0 := Tryz.underlying0
  a0 := Tryz.isAgg0
  z0 := Tryz.sizeOf0
  v0 := Tryz.zeroValue0
  t3 := Tryz.underlying3
  a3 := Tryz.isAgg3
  z3 := Tryz.sizeOf3
  v3 := Tryz.zeroValue3
  t4 := Tryz.underlying4
  a4 := Tryz.isAgg4
  z4 := Tryz.sizeOf4
  v4 := Tryz.zeroValue4
  t5 := Tryz.underlying5
  a5 := Tryz.isAgg5
  z5 := Tryz.sizeOf5
  v5 := Tryz.zeroValue5
  t9 := Tryz.underlying9
  a9 := Tryz.isAgg9
  z9 := Tryz.sizeOf9
  v9 := Tryz.zeroValue9
  t21 := Tryz.underlying21
  a21 := Tryz.isAgg21
  z21 := Tryz.sizeOf21
  v21 := Tryz.zeroValue21
  t31 := Tryz.underlying22
  a31 := Tryz.isAgg22
  z31 := Tryz.sizeOf22
  v31 := Tryz.zeroValue22
  t46 := Tryz.underlying178
  a46 := Tryz.isAgg178
  z46 := Tryz.sizeOf178
  v46 := Tryz.zeroValue178
  t51 := Tryz.underlying236
  a51 := Tryz.isAgg236
  z51 := Tryz.sizeOf236
  v51 := Tryz.zeroValue236
  t105 := Tryz.underlying402
  a105 := Tryz.isAgg402
  z105 := Tryz.sizeOf402
  v105 := Tryz.zeroValue402
  t119 := Tryz.underlying407
  a119 := Tryz.isAgg407
  z119 := Tryz.sizeOf407
  t138 := Tryz.underlying409
  a138 := Tryz.isAgg409
  z138 := Tryz.sizeOf409
  v138 := Tryz.zeroValue409
  t139 := Tryz.underlying410
  a139 := Tryz.isAgg410
  z139 := Tryz.sizeOf410
  v139 := Tryz.zeroValue410
  t146 := Tryz.underlying237
  a146 := Tryz.isAgg237
  z146 := Tryz.sizeOf237
  v146 := Tryz.zeroValue237
  g1 := by kernel_rfl
  g3 := by kernel_rfl
  g4 := by kernel_rfl }
def Tryz.lays212_ren : Go.Shelf.Ren := ⟨fun | 212 => 106 | 263 => 148 | 264 => 149 | n => n, fun | 46 => 178 | 51 => 236 | 146 => 237 | 53 => 121 | 148 => 239 | n => n, fun | n => n⟩
theorem Tryz.lays212 : Go.Proofs.Lays.n212 Tryz.prog Tryz.lays212_ren := {
  mixed := by kernel_rfl
  f212 := Tryz.func106.trans (congrArg some (by kernel_rfl))
  f263 := Tryz.func148.trans (congrArg some (by kernel_rfl))
  f264 := Tryz.func149.trans (congrArg some (by kernel_rfl))
  t46 := Tryz.underlying178
  a46 := Tryz.isAgg178
  z46 := Tryz.sizeOf178
  v46 := Tryz.zeroValue178
  t51 := Tryz.underlying236
  a51 := Tryz.isAgg236
  z51 := Tryz.sizeOf236
  v51 := Tryz.zeroValue236
  t53 := Tryz.underlying121
  a53 := Tryz.isAgg121
  z53 := Tryz.sizeOf121
  v53 := Tryz.zeroValue121
  t146 := Tryz.underlying237
  a146 := Tryz.isAgg237
  z146 := Tryz.sizeOf237
  v146 := Tryz.zeroValue237
  t148 := Tryz.underlying239
  a148 := Tryz.isAgg239
  z148 := Tryz.sizeOf239
  v148 := Tryz.zeroValue239 }
def Tryz.lays7_29_ren : Go.Shelf.Ren := ⟨fun | 29 => 141 | n => n, fun | 22 => 121 | 3 => 3 | 4 => 4 | 25 => 178 | 54 => 304 | 0 => 0 | 5 => 5 | n => n, fun | 1 => 0 | n => n⟩
theorem Tryz.lays7_29 : Go.Proofs.Lays7.n29 Tryz.prog Tryz.lays7_29_ren := {
  mixed := by kernel_rfl
  f29 := Tryz.func141.trans (congrArg some (by kernel_rfl))
  t0 := Tryz.underlying0
  a0 := Tryz.isAgg0
  z0 := Tryz.sizeOf0
  v0 := Tryz.zeroValue0
  i0 := by kernel_rfl
  t3 := Tryz.underlying3
  a3 := Tryz.isAgg3
  z3 := Tryz.sizeOf3
  v3 := Tryz.zeroValue3
  i3 := by kernel_rfl
  t4 := Tryz.underlying4
  a4 := Tryz.isAgg4
  z4 := Tryz.sizeOf4
  v4 := Tryz.zeroValue4
  i4 := by kernel_rfl
  t5 := Tryz.underlying5
  a5 := Tryz.isAgg5
  z5 := Tryz.sizeOf5
  v5 := Tryz.zeroValue5
  i5 := by kernel_rfl
  t22 := Tryz.underlying121
  a22 := Tryz.isAgg121
  z22 := Tryz.sizeOf121
  v22 := Tryz.zeroValue121
  i22 := by kernel_rfl
  t25 := Tryz.underlying178
  a25 := Tryz.isAgg178
  z25 := Tryz.sizeOf178
  v25 := Tryz.zeroValue178
  i25 := by kernel_rfl
  t54 := Tryz.underlying304
  a54 := Tryz.isAgg304
  z54 := Tryz.sizeOf304
  g1 := by kernel_rfl }
def Tryz.sortL137_ren : Go.Shelf.Ren := ⟨fun | 6 => 137 | 15 => 128 | 14 => 193 | 28 => 187 | 29 => 188 | 20 => 231 | 21 => 232 | 22 => 233 | 23 => 234 | 24 => 235 | 25 => 236 | 26 => 237 | 27 => 238 | 46 => 259 | 47 => 217 | 48 => 218 | 49 => 260 | 50 => 261 | 57 => 283 | n => n, fun | 22 => 151 | 24 => 116 | 25 => 225 | 3 => 3 | 39 => 178 | 0 => 0 | 53 => 236 | 55 => 121 | 4 => 4 | 46 => 294 | 45 => 293 | 50 => 213 | 5 => 5 | 9 => 9 | 66 => 327 | 70 => 331 | 76 => 362 | 77 => 363 | n => n, fun | n => n⟩
theorem Tryz.sortL137 : Go.Proofs.SlLaysF0.n6 Tryz.prog Tryz.sortL137_ren := {
  mixed := by kernel_rfl
  f6 := ⟨Tryz.f137.name, by decide, Tryz.func137.trans (congrArg some (by kernel_rfl))⟩
  f14 := ⟨Tryz.f193.name, by decide, Tryz.func193.trans (congrArg some (by kernel_rfl))⟩
  f15 := Tryz.func128.trans (congrArg some (by kernel_rfl))
  f20 := ⟨Tryz.f231.name, by decide, Tryz.func231.trans (congrArg some (by kernel_rfl))⟩
  f21 := ⟨Tryz.f232.name, by decide, Tryz.func232.trans (congrArg some (by kernel_rfl))⟩
  f22 := ⟨Tryz.f233.name, by decide, Tryz.func233.trans (congrArg some (by kernel_rfl))⟩
  f23 := ⟨Tryz.f234.name, by decide, Tryz.func234.trans (congrArg some (by kernel_rfl))⟩
  f24 := ⟨Tryz.f235.name, by decide, Tryz.func235.trans (congrArg some (by kernel_rfl))⟩
  f25 := ⟨Tryz.f236.name, by decide, Tryz.func236.trans (congrArg some (by kernel_rfl))⟩
  f26 := ⟨Tryz.f237.name, by decide, Tryz.func237.trans (congrArg some (by kernel_rfl))⟩
  f27 := ⟨Tryz.f238.name, by decide, Tryz.func238.trans (congrArg some (by kernel_rfl))⟩
  f28 := Tryz.func187.trans (congrArg some (by kernel_rfl))
  f29 := Tryz.func188.trans (congrArg some (by kernel_rfl))
  f46 := ⟨Tryz.f259.name, by decide, Tryz.func259.trans (congrArg some (by kernel_rfl))⟩
  f47 := Tryz.func217.trans (congrArg some (by kernel_rfl))
  f48 := Tryz.func218.trans (congrArg some (by kernel_rfl))
  f49 := ⟨Tryz.f260.name, by decide, Tryz.func260.trans (congrArg some (by kernel_rfl))⟩
  f50 := ⟨Tryz.f261.name, by decide, Tryz.func261.trans (congrArg some (by kernel_rfl))⟩
  f57 := ⟨Tryz.f283.name, by decide, Tryz.func283.trans (congrArg some (by kernel_rfl))⟩
  t0 := Tryz.underlying0
  a0 := Tryz.isAgg0
  z0 := Tryz.sizeOf0
  v0 := Tryz.zeroValue0
  t3 := Tryz.underlying3
  a3 := Tryz.isAgg3
  z3 := Tryz.sizeOf3
  v3 := Tryz.zeroValue3
  t4 := Tryz.underlying4
  a4 := Tryz.isAgg4
  z4 := Tryz.sizeOf4
  v4 := Tryz.zeroValue4
  t5 := Tryz.underlying5
  a5 := Tryz.isAgg5
  z5 := Tryz.sizeOf5
  v5 := Tryz.zeroValue5
  t9 := Tryz.underlying9
  a9 := Tryz.isAgg9
  z9 := Tryz.sizeOf9
  v9 := Tryz.zeroValue9
  t22 := Tryz.underlying151
  a22 := Tryz.isAgg151
  z22 := Tryz.sizeOf151
  v22 := Tryz.zeroValue151
  t25 := Tryz.underlying225
  a25 := Tryz.isAgg225
  z25 := Tryz.sizeOf225
  v25 := Tryz.zeroValue225
  t39 := Tryz.underlying178
  a39 := Tryz.isAgg178
  z39 := Tryz.sizeOf178
  v39 := Tryz.zeroValue178
  t45 := Tryz.underlying293
  a45 := Tryz.isAgg293
  z45 := Tryz.sizeOf293
  v45 := Tryz.zeroValue293
  t46 := Tryz.underlying294
  a46 := Tryz.isAgg294
  z46 := Tryz.sizeOf294
  v46 := Tryz.zeroValue294
  t50 := Tryz.underlying213
  a50 := Tryz.isAgg213
  z50 := Tryz.sizeOf213
  v50 := Tryz.zeroValue213
  t53 := Tryz.underlying236
  a53 := Tryz.isAgg236
  z53 := Tryz.sizeOf236
  v53 := Tryz.zeroValue236
  t55 := Tryz.underlying121
  a55 := Tryz.isAgg121
  z55 := Tryz.sizeOf121
  v55 := Tryz.zeroValue121
  t66 := Tryz.underlying327
  a66 := Tryz.isAgg327
  z66 := Tryz.sizeOf327
  v66 := Tryz.zeroValue327
  t70 := Tryz.underlying331
  a70 := Tryz.isAgg331
  z70 := Tryz.sizeOf331
  v70 := Tryz.zeroValue331
  t76 := Tryz.underlying362
  a76 := Tryz.isAgg362
  z76 := Tryz.sizeOf362
  v76 := Tryz.zeroValue362
  t77 := Tryz.underlying363
  a77 := Tryz.isAgg363
  z77 := Tryz.sizeOf363
  v77 := Tryz.zeroValue363 }
def Tryz.sortL72_ren : Go.Shelf.Ren := ⟨fun | 6 => 72 | 15 => 128 | 14 => 127 | 28 => 187 | 29 => 188 | 20 => 179 | 21 => 180 | 22 => 181 | 23 => 182 | 24 => 183 | 25 => 184 | 26 => 185 | 27 => 186 | 46 => 216 | 47 => 217 | 48 => 218 | 49 => 219 | 50 => 220 | 57 => 252 | n => n, fun | 22 => 31 | 24 => 45 | 25 => 142 | 3 => 3 | 39 => 178 | 0 => 0 | 53 => 236 | 55 => 121 | 4 => 4 | 46 => 294 | 45 => 293 | 50 => 213 | 5 => 5 | 9 => 9 | 66 => 327 | 70 => 331 | 76 => 362 | 77 => 363 | n => n, fun | n => n⟩
theorem Tryz.sortL72 : Go.Proofs.SlLaysF0.n6 Tryz.prog Tryz.sortL72_ren := {
  mixed := by kernel_rfl
  f6 := ⟨Tryz.f72.name, by decide, Tryz.func72.trans (congrArg some (by kernel_rfl))⟩
  f14 := ⟨Tryz.f127.name, by decide, Tryz.func127.trans (congrArg some (by kernel_rfl))⟩
  f15 := Tryz.func128.trans (congrArg some (by kernel_rfl))
  f20 := ⟨Tryz.f179.name, by decide, Tryz.func179.trans (congrArg some (by kernel_rfl))⟩
  f21 := ⟨Tryz.f180.name, by decide, Tryz.func180.trans (congrArg some (by kernel_rfl))⟩
  f22 := ⟨Tryz.f181.name, by decide, Tryz.func181.trans (congrArg some (by kernel_rfl))⟩
  f23 := ⟨Tryz.f182.name, by decide, Tryz.func182.trans (congrArg some (by kernel_rfl))⟩
  f24 := ⟨Tryz.f183.name, by decide, Tryz.func183.trans (congrArg some (by kernel_rfl))⟩
  f25 := ⟨Tryz.f184.name, by decide, Tryz.func184.trans (congrArg some (by kernel_rfl))⟩
  f26 := ⟨Tryz.f185.name, by decide, Tryz.func185.trans (congrArg some (by kernel_rfl))⟩
  f27 := ⟨Tryz.f186.name, by decide, Tryz.func186.trans (congrArg some (by kernel_rfl))⟩
  f28 := Tryz.func187.trans (congrArg some (by kernel_rfl))
  f29 := Tryz.func188.trans (congrArg some (by kernel_rfl))
  f46 := ⟨Tryz.f216.name, by decide, Tryz.func216.trans (congrArg some (by kernel_rfl))⟩
  f47 := Tryz.func217.trans (congrArg some (by kernel_rfl))
  f48 := Tryz.func218.trans (congrArg some (by kernel_rfl))
  f49 := ⟨Tryz.f219.name, by decide, Tryz.func219.trans (congrArg some (by kernel_rfl))⟩
  f50 := ⟨Tryz.f220.name, by decide, Tryz.func220.trans (congrArg some (by kernel_rfl))⟩
  f57 := ⟨Tryz.f252.name, by decide, Tryz.func252.trans (congrArg some (by kernel_rfl))⟩
  t0 := Tryz.underlying0
  a0 := Tryz.isAgg0
  z0 := Tryz.sizeOf0
  v0 := Tryz.zeroValue0
  t3 := Tryz.underlying3
  a3 := Tryz.isAgg3
  z3 := Tryz.sizeOf3
  v3 := Tryz.zeroValue3
  t4 := Tryz.underlying4
  a4 := Tryz.isAgg4
  z4 := Tryz.sizeOf4
  v4 := Tryz.zeroValue4
  t5 := Tryz.underlying5
  a5 := Tryz.isAgg5
  z5 := Tryz.sizeOf5
  v5 := Tryz.zeroValue5
  t9 := Tryz.underlying9
  a9 := Tryz.isAgg9
  z9 := Tryz.sizeOf9
  v9 := Tryz.zeroValue9
  t22 := Tryz.underlying31
  a22 := Tryz.isAgg31
  z22 := Tryz.sizeOf31
  v22 := Tryz.zeroValue31
  t25 := Tryz.underlying142
  a25 := Tryz.isAgg142
  z25 := Tryz.sizeOf142
  v25 := Tryz.zeroValue142
  t39 := Tryz.underlying178
  a39 := Tryz.isAgg178
  z39 := Tryz.sizeOf178
  v39 := Tryz.zeroValue178
  t45 := Tryz.underlying293
  a45 := Tryz.isAgg293
  z45 := Tryz.sizeOf293
  v45 := Tryz.zeroValue293
  t46 := Tryz.underlying294
  a46 := Tryz.isAgg294
  z46 := Tryz.sizeOf294
  v46 := Tryz.zeroValue294
  t50 := Tryz.underlying213
  a50 := Tryz.isAgg213
  z50 := Tryz.sizeOf213
  v50 := Tryz.zeroValue213
  t53 := Tryz.underlying236
  a53 := Tryz.isAgg236
  z53 := Tryz.sizeOf236
  v53 := Tryz.zeroValue236
  t55 := Tryz.underlying121
  a55 := Tryz.isAgg121
  z55 := Tryz.sizeOf121
  v55 := Tryz.zeroValue121
  t66 := Tryz.underlying327
  a66 := Tryz.isAgg327
  z66 := Tryz.sizeOf327
  v66 := Tryz.zeroValue327
  t70 := Tryz.underlying331
  a70 := Tryz.isAgg331
  z70 := Tryz.sizeOf331
  v70 := Tryz.zeroValue331
  t76 := Tryz.underlying362
  a76 := Tryz.isAgg362
  z76 := Tryz.sizeOf362
  v76 := Tryz.zeroValue362
  t77 := Tryz.underlying363
  a77 := Tryz.isAgg363
  z77 := Tryz.sizeOf363
  v77 := Tryz.zeroValue363 }
end Go.Proofs
end

section
namespace Go.VC
open Go.Proofs Go.LexS Go.Shelf
structure Gx (h:Heap):Prop where
 m:∃m:Int,hc h ⟨1,0,none⟩=some (.int .i64 m)
 t:∀j,j<Lib.deBruijn64tab.length->hc h ⟨0,j,none⟩=some (.int .u8 (Lib.deBruijn64tab.getD j 0))
theorem Gx.ext {h h':Heap} (hx:Gx h) (E:Ext h h'):Gx h':=by
 obtain⟨m,hm⟩:=hx.m;exact⟨⟨m,hc_ext E hm⟩,fun j hj=>hc_ext E (hx.t j hj)⟩
theorem mul106 (x y:Nat) (hx:x<18446744073709551616) (hy:y<18446744073709551616) (h:Heap):Fn Pz 106 #[.int .u64 x,.int .u64 y] h fun v h'=>v=.tuple ⟨[.int .u64 ((x*y/18446744073709551616:Nat):Int),.int .u64 ((x*y%18446744073709551616:Nat):Int)]⟩/\h'=h:=
 Fn.of_same fun w=>Any.bits_Mul Tryz.lays212 x y hx hy w
def pieces (l:Nm):List Nm:=Go.Lib.split l [46]
theorem split255 (l:Nm) (h:Heap) (hx:Gx h) (hl:l.length<=50):Fn Pz 255 #[.string (bs l),.string (bs [46])] h fun v h'=>Ext h h'/\∃s:Sl,v=.slice s.a s.n s.c/\RL h' 1 s nmC (pieces l):=by
 intro w hw;subst hw;obtain⟨m,hm⟩:=hx.m;have hle:=Lib.countB_le (bs [46]) (by decide) (bs l).size (bs l) (Yyt _);have hlen:=Lib.splitB_all (bs [46]) (by decide) 0 _ (bs l) rfl;have hdat:=Lib.splitB_data (bs [46]) 0 (Lib.countB (bs l) (bs [46])) (bs l);have hp:pieces l=(Lib.splitB (bs [46]) 0 (Lib.countB (bs l) (bs [46])) (bs l)).map (·.data.toList):=hdat.symm;have hcells:(Lib.splitB (bs [46]) 0 (Lib.countB (bs l) (bs [46])) (bs l)).map Value.string=(pieces l).map fun x=>Value.string (bs x):=by
  rw[hp,List.map_map];rfl
 have hpl:(pieces l).length=Lib.countB (bs l) (bs [46])+1:=by rw[hp,Yc,hlen]
 rw[bs_size] at hle;refine (Any.strings_Split Tryz.lays146 (by kernel_rfl) (bs l) (bs [46]) m w (by rw[bs_size];omega) hm (by decide)).mono ?_;rintro e w' ⟨rfl,rfl⟩;rw[hcells];have ho:Own (w.alloc (.cells ((pieces l).map fun x=>Value.string (bs x)).toArray (Tryz.lays146_ren.t 9))).heap w.heap.size ((pieces l).map fun x=>Value.string (bs x)) (Tryz.lays146_ren.t 9):=Own.push;refine⟨_,rfl,⟨Ext.push _ _,⟨some ⟨w.heap.size,0,none⟩,Lib.countB (bs l) (bs [46])+1,Lib.countB (bs l) (bs [46])+1⟩,rfl,⟨⟨by rw[Yc,hpl],fun _=>⟨w.heap.size,0,rfl,fun i row hi=>?_⟩⟩,Yyt _,(fun e=>by cases e),by rw[hpl];omega⟩⟩,rfl,rfl,rfl,trivial⟩;rw[Yd] at hi;obtain⟨x,hx1,hx2⟩:=Yya.1 hi;subst hx2;refine ho.atC fun j v hj=>?_
 match j,hj with
 | 0,hj=>cases hj;rw[show 0+i*1+0=i by omega,Yd,hx1];rfl
theorem swoE:Go.Sort.SWO (ltOf cmpE) where
 irrefl x:=by unfold ltOf;rw[decide_eq_false_iff_not,cmpE_neg];exact evLt_irr x
 trans x y z h1 h2:=by unfold ltOf at *;rw[decide_eq_true_eq,cmpE_neg] at *;exact evLt_trans h1 h2
 ntrans x y z h1 h2:=by
  unfold ltOf at *;rw[decide_eq_false_iff_not,cmpE_neg] at *;obtain⟨a,b,c⟩:=x;obtain⟨a',b',c'⟩:=y;obtain⟨a'',b'',c''⟩:=z;unfold evLt at *;cases a<;>cases a'<;>cases a''<;>simp at *<;>omega
theorem swoM:Go.Sort.SWO (ltOf cmpM) where
 irrefl x:=by unfold ltOf;rw[decide_eq_false_iff_not,cmpM_neg];exact mvLt_irr x
 trans x y z h1 h2:=by unfold ltOf at *;rw[decide_eq_true_eq,cmpM_neg] at *;exact mvLt_trans h1 h2
 ntrans x y z h1 h2:=by
  unfold ltOf at *;rw[decide_eq_false_iff_not,cmpM_neg] at *;obtain⟨f,a,b,c,t,g⟩:=x;obtain⟨f',a',b',c',t',g'⟩:=y;obtain⟨f'',a'',b'',c'',t'',g''⟩:=z;unfold mvLt evLt Mv.ev at *;cases a<;>cases a'<;>cases a''<;>simp at *<;>omega
instance:Inhabited Ev:=⟨⟨false,0,0⟩⟩
instance:Inhabited Mv:=⟨⟨0,false,0,0,0,false⟩⟩
theorem sort137 {h0 h:Heap} {L:List It} (hs:St h0 h L) (k:Nat) {s:Sl} {l:List Ev} (hk:L[k]?=some (.sl s 116 3 (l.map Ev.cs))) (hm:l.length<=1048576) :
  Fn Pz 137 #[.slice s.a s.n s.c,.func (.func 138) #[] #[]] h fun v h'=>v=.tuple ⟨[]⟩/\∃l':List Ev,l'.Perm l/\l'.Pairwise (fun a b=>¬evLt b a)/\St h0 h' (L.set k (.sl s 116 3 (l'.map Ev.cs))):=by
 refine Fn.mono (sort_own Tryz.sortL137 3 116 Tryz.isAgg116 Tryz.sizeOf116 Ev.cs (fun _=>rfl) (fun x v hv=>by simp[Ev.cs] at hv;rcases hv with rfl | rfl | rfl<;>rfl) cmpE swoE 138 (enters_of Tryz.func138 (by kernel_rfl) rfl) (fun x y h=>@M.compare138 monoDrawn x y h) hs k hk (by omega) (by omega)) ?_;rintro v h' ⟨rfl,l',hp,hw,hs'⟩;exact⟨rfl,l',hp,hw.imp fun {a b} hab=>by unfold ltOf at hab;rw[decide_eq_false_iff_not,cmpE_neg] at hab;exact hab,hs'⟩
theorem sort72 {h0 h:Heap} {L:List It} (hs:St h0 h L) (k:Nat) {s:Sl} {l:List Mv} (hk:L[k]?=some (.sl s 45 6 (l.map Mv.cs))) (hm:l.length<=1048576) :
  Fn Pz 72 #[.slice s.a s.n s.c,.func (.func 73) #[] #[]] h fun v h'=>v=.tuple ⟨[]⟩/\∃l':List Mv,l'.Perm l/\l'.Pairwise (fun a b=>¬mvLt b a)/\St h0 h' (L.set k (.sl s 45 6 (l'.map Mv.cs))):=by
 refine Fn.mono (sort_own Tryz.sortL72 6 45 Tryz.isAgg45 Tryz.sizeOf45 Mv.cs (fun _=>rfl) (fun x v hv=>by simp[Mv.cs] at hv;rcases hv with rfl | rfl | rfl | rfl | rfl | rfl<;>rfl) cmpM swoM 73 (enters_of Tryz.func73 (by kernel_rfl) rfl) (fun x y h=>@M.order73 monoDrawn x y h) hs k hk (by omega) (by omega)) ?_;rintro v h' ⟨rfl,l',hp,hw,hs'⟩;exact⟨rfl,l',hp,hw.imp fun {a b} hab=>by unfold ltOf at hab;rw[decide_eq_false_iff_not,cmpM_neg] at hab;exact hab,hs'⟩
end Go.VC
end

section
namespace Go.VC
open Go.Proofs Go.LexS
theorem compactL_ne {l:List Ev} (h:l≠[]):compactL l≠[]:=by
 cases l with
 | nil=>exact absurd rfl h
 | cons a r=>
  intro e;have:=(compactL_mem (a::r) a).2 (by simp);rw[e] at this;cases this
theorem compactL_snoc:∀(l:List Ev) (x:Ev),compactL (l++[x])=if l.getLast?=some x then compactL l else compactL l++[x]
 | [],x=>by simp[compactL]
 | a::r,x=>by
  have ih:=compactL_snoc r x;cases r with
  | nil=>
   by_cases h:a=x
   .subst h;simp[compactL]
   .simp[compactL,h]
  | cons b r'=>
   have hne:=compactL_ne (l:=b::r') (by simp);have hl:(a::b::r').getLast?=(b::r').getLast?:=by simp[List.getLast?_cons_cons]
   rw[List.cons_append,compactL,ih,hl];by_cases h:(b::r').getLast?=some x
   .rw[if_pos h,if_pos h]
    conv=>rhs;rw[compactL]
   .rw[if_neg h,if_neg h]
    conv=>rhs;rw[compactL]
    cases hc:compactL (b::r') with
    | nil=>exact absurd hc hne
    | cons y t=>
     simp only[List.cons_append];split<;>rfl
theorem compactL_step {l:List Ev} {k:Nat} {x y:Ev} (hx:l[k]?=some x) (hk:1<=k) (hy:l[k-1]?=some y):compactL (l.take (k+1))=if x=y then compactL (l.take k) else compactL (l.take k)++[x]:=by
 rw[take_snoc hx,compactL_snoc];have hl:(l.take k).getLast?=some y:=by
  have hkl:=(Ya.1 hx).1;rw[List.getLast?_eq_getElem?,Yu,Nat.min_eq_left (by omega),Yyf,if_pos (by omega)];exact hy
 rw[hl];by_cases e:x=y
 .rw[if_pos e,if_pos (by rw[e])]
 .rw[if_neg e,if_neg (fun h=>e (by cases h;rfl))]
theorem evEq (x y:Ev):((x.send==y.send)&&((x.peer==y.peer)&&((x.label==y.label)&&true)))=decide (x=y):=by
 obtain⟨a,b,c⟩:=x;obtain⟨d,e,f⟩:=y;rw[Bool.eq_iff_iff];simp
theorem und151:Pz.underlying 151=some (.slice 116):=by kernel_rfl
theorem zero116 (w:World):(zeroValue 116).run Pz w=.ok (.agg #[.bool false,.int .i64 0,.int .i64 0]) w:=by
 have hi:(Pz.info? 116).bind (·.zero)=some (.agg #[.bool false,.int .i64 0,.int .i64 0]):=by kernel_rfl
 cases h:Pz.info? 116 with
 | none=>rw[h] at hi;cases hi
 | some i=>rw[h] at hi;simp only[Option.bind_some] at hi;simp[zeroValue,typeInfo,h,hi]
theorem compact139 {h0 h:Heap} {L:List It} (hs:St h0 h L) (k:Nat) {s:Sl} {l:List Ev} (hk:L[k]?=some (.sl s 116 3 (l.map Ev.cs))) (hm:l.length<=1048576) :
  Fn Pz 139 #[.slice s.a s.n s.c] h fun v h'=>∃r:Sl,v=.slice r.a r.n r.c/\St h0 h' (L.set k (.sl r 116 3 ((compactL l).map Ev.cs))):=by
 apply vc139 s;unfold W139;have hlen:=hs.len k hk (by omega);have hn:s.n=l.length:=by rw[hlen.1,Yc]
 have hkl:k<L.length:=(Ya.1 hk).1;have hset:L.set k (.sl s 116 3 (l.map Ev.cs))=L:=by
  obtain⟨a,b⟩:=Ya.1 hk;rw[<-b];exact List.set_getElem_self a
 have hself:compactL l=l->(∃r:Sl,Value.slice s.a s.n s.c=.slice r.a r.n r.c/\St h0 h (L.set k (.sl r 116 3 ((compactL l).map Ev.cs)))):=fun e=>⟨s,rfl,by rw[e,hset];exact hs⟩;refine sB_intro (fun c=>?_) (fun c=>?_)
 .have:l.length<2:=by have:=Yyn c;omega
  refine hself ?_
  match l,this with
  | [],_=>rfl
  | [a],_=>rfl
 .have h2:2<=l.length:=by have:=Yyo c;omega
  refine⟨fun x h' m=>∃i:Nat,x=i/\1<=i/\i<=l.length/\m=l.length-i/\h'=h/\compactL (l.take i)=l.take i,⟨_,1,rfl,by omega,by omega,rfl,rfl,?_⟩,?_⟩
  .match l,h2 with
   | a::r,_=>rfl
  rintro-x h5 m ⟨i,rfl,hi1,hin,rfl,rfl,hcc⟩;refine sB_intro (fun l2=>?_) (fun l2=>?_)
  .replace l2:=lt_t l2;have hrw:=hs.rows k hk (by omega);refine hrw.nbI (by omega) (by omega) fun b o x1 g t=>?_;replace g:l[i]?=some x1:=g;refine⟨_,_,_,t,?_⟩;have hw1:IntKind.wrap .i64 ((i:Int)-1)=((i-1:Nat):Int):=by rw[w64 (by omega) (by omega)];omega
   rw[hw1];refine hrw.nbI (x:=((i-1:Nat):Int)) (by omega) (by omega) fun b' o' y1 g' t'=>?_;replace g':l[i-1]?=some y1:=g';refine⟨_,_,_,t',?_⟩;rw[evEq];have hstep:=compactL_step g hi1 g';refine sB_intro (fun e=>?_) (fun e=>?_)
   .replace e:=Yyn e;rw[if_pos e,hcc] at hstep;have hcap:=hlen.2.1;refine⟨⟨by omega,by omega,by omega⟩,?_⟩;refine⟨fun kk x h' m=>∃(q j:Nat) (cl:List Ev),kk=q/\x=j/\1<=j/\i+j<=l.length/\q<=i+j-1/\m=l.length-j/\cl.length=l.length/\cl.take q=compactL (l.take (i+j))/\(∀a,i+j-1<=a->cl[a]?=l[a]?)/\St h0 h' (L.set k (.sl s 116 3 (cl.map Ev.cs))),
     ⟨_,i,1,l,rfl,rfl,by omega,by omega,by omega,rfl,rfl,hstep.symm,fun _ _=>rfl,by rw[hset];exact hs⟩,?_⟩
    rintro-kk x h21 m' ⟨q,j,cl,rfl,rfl,hj1,hjn,hq,rfl,hcl,hct,hun,hs⟩;have hkI:(L.set k (.sl s 116 3 (cl.map Ev.cs)))[k]?=some (.sl s 116 3 (cl.map Ev.cs)):=by rw[Yq hkl]
    have hfrom:=(hs.rows k hkI (by omega)).from (i:=i) (by omega) (by omega)
    rw[<-List.map_drop] at hfrom;have hti:Int.toNat ((s.n:Nat):Int)-Int.toNat ((i:Nat):Int)=s.n-i:=by simp
    have htI:Int.toNat ((i:Nat):Int)=i:=by simp
    refine sB_intro (fun c2=>?_) (fun c2=>?_)
    .have hjl:i+j<l.length:=by have:=Yyn c2;rw[hti] at this;omega
     rw[hti,htI];refine hfrom.nbI (x:=(j:Int)) (by omega) (by show (j:Int)<((s.n-i:Nat):Int);omega) fun b2 o2 x2 g2 t2=>?_;replace g2:(cl.drop i)[j]?=some x2:=g2;rw[List.getElem?_drop,hun _ (by omega)] at g2;refine⟨_,_,_,t2,?_⟩;have hw2:IntKind.wrap .i64 ((j:Int)-1)=((j-1:Nat):Int):=by rw[w64 (by omega) (by omega)];omega
     rw[hw2];refine hfrom.nbI (x:=((j-1:Nat):Int)) (by omega) (by show ((j-1:Nat):Int)<((s.n-i:Nat):Int);omega) fun b3 o3 y2 g3 t3=>?_;replace g3:(cl.drop i)[j-1]?=some y2:=g3;rw[List.getElem?_drop,show i+(j-1)=i+j-1 by omega,hun _ (by omega)] at g3;refine⟨_,_,_,t3,?_⟩;rw[evEq];have hst2:=compactL_step g2 (by omega) g3;have hwj:IntKind.wrap .i64 ((j:Int)+1)=((j+1:Nat):Int):=by rw[w64 (by omega) (by omega)];omega
     have hwq:IntKind.wrap .i64 ((q:Int)+1)=((q+1:Nat):Int):=by rw[w64 (by omega) (by omega)];omega
     refine sB_intro (fun e2=>?_) (fun e2=>?_)
     .have hne:x2≠y2:=by simpa using e2
      rw[if_neg hne] at hst2;refine hfrom.nbI (x:=(j:Int)) (by omega) (by show (j:Int)<((s.n-i:Nat):Int);omega) fun b4 o4 x3 g4 t4=>?_;replace g4:(cl.drop i)[j]?=some x3:=g4;rw[List.getElem?_drop,hun _ (by omega)] at g4;rw[g2] at g4;cases g4;refine⟨_,_,_,t4,?_⟩;refine hs.set k hkI (by omega) (x:=(q:Int)) (by omega) (by omega) x2 rfl rfl (fun b5 o5 h39 hs=>?_) rfl;rw[List.set_set] at hs;refine⟨l.length-(j+1),by omega,q+1,j+1,cl.set q x2,hwq,hwj,by omega,by omega,by omega,rfl,by rw[Yyh];exact hcl,?_,?_,hs⟩
      .rw[show i+(j+1)=i+j+1 by omega,hst2,<-hct,take_snoc (x:=x2) (by rw[Yq (by omega)]),List.take_set_of_le (Yyt _)]
      .intro a ha;rw[Yy (by omega)];exact hun a (by omega)
     .have heq:x2=y2:=by simpa using e2
      rw[if_pos heq] at hst2;refine⟨l.length-(j+1),by omega,q,j+1,cl,rfl,hwj,by omega,by omega,by omega,rfl,hcl,?_,fun a ha=>hun a (by omega),hs⟩;rw[show i+(j+1)=i+j+1 by omega,hst2];exact hct
    .have hjl:i+j=l.length:=by have:=Yyo c2;rw[hti] at this;omega
     refine⟨⟨by omega,by omega,by omega⟩,?_⟩;have htq:Int.toNat ((q:Nat):Int)=q:=by simp
     have htn:Int.toNat ((s.n:Nat):Int)=s.n:=by simp
     rw[htq,htn];refine hs.clear k hkI (by omega) q (by omega) und151 zero116 rfl rfl fun v h42 hs=>?_;refine⟨⟨by omega,by omega,by omega⟩,⟨s.a,q,s.c⟩,?_,?_⟩
     .rw[show Int.toNat 0=0 from rfl,subA_zero];rfl
     .rw[List.set_set,<-List.map_take,hct,hjl,Yye] at hs;exact hs
   .replace e:=Yyo e;rw[if_neg e,hcc] at hstep;refine⟨l.length-(i+1),by omega,i+1,by rw[w64 (by omega) (by omega)];omega,by omega,by omega,rfl,rfl,?_⟩;rw[hstep,take_snoc g]
  .replace l2:=lt_f l2;rw[Yj (by omega)] at hcc;exact hself hcc
end Go.VC
end

section
namespace Go.VC
def src_ (bk:Bool) (x:Ed):Int:=if bk then x.t else x.f
def dst_ (bk:Bool) (x:Ed):Int:=if bk then x.f else x.t
def Adj (es:List Ed) (bk:Bool) (a b:Int):Prop:=∃x∈es,src_ bk x=a/\dst_ bk x=b
inductive Rch (es:List Ed) (bk:Bool) (a:Int):Int->Prop where
 | refl:Rch es bk a a
 | step {b c:Int}:Rch es bk a b->Adj es bk b c->Rch es bk a c
def Vis (D:List Int) (v:Int):Prop:=0<=v/\∃d,D[v.toNat]?=some d/\0<=d
structure BF (es:List Ed) (bk:Bool) (n:Nat) (s:Int) (D T:List Int):Prop where
 len:D.length=n
 src:Vis D s
 r:∀v,Vis D v->Rch es bk s v
 t:∀t∈T,Vis D t
 c:∀v w,Vis D v->v∉T->Adj es bk v w->Vis D w
 b:∀d∈D,-1<=d/\d+D.count (-1)<=200
theorem vis_set {D:List Int} {b d v:Int} (hb0:0<=b) (hb:b<D.length) (hd:0<=d):Vis (D.set b.toNat d) v ↔ v=b\/Vis D v:=by
 unfold Vis;constructor
 .rintro⟨h0,e,he,h1⟩;by_cases hvb:v=b
  .exact .inl hvb
  .rw[Yy (by omega)] at he;exact .inr ⟨h0,e,he,h1⟩
 .rintro (rfl | ⟨h0,e,he,h1⟩)
  .exact⟨hb0,d,by rw[Yq (by omega)],hd⟩
  .by_cases hvb:v=b
   .subst hvb;exact⟨hb0,d,by rw[Yq (by omega)],hd⟩
   .exact⟨h0,e,by rw[Yy (by omega)];exact he,h1⟩
theorem BF.push {es:List Ed} {bk:Bool} {n:Nat} {s:Int} {D T:List Int} (h:BF es bk n s D T) {a b da db:Int} (ha:Vis D a) (hda:D[a.toNat]?=some da) (hb0:0<=b) (hb:D[b.toNat]?=some db) (hneg:db<0) (hab:Adj es bk a b) :
  BF es bk n s (D.set b.toNat (da+1)) (T++[b])/\(D.set b.toNat (da+1)).count (-1)+1=D.count (-1)/\0<=da/\da+1<=200:=by
 have hbl:=(Ya.1 hb).1;have hbe:=(Ya.1 hb).2;have hda0:0<=da:=by
  obtain⟨_,e,he,h1⟩:=ha;rw[hda] at he;cases he;exact h1
 have hdb:db=-1:=by have:=(h.b db (Yb hb)).1;omega
 subst hdb;have hvs:∀v,Vis (D.set b.toNat (da+1)) v ↔ v=b\/Vis D v:=fun v=>vis_set hb0 (by omega) (by omega);have hpos:0<D.count (-1):=List.count_pos_iff.2 (Yb hb);have hcnt:(D.set b.toNat (da+1)).count (-1)+1=D.count (-1):=by
  rw[List.count_set hbl,hbe];have:((da+1)==(-1:Int))=false:=by simp;omega
  rw[this];simp;omega
 have hub:=(h.b da (Yb hda)).2;refine⟨⟨by rw[Yyh];exact h.len,(hvs s).2 (.inr h.src),fun v hv=>?_,fun t ht=>?_,fun v w hv hn hvw=>?_,fun d hd=>?_⟩,hcnt,hda0,by omega⟩
 .rcases (hvs v).1 hv with rfl | hv
  .exact (h.r a ha).step hab
  .exact h.r v hv
 .rcases Yk.1 ht with ht | ht
  .exact (hvs t).2 (.inr (h.t t ht))
  .rw[Ye] at ht;exact (hvs t).2 (.inl ht)
 .rw[Yk,Ye,not_or] at hn;rcases (hvs v).1 hv with rfl | hv
  .exact absurd rfl hn.2
  .exact (hvs w).2 (.inr (h.c v w hv hn.1 hvw))
 .rcases List.mem_or_eq_of_mem_set hd with hd | rfl
  .have:=h.b d hd;omega
  .omega
theorem BF.start {es:List Ed} {bk:Bool} {n:Nat} {s:Int} (h0:0<=s) (h1:s<n) (hn:n<=200):BF es bk n s ((List.replicate n (-1:Int)).set s.toNat 0) [s]:=by
 have hl:s<(List.replicate n (-1:Int)).length:=by rw[Yg];exact h1
 have hv:∀v,Vis ((List.replicate n (-1:Int)).set s.toNat 0) v ↔ v=s:=fun v=>by
  rw[vis_set h0 hl (by omega)];refine⟨fun h=>h.elim id fun h=>?_,.inl⟩;obtain⟨_,d,hd,h2⟩:=h;have:=List.eq_of_mem_replicate (Yb hd);omega
 have hc:((List.replicate n (-1:Int)).set s.toNat 0).count (-1)<=200:=Yys List.count_le_length (by rw[Yyh,Yg];exact hn);refine⟨by rw[Yyh,Yg],(hv s).2 rfl,fun v h=>?_,fun t ht=>?_,fun v w h hn=>?_,fun d hd=>?_⟩
 .rw[(hv v).1 h];exact .refl
 .rw[Ye] at ht;exact (hv t).2 ht
 .rw[(hv v).1 h] at hn;exact absurd (Ye.2 rfl) hn
 .rcases List.mem_or_eq_of_mem_set hd with hd | rfl
  .rw[List.eq_of_mem_replicate hd];omega
  .omega
theorem BF.end_ {es:List Ed} {bk:Bool} {n:Nat} {s:Int} {D:List Int} (h:BF es bk n s D []) (v:Int):Vis D v ↔ Rch es bk s v:=by
 refine⟨h.r v,fun hr=>?_⟩
 induction hr with
 | refl=>exact h.src
 | step _ hbc ih=>exact h.c _ _ ih (by simp) hbc
theorem BF.all {es:List Ed} {bk:Bool} {n:Nat} {s:Int} {D:List Int} (h:BF es bk n s D []):(-1:Int)∈D ↔ ¬∀v:Int,0<=v->v<n->Rch es bk s v:=by
 constructor
 .intro hm hall;obtain⟨j,hj⟩:=Yf.1 hm;have hl:=(Ya.1 hj).1;obtain⟨_,d,hd,h0⟩:=(h.end_ (j:Int)).2 (hall j (by omega) (by have:=h.len;omega));rw[show ((j:Int)).toNat=j from rfl,hj] at hd;cases hd;omega
 .intro hn;apply Classical.byContradiction;intro hm;apply hn;intro v h0 hv;have hl:v.toNat<D.length:=by have:=h.len;omega
  refine (h.end_ v).1 ⟨h0,D[v.toNat],Yi hl,?_⟩;have h1:=(h.b _ (List.getElem_mem hl)).1;have h2:D[v.toNat] ≠ -1:=fun e=>hm (e ▸ List.getElem_mem hl);omega
end Go.VC
end

section
namespace Go.VC
open Go.Proofs Go.LexS
theorem und42:Pz.underlying 42=some (.slice 3):=by kernel_rfl
theorem size3:(Pz.info? 3).map (·.size)=some 1:=by kernel_rfl
theorem made3 (n:Nat):madeL Pz 3 n=List.replicate n (.int .i64 0):=by
 have hz:zeroC Pz 3=[.int .i64 0]:=by kernel_rfl
 unfold madeL;rw[hz]
 induction n with
 | zero=>rfl
 | succ n ih=>rw[List.replicate_succ,Yyu,ih];rfl
theorem rep_of {xs:List Value} {n:Nat} (hl:xs.length=n) (h:∀j,j<n->xs[j]?=some (.int .i64 (-1))):xs=((List.replicate n (-1:Int)).map inC).flatten:=by
 subst hl
 induction xs with
 | nil=>rfl
 | cons a r ih=>
  have h0:=h 0 (by simp);simp only[List.getElem?_cons_zero,Option.some.injEq] at h0;rw[Yyj,List.replicate_succ,Yyl,Yyu,<-ih fun j hj=>by have:=h (j+1) (by simpa using hj);simpa using this,h0];rfl
theorem wu64b {n:Int} (h0:0<=n) (h1:n<18446744073709551616):IntKind.wrap .u64 n=n:=by
 simp[IntKind.wrap,IntKind.signed,IntKind.bits];omega
theorem splice_rep {xs:List Value} {o m:Nat} (hm:o+m<=xs.length) (h:∀j,j<o->xs[j]?=some (.int .i64 (-1))):(splice xs o (List.replicate m (.int .i64 (-1)))).length=xs.length/\∀j,j<o+m->(splice xs o (List.replicate m (.int .i64 (-1))))[j]?=some (.int .i64 (-1)):=by
 unfold splice;refine⟨by simp only[Yh,Yu,List.length_drop,Yg];omega,fun j hj=>?_⟩;by_cases hjo:j<o
 .rw[Yz,Yyi (by rw[Yu];omega),Yyf,if_pos hjo];exact h j hjo
 .rw[Yyi (by simp only[Yh,Yu,Yg];omega),Yyc (by rw[Yu];omega),Yu,List.getElem?_replicate,if_pos (by omega)]
theorem ext_but {h h1 h2:Heap} {b:Nat} (E:Ext h h1) (B:But b h1 h2) (hb:h.size<=b):Ext h h2:=⟨by rw[B.1];exact E.1,fun k hk=>(B.2 k (by omega)).trans (E.2 k hk)⟩
theorem repeat60 (n:Int) (h0:0<=n) (h1:n<=200) (b:Nat) (h:Heap) (hb:hc h ⟨b,0,none⟩=some (.int .i64 (-1))) :
  Fn Pz 60 #[.slice (some ⟨b,0,none⟩) 1 1,.int .i64 n] h fun v h'=>Ext h h'/\∃s:Sl,v=.slice s.a s.n s.c/\OwnS h' h.size 3 1 s ((List.replicate n.toNat (-1)).map inC).flatten:=by
 obtain⟨N,rfl⟩:∃N:Nat,n=N:=⟨n.toNat,by omega⟩;have hN:N<=200:=by omega
 have hbl:b<h.size:=by
  rcases Nat.lt_or_ge b h.size with hlt | hge
  .exact hlt
  .unfold hc at hb;rw[Array.getElem?_eq_none (by simpa using hge)] at hb;cases hb
 apply vc60 ⟨some ⟨b,0,none⟩,1,1⟩;unfold W60;refine⟨fun h'=>h'=h,sB_f (decide_eq_false (by omega)) rfl,?_⟩;rintro-_ rfl;rw[show IntKind.wrap .u64 (((1:Nat):Int))=((1:Nat):Int) from wu64b (by omega) (by omega),show IntKind.wrap .u64 (N:Int)=((N:Nat):Int) from wu64b (by omega) (by omega)];refine (mul106 1 N (by omega) (by omega) _).mono ?_;rintro _ h6 ⟨rfl,rfl⟩;rw[show 1*N/18446744073709551616=0 by omega,show 1*N%18446744073709551616=N by omega];refine⟨_,_,rfl,fun h'=>h'=h6,sB_f rfl (sB_f (decide_eq_false (by omega)) rfl),?_⟩;rintro-h8 rfl;rw[show IntKind.wrap .i64 ((N:Nat):Int)=N from w64 (by omega) (by omega)];refine⟨⟨by omega,by omega,by omega⟩,?_⟩;rw[Ys,made3];intro h9 hh9;have o9:Own h9 h8.size (List.replicate N (.int .i64 0)) 3:=by rw[hh9];exact Own.push
 have E9:Ext h8 h9:=by rw[hh9];exact Ext.push _ _
 have hb9:hc h9 ⟨b,0,none⟩=some (.int .i64 (-1)):=by rw[E9.hc hbl];exact hb
 refine Cpy_row und42 size3 o9 (g2:=b) (o2:=0) (l:=List.replicate (min 1 N) (.int .i64 (-1))) (by simp) ?_ (by simp;omega) (fun v hv=>by rw[List.eq_of_mem_replicate hv];rfl) fun h11 B11 o11=>?_
 .intro j c hj;rw[List.getElem?_replicate] at hj;split at hj
  .cases hj;rw[show 0+j=0 by omega];exact hb9
  .cases hj
 obtain⟨e1,e2⟩:=splice_rep (xs:=List.replicate N (.int .i64 0)) (o:=0) (m:=min 1 N) (by simp;omega) (fun j hj=>by omega);generalize hxs:splice (List.replicate N (Value.int .i64 0)) 0 (List.replicate (min 1 N) (.int .i64 (-1)))=xs at o11 e1 e2;rw[Yg] at e1;have E11:=ext_but E9 B11 (Yyt _);clear hxs B11 o9;rw[Yg];refine⟨fun x h' m=>∃(i:Nat) (xs:List Value),x=i/\i<=N/\(1<=i\/N=0)/\m=N-i/\Own h' h8.size xs 3/\xs.length=N/\(∀j,j<i->xs[j]?=some (.int .i64 (-1)))/\Ext h8 h',
  ⟨_,min 1 N,xs,rfl,by omega,by omega,rfl,o11,e1,fun j hj=>e2 j (by omega),E11⟩,?_⟩
 rintro-x h16 m ⟨i,xs,rfl,hi,hi1,rfl,o16,hl,hall,E16⟩;refine sB_intro (fun c=>?_) (fun c=>?_)
 .replace c:=lt_t c;refine⟨⟨by omega,by omega,by omega⟩,⟨by omega,by omega,by omega⟩,?_⟩;rw[show Int.toNat ((i:Nat):Int)=i from Ys i,show Int.toNat ((N:Nat):Int)=N from Ys N,show Int.toNat 0=0 from rfl,subA_zero,subA_some c];refine Cpy_row und42 size3 o16 (g2:=h8.size) (o2:=0) (l:=List.replicate (min i (N-i)) (.int .i64 (-1))) (by simp) ?_ (by simp;omega) (fun v hv=>by rw[List.eq_of_mem_replicate hv];rfl) fun h18 B18 o18=>?_
  .intro j c hj;rw[List.getElem?_replicate] at hj;split at hj
   .cases hj;rw[o16.hc];exact hall _ (by omega)
   .cases hj
  obtain⟨e3,e4⟩:=splice_rep (xs:=xs) (o:=0+i*1) (m:=min i (N-i)) (by omega) (fun j hj=>hall j (by omega));rw[Yg];refine⟨N-(i+min i (N-i)),by omega,i+min i (N-i),_,by rw[w64 (by omega) (by omega)];omega,by omega,by omega,rfl,o18,by rw[e3];exact hl,fun j hj=>e4 j (by omega),ext_but E16 B18 (Yyt _)⟩
 .replace c:=lt_f c;have hiN:i=N:=by omega
  subst hiN;refine⟨E16,⟨some ⟨h8.size,0,none⟩,i,i⟩,rfl,?_,.inr ⟨h8.size,⟨xs⟩,rfl,Yyt _,o16,Yyt _,?_,?_,?_⟩⟩
  .rw[<-rep_of hl hall];show xs.length=i*1;omega
  .show i<=9223372036854775807;omega
  .show xs.length=i*1;omega
  .show xs.take (i*1)=_;rw[Yj (by omega)];exact rep_of hl hall
end Go.VC
end

section
namespace Go.VC
def bitsL (w:Nat):List Nat:=(List.range 64).filter fun j=>w.testBit j
theorem filter_first {f g:Nat->Bool} {k:Nat} (h1:∀j,j<k->f j=false/\g j=false) (h2:f k=true) (h3:g k=false) (h4:∀j,k<j->f j=g j):∀d:Nat,(List.range (k+1+d)).filter f=k::(List.range (k+1+d)).filter g
 | 0=>by
  have e1:(List.range k).filter f=[]:=List.filter_eq_nil_iff.2 fun j hj=>by rw[(h1 j (List.mem_range.1 hj)).1];simp
  have e2:(List.range k).filter g=[]:=List.filter_eq_nil_iff.2 fun j hj=>by rw[(h1 j (List.mem_range.1 hj)).2];simp
  rw[Nat.add_zero,List.range_succ,List.filter_append,List.filter_append,e1,e2];simp[h2,h3]
 | d+1=>by
  have ih:=filter_first h1 h2 h3 h4 d;rw[<-Nat.add_assoc,List.range_succ,List.filter_append,List.filter_append,ih,List.cons_append];congr 2;simp only[List.filter_cons,List.filter_nil,h4 (k+1+d) (by omega)]
theorem bits_step {w:Nat} (h0:w≠0) (h1:w<2^64):bitsL w=Lib.ctz 64 w::bitsL (w&&&(w-1)):=by
 obtain⟨m,hm,hk⟩:=Lib.ctzFrom_spec 64 w (by omega) h1;have hc:Lib.ctz 64 w=Lib.ctzFrom 64 w:=by unfold Lib.ctz;rw[if_neg h0]
 rw[hc];generalize Lib.ctzFrom 64 w=k at hm hk ⊢;have hp:0<2^k:=Nat.two_pow_pos k;have hw1:w-1=2^k*(2*m)+(2^k-1):=by rw[hm,Nat.mul_add];omega
 have tb:∀j,w.testBit j=if j<k then false else (2*m+1).testBit (j-k):=by
  intro j;have e:w=(2*m+1) <<< k:=by rw[Nat.shiftLeft_eq,Nat.mul_comm];exact hm
  rw[e,Nat.testBit_shiftLeft];by_cases hj:j<k
  .rw[if_pos hj];simp;omega
  .rw[if_neg hj];simp;omega
 have tb1:∀j,(w-1).testBit j=if j<k then true else (2*m).testBit (j-k):=by
  intro j;rw[hw1,Nat.testBit_two_pow_mul_add _ (by omega)];by_cases hj:j<k
  .rw[if_pos hj,if_pos hj,Nat.testBit_two_pow_sub_one];simpa using hj
  .rw[if_neg hj,if_neg hj]
 have odd:∀i,0<i->(2*m+1).testBit i=(2*m).testBit i:=by
  intro i hi;obtain⟨i,rfl⟩:∃i',i=i'+1:=⟨i-1,by omega⟩;rw[Nat.testBit_succ,Nat.testBit_succ];congr 1;omega
 have e:=filter_first (f:=fun j=>w.testBit j) (g:=fun j=>(w&&&(w-1)).testBit j) (k:=k) (fun j hj=>by
   have h2:=tb j;rw[if_pos hj] at h2;exact⟨h2,by rw[Nat.testBit_and,h2];rfl⟩)
  (by show w.testBit k=true;rw[tb,if_neg (by omega),Nat.sub_self];simp[Nat.testBit_zero])
  (by show (w&&&(w-1)).testBit k=false;rw[Nat.testBit_and,tb1,if_neg (by omega),Nat.sub_self];simp[Nat.testBit_zero])
  (fun j hj=>by
   show w.testBit j=(w&&&(w-1)).testBit j;rw[Nat.testBit_and,tb,tb1,if_neg (by omega),if_neg (by omega),odd _ (by omega),Bool.and_self]) (63-k)
 rw[show k+1+(63-k)=64 by omega] at e;exact e
theorem and_pred_lt {w:Nat} (h0:w≠0):w&&&(w-1)<w:=Nat.lt_of_le_of_lt Nat.and_le_right (by omega)
theorem range_flat (p:Nat->Bool):∀n:Nat,(List.range (64*n)).filter p=(List.range n).flatMap fun i=>((List.range 64).filter fun j=>p (64*i+j)).map (64*i + ·)
 | 0=>rfl
 | n+1=>by
  rw[show 64*(n+1)=64*n+64 by omega,List.range_add,List.filter_append,range_flat p n,List.range_succ (n:=n),List.flatMap_append,List.flatMap_singleton,List.filter_map];rfl
theorem flat_tail (f:Nat->List Nat) {n:Nat} (h:∀i,n<=i->f i=[]):∀d:Nat,(List.range (n+d)).flatMap f=(List.range n).flatMap f
 | 0=>rfl
 | d+1=>by rw[<-Nat.add_assoc,List.range_succ,List.flatMap_append,flat_tail f h d,List.flatMap_singleton,h _ (by omega),Yw]
def wordsL (ws:List Nat) (n:Nat):List Nat:=(List.range n).flatMap fun i=>(bitsL (ws.getD i 0)).map (64*i + ·)
theorem wordsL_succ (ws:List Nat) (n:Nat):wordsL ws (n+1)=wordsL ws n++(bitsL (ws.getD n 0)).map (64*n + ·):=by
 unfold wordsL;rw[List.range_succ,List.flatMap_append,List.flatMap_singleton]
theorem elems_words {p:Nat->Bool} {ws:List Nat} (hl:ws.length<=64) (hm:∀k,memB ws k=p k):elems p=wordsL ws ws.length:=by
 unfold elems;rw[show 4096=64*64 from rfl,range_flat];have e:∀i,(((List.range 64).filter fun j=>p (64*i+j)).map (64*i + ·))=(bitsL (ws.getD i 0)).map (64*i + ·):=by
  intro i;congr 1;unfold bitsL;apply List.filter_congr;intro j hj;have hj:=List.mem_range.1 hj;rw[<-hm];unfold memB;rw[show (64*i+j)/64=i by omega,show (64*i+j)%64=j by omega]
 simp only[e];have:=flat_tail (fun i=>(bitsL (ws.getD i 0)).map (64*i + ·)) (n:=ws.length) (fun i hi=>by
  rw[Yo,Yl (by omega),Option.getD_none];have:bitsL 0=[]:=by unfold bitsL;exact List.filter_eq_nil_iff.2 fun j _=>by simp
  rw[this];rfl) (64-ws.length)
 rw[show ws.length+(64-ws.length)=64 by omega] at this;exact this
end Go.VC
end

section
namespace Go.VC
open Go.Proofs Go.LexS Go.Shelf Go.RowKit
attribute [local go_sem] Oper.semAt_some
theorem tz141 (x:Nat) (hx:x<18446744073709551616) (w:World) (hT:TabAt 0 Lib.deBruijn64tab w):CallsIn Fence.wide 1 Pz 141 #[.int .u64 x] w fun e w'=>e=.returned (.int .i64 (Lib.ctz 64 x))/\w'=w:=
 callsIn_wide.2 (Any7.bits_TrailingZeros64 Tryz.lays7_29 x hx w fun _=>hT)
theorem and_nat {w:Nat} (h0:w≠0) (hw:w<2^64):bits BinOp.and IntKind.u64 (w:Int) ((w:Int)-1)=((w&&&(w-1):Nat):Int):=by
 have e1:((w:Int)-1)=((w-1:Nat):Int):=by omega
 rw[e1];show IntKind.u64.wrap ((BitVec.ofInt 64 (w:Int)&&&BitVec.ofInt 64 ((w-1:Nat):Int)).toNat:Int)=_;have ha:(BitVec.ofInt 64 (w:Int)&&&BitVec.ofInt 64 ((w-1:Nat):Int)).toNat=w&&&(w-1):=by
  rw[BitVec.toNat_and];congr 1
  .simp[BitVec.toNat_ofInt];omega
  .simp[BitVec.toNat_ofInt];omega
 rw[ha];have hlt:w&&&(w-1)<2^64:=Nat.lt_of_le_of_lt Nat.and_le_left hw;exact wu64 (by omega) (by omega)
theorem wordsL_pre (ws:List Nat) {k n:Nat} (h:k<=n):wordsL ws k <+: wordsL ws n:=by
 obtain⟨d,rfl⟩:∃d,n=k+d:=⟨n-k,by omega⟩;unfold wordsL;rw[List.range_add,List.flatMap_append];exact List.prefix_append _ _
set_option maxRecDepth 100000 in
theorem all90_some (b off len cap:Nat) (ws:List Nat) (hl:ws.length=len) (h64:len<=64) (hw:∀x∈ws,x<2^64) (n₀:Nat) (hb:b<n₀) (hg0:0<n₀) (l:Nat) (J:List Nat->World->Prop)
  (hY:∀pre x W1,J pre W1->pre++[x] <+: wordsL ws len->YieldAt Fence.wide 1 Pz l #[.int .i64 (x:Nat)] W1 fun e W'=>e=.returned (.bool true)/\J (pre++[x]) W'/\Below n₀ W1 W')
  (W:World) (hc:∀j,j<len->W.cell? ⟨b,off+j,none⟩=some (.int .u64 (ws.getD j 0:Nat))) (hT:TabAt 0 Lib.deBruijn64tab W) (h0:J [] W) :
  CallsIn Fence.wide 2 Pz 90 #[.slice (some ⟨b,off,none⟩) len cap,.func (.yield l) #[] #[]] W fun e W'=>(∃v,e=.returned v)/\J (wordsL ws len) W':=by
 refine callsIn_of_wp Tryz.func90 rfl trivial ?_ rfl;simp only[Tryz.ntmps90,List.size_toArray,Yyj,List.length_nil,Nat.reduceAdd,Nat.reduceSub,Array.replicate_succ,Array.replicate_zero,List.push_toArray,List.append_toArray,List.nil_append,List.cons_append]
 gi_wp2
 gi_loopw [9] (fun i wr=>∃k:Nat,k<=len/\i=.int .i64 k/\J (wordsL ws k) wr/\Below n₀ W wr)
  (fun i _=>len-(Proofs.intOf i).toNat)
 case atStart=>exact⟨0,Nat.zero_le _,rfl,h0,Below.refl _ _⟩
 case round=>
  obtain⟨k,hk,rfl,hJs,hnx⟩:=hrel;by_cases hlt:k<len
  .have hcx:wr.cell? ⟨b,off+k,none⟩=some (.int .u64 (ws.getD k 0:Nat)):=(hnx.cell (p:=⟨b,off+k,none⟩) hb).trans (hc k hlt);have hkl:k<ws.length:=by omega
   have hgd:ws.getD k 0=ws[k]:=by rw[Yo,Yi hkl,Option.getD_some]
   rw[hgd] at hcx;have hwk:ws[k]<2^64:=hw _ (List.getElem_mem hkl);have hsuc:wordsL ws (k+1)=wordsL ws k++(bitsL ws[k]).map (64*k + ·):=by rw[wordsL_succ,hgd]
   have hpre:wordsL ws (k+1) <+: wordsL ws len:=wordsL_pre ws (by omega);generalize ws[k]=wk at hcx hwk hsuc
   gi_wp2
   have hd:decide ((k:Int)<min (len:Int) 64)=true:=decide_eq_true (by omega);simp only[hd]
   gi_loopw [5] (fun c wr'=>∃(cur:Nat) (dn:List Nat),c=.int .u64 cur/\cur<2^64/\dn++bitsL cur=bitsL wk/\J (wordsL ws k++dn.map (64*k + ·)) wr'/\Below n₀ W wr') (fun c _=>(Proofs.intOf c).toNat)
   case atStart=>exact⟨wk,[],rfl,hwk,rfl,by simpa using hJs,hnx⟩
   case round=>
    obtain⟨cur,dn,rfl,hcw,hdn,hJc,hnc⟩:=hrel;by_cases hz:cur=0
    .subst hz;have hdn':dn=bitsL wk:=by rw[<-hdn];unfold bitsL;simp
     gi_wp2
     refine⟨⟨k+1,by omega,by simp,by rw[hsuc,<-hdn'];exact hJc,hnc⟩,?_⟩;simp[Proofs.intOf];omega
    .have hst:=bits_step hz hcw;have hTc:TabAt 0 Lib.deBruijn64tab wr:=fun j hj=>(hnc.cell (p:=⟨0,j,none⟩) hg0).trans (hT j hj);obtain⟨fn,tmps,assign,body,hy,hR⟩:=hY _ (64*k+Lib.ctz 64 cur) wr hJc (by
      refine List.IsPrefix.trans ?_ hpre;rw[hsuc,<-hdn,hst,Ym,Yyl];exact⟨(bitsL (cur&&&(cur-1))).map (64*k + ·),by simp⟩)
     gi_wp2_with (refine⟨trivial,?_⟩;gi_at_call 141;refine (tz141 cur (by omega) _ hTc).mono ?_;rintro e w' ⟨rfl,rfl⟩)
     have hc64:Lib.ctz 64 cur<64:=by
      unfold Lib.ctz;rw[if_neg hz];obtain⟨_,_,h⟩:=Lib.ctzFrom_spec 64 cur (by omega) hcw;exact h
     have hwr:wrap64 (64*(k:Int)+(Lib.ctz 64 cur:Nat))=((64*k+Lib.ctz 64 cur:Nat):Int):=by
      rw[IntWalk.wrap64_in _ (by omega)];omega
     rw[hwr,hy]
     gi_wp2
     refine hR.mono ?_;rintro e W3 ⟨rfl,hJ3,hk3⟩
     gi_wp2
     go_roundw
     case rel=>
      refine⟨cur&&&(cur-1),dn++[Lib.ctz 64 cur],by rw[and_nat hz hcw],Nat.lt_of_le_of_lt Nat.and_le_left hcw,?_,?_,hnc.trans hk3⟩
      .rw[Yz,List.singleton_append,<-hst];exact hdn
      .rw[Ym,<-Yz];exact hJ3
     case measure=>
      rw[and_nat hz hcw];simp only[Proofs.intOf,Ys];exact and_pred_lt hz
  .obtain rfl:k=len:=by omega
   gi_wp2
   go_end0
   exact⟨⟨_,rfl⟩,hJs⟩
set_option maxRecDepth 100000 in
theorem all90_zero (p:Option Addr) (cap l:Nat) (J:List Nat->World->Prop) (W:World) (h0:J [] W) :
  CallsIn Fence.wide 2 Pz 90 #[.slice p 0 cap,.func (.yield l) #[] #[]] W fun e W'=>(∃v,e=.returned v)/\J [] W':=by
 refine callsIn_of_wp Tryz.func90 rfl trivial ?_ rfl;simp only[Tryz.ntmps90,List.size_toArray,Yyj,List.length_nil,Nat.reduceAdd,Nat.reduceSub,Array.replicate_succ,Array.replicate_zero,List.push_toArray,List.append_toArray,List.nil_append,List.cons_append]
 gi_wp2
 gi_loopw [9] (fun i wr=>i=.int .i64 0/\J [] wr) (fun _ _=>0)
 case atStart=>exact⟨rfl,h0⟩
 case round=>
  obtain⟨rfl,hJs⟩:=hrel
  gi_wp2
  go_end0
  exact⟨⟨_,rfl⟩,hJs⟩
theorem all90_yields {s:Sl} {p:Nat->Bool} {w w0:World} (hs:SetV w.heap s p) (hx:Gx w.heap) (hB:Below w.heap.size w w0):Yields Fence.wide 2 Pz 90 #[.slice s.a s.n s.c] (fun x:Nat=>#[Value.int .i64 (x:Nat)]) w.heap.size (elems p) w0:=by
 intro l J W hW hY hJ;obtain⟨ws,hrw,h64,hw,hm⟩:=hs.ex;rw[elems_words h64 hm] at hY ⊢;have hn:s.n=ws.length:=hrw.ln;have hWB:=hB.trans hW;rcases Nat.eq_zero_or_pos ws.length with h0 | h0
 .have hws:ws=[]:=List.length_eq_zero_iff.1 h0;subst hws;rw[hn];exact all90_zero s.a s.c l J W hJ
 .obtain⟨b,o,ha,hat⟩:=hrw.2 (by rw[Yc];exact h0);have hcell:∀j,j<ws.length->w.cell? ⟨b,o+j,none⟩=some (.int .u64 (ws.getD j 0:Nat)):=by
   intro j hj;have h1:=hat j (wC (ws.getD j 0)) (by rw[Yd,Yi hj,Yo,Yi hj];rfl);have h2:=h1.hd;rw[Nat.mul_one] at h2;exact h2
  have hb:b<w.heap.size:=by
   have h1:=hcell 0 h0;exact World.block_lt_of_cell? _ _ h1
  have hg0:0<w.heap.size:=by omega
  rw[ha,hn];exact all90_some b o ws.length s.c ws rfl h64 hw w.heap.size hb hg0 l J hY W (fun j hj=>(hWB.cell (p:=⟨b,o+j,none⟩) hb).trans (hcell j hj))
   (fun j hj=>(hWB.cell (p:=⟨0,j,none⟩) hg0).trans (hx.t j hj)) hJ
theorem info3L:(Pz.info? 3).map (fun i=>(i.zero,i.size,i.bytes))=some (some (.int .i64 0),1,8):=by kernel_rfl
theorem elems_len (p:Nat->Bool):(elems p).length<=4096:=by
 unfold elems;exact Yys (List.length_filter_le _ _) (by rw[Yyd];exact Yyt _)
set_option maxRecDepth 100000 in
theorem list42_in (p:Nat->Bool) (s:Sl) (w:World) (hx:Gx w.heap) (hs:SetV w.heap s p) :
  CallsIn Fence.wide 3 Pz 42 #[.slice s.a s.n s.c] w fun e W'=>∃v,e=.returned v/\W'.ownsRow w.heap.size 3 1 v (elems p).length ((elems p).map fun n:Nat=>Value.int .i64 (n:Nat))/\Below w.heap.size w W':=by
 obtain⟨i0,hi,hz0,hz1,hz2⟩:=info_parts info3L;have hlen:=elems_len p;refine callsIn_of_wp_marks Tryz.func42 rfl trivial ?_ rfl;simp only[Tryz.ntmps42,List.size_toArray,Yyj,List.length_nil,Nat.reduceAdd,Nat.reduceSub,Array.replicate_succ,Array.replicate_zero,List.push_toArray,List.append_toArray,List.nil_append,List.cons_append]
 gi_wp2
 have bO:=Boxed.new w 42 (.slice none 0 0);have hB0:Below w.heap.size w (w.alloc (.cells #[.slice none 0 0] 42)):=(Below.refl _ w).alloc (Yyt _) _;refine range_bound (n:=3) rfl (by omega) (gf:=90) (fb:=#[.slice s.a s.n s.c]) rfl trivial (enters_of Tryz.func90 (by kernel_rfl) rfl) (n₀:=w.heap.size) (by simp)
  (all90_yields hs hx hB0) (fun _=>rfl)
  (fun pre W=>(∃v,Boxed W w.heap.size 42 v/\W.ownsRow w.heap.size 3 1 v pre.length (pre.map fun n:Nat=>Value.int .i64 (n:Nat))/\True)/\Below w.heap.size w W)
  (OwnFrom.and (Own.from (holdsRow_own w.heap.size w.heap.size 42 3 1 (fun pre:List Nat=>pre.length) (fun pre=>pre.map fun n:Nat=>Value.int .i64 (n:Nat)) (fun _ _=>True)) _) (ownFrom_below (Yyt _) (by simp)))
  ⟨⟨_,bO,World.ownsRow_nil _ _ _ _,trivial⟩,hB0⟩
  (fun x=>{ tmps:=#[.slice s.a s.n s.c,undef,.slice none 0 0,.pointer (some ⟨w.heap.size,0,none⟩),.int .i64 (x:Nat),.slice s.a s.n s.c,.func (.func 90) #[.slice s.a s.n s.c] #[],.int .i64 (x:Nat),undef,undef,undef,undef,undef],defers:=[] }) ?assign ?body ?done
 case assign=>
  intro l x W K hK
  gi_wp2
  exact hK
 case body=>
  rintro l pre x W ⟨⟨v,hv,hrow,-⟩,hB⟩ hpre;have hc:=hv.cell;have hpl:pre.length<(elems p).length:=by have:=hpre.length_le;simp at this;omega
  gi_wp2_with (gi_at_builtin;refine wpListIn_append_own _ rfl _ _ 42 rfl w.heap.size 3 i0 (.int .i64 0) 1 8 Tryz.underlying42 hi hz0 hz1 hz2 rfl (by decide) _ _ _ rfl (hrow.alloc _) ⟨W.heap.size,0,none⟩ 1 1 [.int .i64 (x:Nat)] rfl rfl (cell_one_new _ _ _) (by simp[Value.oneCell']) (by have:maxLen=9223372036854775807:=rfl;omega) (by omega) (by have:=hB.size;simp;omega) ?_;intro v' w1 hown' hgrow _;obtain⟨g',cap',rfl⟩:=ownsRow_succ hown';obtain⟨hv1,hv2,hr2,hk2,hb2⟩:=hv.appended (by decide) hrow hB.size (Yyt _) hown' hgrow;have hc1:=hv1.cell;have hf1:=hv1.frozen)
  exact⟨⟨_,hv2,by simpa using hr2⟩,hB.trans hb2⟩
 case done=>
  rintro W ⟨⟨v,hv,hrow,-⟩,hB⟩ hK;have hc:=hv.cell
  gi_wp2
  refine⟨by simp,.inl ⟨_,_,rfl,run_takeDeferred hK,?_⟩⟩;exact⟨_,results_tmp rfl _ _ _,v,rfl,ownsRow_putObj hrow _ hK rfl,hB.trans (belowK_b (w:=w) (Yyt _) W _ _ _ (by simp) hK rfl rfl)⟩
theorem list42 (p:Nat->Bool) (s:Sl) (h:Heap) (hx:Gx h) (hs:SetV h s p) :
  Fn Pz 42 #[.slice s.a s.n s.c] h fun v h'=>Ext h h'/\∃r:Sl,v=.slice r.a r.n r.c/\OwnS h' h.size 3 1 r (((elems p).map fun n:Nat=>(n:Int)).map inC).flatten:=by
 intro w hw;subst hw;refine (callsIn_wide.1 (list42_in p s w hx hs)).mono ?_;rintro e w' ⟨v,rfl,hrow,hB⟩;obtain⟨r,hr,hn,ho⟩:=OwnS.of_row hrow;have e1:(((elems p).map fun n:Nat=>(n:Int)).map inC).flatten=(elems p).map fun n:Nat=>Value.int .i64 (n:Nat):=by
  rw[List.map_map]
  induction elems p with
  | nil=>rfl
  | cons a l ih=>rw[Yyl,Yyu,ih];rfl
 exact⟨v,rfl,⟨⟨hB.size,fun k hk=>hB.block k hk⟩,r,hr,by rw[e1];exact ho⟩,hB.os,hB.tape,hB.output,trivial⟩
end Go.VC
end

section

end

section
namespace Go.VC
open Go.Proofs Go.LexS
def isPath (l:Nm):Bool:=decide (l.length<=50)&&(pieces l).all isWord
theorem fn256 (l:Nm) (h:Heap):Fn Pz 256 #[.string (bs l)] h fun v h'=>v=.bool (!isWord l)/\Ext h h':=by
 apply vc256;unfold W256;refine (isword132 (bs l) h).mono ?_;rintro _ h3 ⟨rfl,E⟩;exact⟨_,rfl,rfl,E⟩
theorem cal256:callable Pz 256=true:=by kernel_rfl
theorem idx281 (L:List Nm) (s:Sl) (h:Heap) (hr:RL h 1 s nmC L) :
  Fn Pz 281 #[.slice s.a s.n s.c,.func (.func 256) #[] #[]] h fun v h'=>(∃k:Int,v=.int .i64 k/\decide (k>=0)=L.any fun x=>!isWord x)/\Ext h h':=by
 apply vc281;unfold W281;have hn:=hr.ln;have hm:=hr.sm;have hs:=St.refl h;refine up_loopS (n:=s.n) hs (fun i=>∀(j:Nat) (y:Nm),j<i->L[j]?=some y->(!isWord y)=false) (fun j y hj=>by omega) ?_;rintro-i h5 hi ⟨hs,hd⟩;refine sB_intro (fun l=>?_) (fun l=>?_)
 .replace l:=lt_t l;refine (hr.ext hs.ext).rw.nbI (by omega) (by omega) fun b o d g t=>?_;replace g:L[i]?=some d:=g;refine⟨_,t.hd,?_⟩;rw[cal256,cond_true];refine (fn256 d h5).mono ?_;rintro _ h11 ⟨rfl,E⟩;replace hs:=hs.step E;refine⟨_,rfl,sB_intro (fun c=>?_) (fun c=>?_)⟩
  .exact⟨⟨_,rfl,by rw[any_t g (p:=fun x=>!isWord x) c];exact decide_eq_true (by omega)⟩,hs.ext⟩
  .exact Up.next l (by omega) ⟨hs,scan_next (p:=fun x=>!isWord x) g c hd⟩
 .replace l:=lt_f l;refine⟨⟨_,rfl,?_⟩,hs.ext⟩;rw[any_f (p:=fun x=>!isWord x) fun j x hj=>hd j x (by have:=(Ya.1 hj).1;omega) hj];rfl
theorem any254 (L:List Nm) (s:Sl) (h:Heap) (hr:RL h 1 s nmC L) :
  Fn Pz 254 #[.slice s.a s.n s.c,.func (.func 256) #[] #[]] h fun v h'=>v=.bool (L.any fun x=>!isWord x)/\Ext h h':=by
 apply vc254;unfold W254;refine (idx281 L s h hr).mono ?_;rintro _ h3 ⟨⟨k,rfl,hk⟩,E⟩;exact⟨_,rfl,by rw[hk],E⟩
theorem any_not (L:List Nm):(!(L.any fun x=>!isWord x))=L.all isWord:=by
 induction L with
 | nil=>rfl
 | cons a L ih=>rw[List.any_cons,List.all_cons,<-ih];cases isWord a<;>simp
theorem path224 (l:Nm) (h:Heap) (hx:Gx h):Fn Pz 224 #[.string (bs l)] h fun v h'=>v=.bool (isPath l)/\Ext h h':=by
 apply vc224;unfold W224;rw[bs_size];refine sBi (fun c=>?_) (fun c=>?_)
 .have hl:l.length<=50:=by omega
  refine (split255 l h hx hl).mono ?_;rintro _ h3 ⟨E3,s,rfl,hr⟩;refine⟨_,rfl,?_⟩;refine (any254 _ s h3 hr).mono ?_;rintro _ h6 ⟨rfl,E6⟩;refine⟨_,rfl,?_,E3.trans E6⟩;unfold isPath;rw[decide_eq_true hl,any_not];rfl
 .refine⟨?_,(St.refl h).ext⟩;unfold isPath;rw[decide_eq_false (by omega)];rfl
def allF (L:List Dc):List Fld:=L.flatMap (·.fs)
theorem app130:appB Pz 130 184 4 40=true:=by kernel_rfl
theorem allF_le:∀(L:List Dc),(∀d∈L,d.fs.length<=1048576)->(allF L).length<=L.length*1048576
 | [],_=>by simp[allF]
 | d::L,h=>by
  have h1:=allF_le L fun x hx=>h x (Yn _ hx);have h2:=h d (by simp);unfold allF at *;rw[List.flatMap_cons,Yh,Yyj,Nat.succ_mul];omega
theorem allF_snoc (L:List Dc) (d:Dc):allF (L++[d])=allF L++d.fs:=by unfold allF;rw[List.flatMap_append,List.flatMap_singleton]
theorem fldrows (L:List Fld):∀r∈L.map Fld.cs,r.length=4:=fun r hr=>by obtain⟨x,_,rfl⟩:=Yp.1 hr;rfl
theorem one_of {α:Type} {cs:α->List Value} (h:∀x,(cs x).all oneB=true) (L:List α):(L.map cs).flatten.all oneB=true:=by
 induction L with
 | nil=>rfl
 | cons a L ih=>rw[Yyl,Yyu,List.all_append,h a,ih];rfl
theorem fields223 (L:List Dc) (s:Sl) (h:Heap) (hL:DL h s L) (h40:L.length<=40) :
  Fn Pz 223 #[.slice s.a s.n s.c] h fun v h'=>Ext h h'/\∃r:Sl,v=.slice r.a r.n r.c/\OwnS h' h.size 184 4 r ((allF L).map Fld.cs).flatten:=by
 apply vc223;unfold W223;have hn:=hL.r.ln;have hs:=(St.refl h).nil_ 184 4;refine up_loopA (n:=s.n) hs (fun i rows=>rows=(allF (L.take i)).map Fld.cs) rfl ?_;rintro-i out h6 rows hi hs q;refine sB_intro (fun l=>?_) (fun l=>?_)
 .replace l:=lt_t l;refine (hL.ext hs.ext).r.rw.nbI (by omega) (by omega) fun b o d g t=>?_;replace g:L[i]?=some d:=g;refine⟨_,_,_,_,_,t,?_⟩;refine hs.newput (vs:=d.cs) rfl rfl fun h15 hs=>?_;refine⟨_,hs.rd 0 rfl rfl,?_⟩;have hd:=(hL.i d (Yb g)).pf.ext hs.ext;have hlen:=(hs.len 1 rfl (by omega)).1;have h1:=allF_le (L.take i) fun x hx=>(hL.i x (List.mem_of_mem_take hx)).pf.sm;have h2:=hd.sm;have h3:=hd.ln;have h4:(L.take i).length*1048576<=40*1048576:=Nat.mul_le_mul_right _ (by rw[Yu];omega);rw[q,Yc] at hlen;refine hs.appRw 1 rfl app130 hd.rw (fldrows _) hd.nil (one_of (fun _=>rfl) _) (by omega) (by simp only[maxLen];omega) fun r h18 hr hs=>?_;refine UpA.next l (by omega) ⟨_,hs.drop 1,?_⟩;rw[q,take_snoc g,allF_snoc,Ym]
 .replace l:=lt_f l;rw[Yj (by omega)] at q;have:=hs.give 0 rfl;rw[q] at this;exact⟨hs.ext,out,rfl,this⟩
theorem cal226:callable Pz 226=true:=by kernel_rfl
theorem cal229:callable Pz 229=true:=by kernel_rfl
theorem bsEq (a b:Nm):(ByteArray.toList (bs a)==ByteArray.toList (bs b))=decide (a=b):=strEq _ _
theorem fn226 (d:Dc) (n:Nm) (c:Addr) (h:Heap) (hc0:hc h c=some (.string (bs n))):Fn Pz 226 #[.agg ⟨d.cs⟩,.pointer (some c)] h fun v h'=>v=.bool (decide (d.nm=n))/\Ext h h':=by
 apply vc226 (bs d.nm) d.hf d.first d.hd d.he c;unfold W226
 have hs:=St.refl h;refine hs.newb fun h6 hs=>?_;refine⟨_,hs.rd 0 rfl rfl,_,hc_ext hs.ext hc0,?_⟩;rw[bsEq];exact⟨rfl,hs.ext⟩
theorem fn229 (d:Fld) (n:Nm) (c:Addr) (h:Heap) (hc0:hc h c=some (.string (bs n))):Fn Pz 229 #[.agg ⟨d.cs⟩,.pointer (some c)] h fun v h'=>v=.bool (decide (d.nm=n))/\Ext h h':=by
 apply vc229 (bs d.nm) d.k d.lo d.hi c;unfold W229;have hs:=St.refl h;refine hs.newb fun h6 hs=>?_;refine⟨_,hs.rd 0 rfl rfl,_,hc_ext hs.ext hc0,?_⟩;rw[bsEq];exact⟨rfl,hs.ext⟩
theorem has225 (L:List Dc) (n:Nm) (c:Addr) (s:Sl) (h:Heap) (hr:RL h 5 s Dc.cs L) (hc0:hc h c=some (.string (bs n))) :
  Fn Pz 225 #[.slice s.a s.n s.c,.func (.func 226) #[] #[.pointer (some c)]] h fun v h'=>v=.bool (L.any fun d=>decide (d.nm=n))/\Ext h h':=by
 apply vc225;unfold W225;have key:Fn Pz 257 #[.slice s.a s.n s.c,.func (.func 226) #[] #[.pointer (some c)]] h fun v h'=>(∃k:Int,v=.int .i64 k/\decide (k>=0)=L.any fun d=>decide (d.nm=n))/\Ext h h':=by
  apply vc257;unfold W257;have hn:=hr.ln;have hm:=hr.sm;have hs:=St.refl h;refine up_loopS (n:=s.n) hs (fun i=>∀(j:Nat) (y:Dc),j<i->L[j]?=some y->decide (y.nm=n)=false) (fun j y hj=>by omega) ?_;rintro-i h5 hi ⟨hs,hd⟩;refine sB_intro (fun l=>?_) (fun l=>?_)
  .replace l:=lt_t l;refine (hr.ext hs.ext).rw.nbI (by omega) (by omega) fun b o d g t=>?_;replace g:L[i]?=some d:=g;refine⟨_,_,_,_,_,t,?_⟩;rw[cal226,cond_true];refine (fn226 d n c h5 (hc_ext hs.ext hc0)).mono ?_;rintro _ h11 ⟨rfl,E⟩;replace hs:=hs.step E;refine⟨_,rfl,sB_intro (fun c=>?_) (fun c=>?_)⟩
   .exact⟨⟨_,rfl,by rw[any_t g (p:=fun d=>decide (d.nm=n)) c];exact decide_eq_true (by omega)⟩,hs.ext⟩
   .exact Up.next l (by omega) ⟨hs,scan_next (p:=fun d=>decide (d.nm=n)) g c hd⟩
  .replace l:=lt_f l;refine⟨⟨_,rfl,?_⟩,hs.ext⟩;rw[any_f (p:=fun d:Dc=>decide (d.nm=n)) fun j x hj=>hd j x (by have:=(Ya.1 hj).1;omega) hj];rfl
 refine key.mono ?_;rintro _ h3 ⟨⟨k,rfl,hk⟩,E⟩;exact⟨_,rfl,by rw[hk],E⟩
theorem has228 (L:List Fld) (n:Nm) (c:Addr) (s:Sl) (h:Heap) (hr:RL h 4 s Fld.cs L) (hc0:hc h c=some (.string (bs n))) :
  Fn Pz 228 #[.slice s.a s.n s.c,.func (.func 229) #[] #[.pointer (some c)]] h fun v h'=>v=.bool (L.any fun d=>decide (d.nm=n))/\Ext h h':=by
 apply vc228;unfold W228;have key:Fn Pz 258 #[.slice s.a s.n s.c,.func (.func 229) #[] #[.pointer (some c)]] h fun v h'=>(∃k:Int,v=.int .i64 k/\decide (k>=0)=L.any fun d=>decide (d.nm=n))/\Ext h h':=by
  apply vc258;unfold W258;have hn:=hr.ln;have hm:=hr.sm;have hs:=St.refl h;refine up_loopS (n:=s.n) hs (fun i=>∀(j:Nat) (y:Fld),j<i->L[j]?=some y->decide (y.nm=n)=false) (fun j y hj=>by omega) ?_;rintro-i h5 hi ⟨hs,hd⟩;refine sB_intro (fun l=>?_) (fun l=>?_)
  .replace l:=lt_t l;refine (hr.ext hs.ext).rw.nbI (by omega) (by omega) fun b o d g t=>?_;replace g:L[i]?=some d:=g;refine⟨_,_,_,_,t,?_⟩;rw[cal229,cond_true];refine (fn229 d n c h5 (hc_ext hs.ext hc0)).mono ?_;rintro _ h11 ⟨rfl,E⟩;replace hs:=hs.step E;refine⟨_,rfl,sB_intro (fun c=>?_) (fun c=>?_)⟩
   .exact⟨⟨_,rfl,by rw[any_t g (p:=fun d=>decide (d.nm=n)) c];exact decide_eq_true (by omega)⟩,hs.ext⟩
   .exact Up.next l (by omega) ⟨hs,scan_next (p:=fun d=>decide (d.nm=n)) g c hd⟩
  .replace l:=lt_f l;refine⟨⟨_,rfl,?_⟩,hs.ext⟩;rw[any_f (p:=fun d:Fld=>decide (d.nm=n)) fun j x hj=>hd j x (by have:=(Ya.1 hj).1;omega) hj];rfl
 refine key.mono ?_;rintro _ h3 ⟨⟨k,rfl,hk⟩,E⟩;exact⟨_,rfl,by rw[hk],E⟩
def SortS (k lo hi:Int):Prop:=k=1 /\ -1000<=lo/\lo<=hi/\hi<=1000\/k=2/\0<=lo/\lo<=hi/\hi<=40
instance (k lo hi:Int):Decidable (SortS k lo hi):=by unfold SortS;infer_instance
theorem sorted227 (k lo hi:Int) (h:Heap):Fn Pz 227 #[.agg ⟨[.int .i64 k,.int .i64 lo,.int .i64 hi]⟩] h fun v h'=>v=.bool (decide (SortS k lo hi))/\Ext h h':=by
 apply vc227 k lo hi;unfold W227;have hs:=St.refl h;refine hs.newb fun h4 hs=>?_;have E:=hs.ext;have r0:=hs.rd 0 rfl (i:=0) rfl;have r1:=hs.rd 0 rfl (i:=1) rfl;have r2:=hs.rd 0 rfl (i:=2) rfl;clear hs
 repeat' first
  | refine Exists.intro k (And.intro r0 ?_)
  | refine Exists.intro lo (And.intro r1 ?_)
  | refine Exists.intro hi (And.intro r2 ?_)
  | refine sBi (fun _=>?_) (fun _=>?_)
  | refine sBe (fun _=>?_) (fun _=>?_)
 all_goals
  refine⟨?_,E⟩;clear r0 r1 r2 E;congr 1;rw[Bool.eq_iff_iff];simp only[decide_eq_true_eq,Bool.false_eq_true,false_iff];unfold SortS;omega
def TextS (all:List Fld) (x:Int):Prop:=0<=x/\∃f,all[x.toNat]?=some f/\f.k=2
structure GuardS (all:List Fld) (ds:List Df) (es:List Eqs):Prop where
 nd:ds.length<=20
 ne:es.length<=20
 d:∀x∈ds,-1<=min x.x x.y/\max x.x x.y<all.length /\ -20000<=x.c/\x.c<=20000
 e:∀x∈es,TextS all x.x/\TextS all x.y
noncomputable instance (all:List Fld) (ds:List Df) (es:List Eqs):Decidable (GuardS all ds es):=Classical.propDecidable _
theorem two_at {x y:Int} {i:Nat} (hi:i<2):List.take 1 (List.drop (Int.toNat (i:Int)*1) ([.int .i64 x,.int .i64 y]:List Value))=[.int .i64 (if i=0 then x else y)]:=by
 rcases i with _ | _ | i
 .rfl
 .rfl
 .omega
theorem guarded230 (all:List Fld) (ds:List Df) (es:List Eqs) (sd se sa:Sl) (h:Heap) (hd:RL h 3 sd Df.cs ds) (he:RL h 2 se Eqs.cs es) (ha:Rw h 4 sa (all.map Fld.cs)) :
  Fn Pz 230 #[.agg ⟨[.slice sd.a sd.n sd.c,.slice se.a se.n se.c]⟩,.slice sa.a sa.n sa.c] h fun v h'=>v=.bool (decide (GuardS all ds es))/\Ext h h':=by
 apply vc230 sd se sa;unfold W230;have hs:=St.refl h;have hnd:=hd.ln;have hne:=he.ln;have hna:=ha.ln;refine hs.newb fun h3 hs=>?_;refine⟨_,hs.rd 0 rfl rfl,?_⟩;refine sBi (fun c1=>?_) (fun c1=>?_)
 .exact⟨dF fun hG=>by have:=hG.nd;omega,hs.ext⟩
 .refine⟨_,hs.rd 0 rfl rfl,?_⟩;refine sBi (fun c2=>?_) (fun c2=>?_)
  .exact⟨dF fun hG=>by have:=hG.ne;omega,hs.ext⟩
  .refine⟨_,hs.rd 0 rfl rfl,?_⟩;refine up_loopS (n:=sd.n) hs (fun i=>∀(j:Nat) (x:Df),j<i->ds[j]?=some x -> -1<=min x.x x.y/\max x.x x.y<all.length /\ -20000<=x.c/\x.c<=20000) (fun j x hj=>by omega) ?_;rintro-i7 h11 k7 ⟨hs,q7⟩;refine sB_intro (fun l7=>?_) (fun l7=>?_)
   .have l7:=lt_t l7;refine (hd.ext hs.ext).rw.nbI (by omega) (by omega) fun b12 o13 d12 g12 t12=>?_;replace g12:_[i7]?=some d12:=g12;have hm:=Yb g12;refine⟨_,_,_,t12,?_⟩;refine hs.newput (vs:=d12.cs) rfl rfl fun h18 hs=>?_;refine⟨_,hs.rd 0 rfl rfl,?_⟩;refine⟨_,hs.rd 0 rfl rfl,?_⟩;rw[imin_min];refine sBi (fun c3=>?_) (fun c3=>?_)
    .exact⟨dF fun hG=>by have:=hG.d _ hm;omega,hs.ext⟩
    .refine⟨_,hs.rd 0 rfl rfl,?_⟩;refine⟨_,hs.rd 0 rfl rfl,?_⟩;rw[imax_max];refine sBi (fun c4=>?_) (fun c4=>?_)
     .exact⟨dF fun hG=>by have:=hG.d _ hm;omega,hs.ext⟩
     .refine⟨_,hs.rd 0 rfl rfl,?_⟩;refine sBi (fun c5=>?_) (fun c5=>?_)
      .exact⟨dF fun hG=>by have:=hG.d _ hm;omega,hs.ext⟩
      .refine⟨_,hs.rd 0 rfl rfl,?_⟩;refine sBi (fun c6=>?_) (fun c6=>?_)
       .exact⟨dF fun hG=>by have:=hG.d _ hm;omega,hs.ext⟩
       .refine Up.next l7 (by omega) ⟨hs.drop 1,fun j x hj hx=>?_⟩;by_cases e:j=i7
        .subst e;rw[g12] at hx;cases hx;refine⟨?_,?_,?_,?_⟩<;>omega
        .exact q7 j x (by omega) hx
   .have l7:=lt_f l7;have Q7:∀x∈ds,-1<=min x.x x.y/\max x.x x.y<all.length /\ -20000<=x.c/\x.c<=20000:=fun x hx=>by
     obtain⟨j,hj⟩:=Yf.1 hx;exact q7 j x (by have:=(Ya.1 hj).1;omega) hj
    clear q7;refine⟨_,hs.rd 0 rfl rfl,?_⟩;refine up_loopS (n:=se.n) hs (fun i=>∀(j:Nat) (x:Eqs),j<i->es[j]?=some x->TextS all x.x/\TextS all x.y) (fun j x hj=>by omega) ?_;rintro-i27 h31 k27 ⟨hs,q27⟩;refine sB_intro (fun l27=>?_) (fun l27=>?_)
    .have l27:=lt_t l27;refine (he.ext hs.ext).rw.nbI (by omega) (by omega) fun b32 o33 d32 g32 t32=>?_;replace g32:_[i27]?=some d32:=g32;have hm:=Yb g32;refine⟨_,_,t32,?_⟩;refine hs.newput (vs:=d32.cs) rfl rfl fun h37 hs=>?_;refine⟨_,_,hs.at 0 rfl (n:=2) rfl,?_⟩;refine up_loopS (n:=2) hs (fun i=>∀j,j<i->TextS all (if j=0 then d32.x else d32.y)) (fun j hj=>by omega) ?_;rintro-i40 h44 k40 ⟨hs,q40⟩;refine sBi (fun c7=>?_) (fun c7=>?_)
     .have l40:i40<2:=by omega
      refine⟨⟨by omega,by omega⟩,_,two_at l40,?_⟩;have hx:GuardS all ds es->TextS all (if i40=0 then d32.x else d32.y):=fun hG=>by
       have:=hG.e _ hm;split
       .exact this.1
       .exact this.2
      generalize hxe:(if i40=0 then d32.x else d32.y)=x at *;refine sBi (fun c8=>?_) (fun c8=>?_)
      .exact⟨dF fun hG=>by have:=(hx hG).1;omega,hs.ext⟩
      .refine sBi (fun c9=>?_) (fun c9=>?_)
       .exact⟨dF fun hG=>by obtain⟨f,hf,_⟩:=(hx hG).2;have:=(Ya.1 hf).1;omega,hs.ext⟩
       .refine (ha.ext hs.ext).nbI (by omega) (by omega) fun b46 o47 d46 g46 t46=>?_;refine⟨_,t46.nth 1 rfl,?_⟩;refine sBn (fun c10=>?_) (fun c10=>?_)
        .exact⟨dF fun hG=>by obtain⟨f,hf,hk⟩:=(hx hG).2;rw[g46] at hf;cases hf;exact c10 hk,hs.ext⟩
        .refine Up.next l40 (by omega) ⟨hs,fun j hj=>?_⟩;by_cases e:j=i40
         .subst e;rw[hxe];exact⟨by omega,d46,g46,c10⟩
         .exact q40 j (by omega)
     .have h0:=q40 0 (by omega);have h1:=q40 1 (by omega);refine Up.next l27 (by omega) ⟨hs.drop 1,fun j x hj hx=>?_⟩;by_cases e:j=i27
      .subst e;rw[g32] at hx;cases hx;exact⟨h0,h1⟩
      .exact q27 j x (by omega) hx
    .have l27:=lt_f l27;have Q27:∀x∈es,TextS all x.x/\TextS all x.y:=fun x hx=>by
      obtain⟨j,hj⟩:=Yf.1 hx;exact q27 j x (by have:=(Ya.1 hj).1;omega) hj
     exact⟨dT ⟨by omega,by omega,Q7,Q27⟩,hs.ext⟩
structure FldS (fs:List Fld) (i:Nat) (f:Fld):Prop where
 pw:isWord f.nm=true
 ps:SortS f.k f.lo f.hi
 pd:((fs.take i).any fun x=>decide (x.nm=f.nm))=false
structure DcS (L:List Dc) (i:Nat) (d:Dc):Prop where
 pp:isPath d.nm=true
 pn:d.fs.length<=4
 pf:d.first=((allF (L.take i)).length:Nat)
 pd:((L.take i).any fun x=>decide (x.nm=d.nm))=false
 pfs:∀k f,d.fs[k]?=some f->FldS d.fs k f
 pg:GuardS (allF L) d.ds d.es
structure DeclS (L:List Dc):Prop where
 pn:L.length<=40
 pv:(allF L).length<=24
 pd:∀i d,L[i]?=some d->DcS L i d
noncomputable instance (L:List Dc):Decidable (DeclS L):=Classical.propDecidable _
theorem allF_take (L:List Dc) (i:Nat):(allF (L.take i)).length<=(allF L).length:=by
 have:allF L=allF (L.take i)++allF (L.drop i):=by unfold allF;rw[<-List.flatMap_append,List.take_append_drop]
 rw[this,Yh];omega
theorem bF {b:Bool} (h:(!b)=true):b=false:=by cases b<;>simp_all
theorem bT {b:Bool} (h:(!b)=false):b=true:=by cases b<;>simp_all
theorem valid191 (L:List Dc) (s:Sl) (h:Heap) (hL:DL h s L) (hx:Gx h) :
  Fn Pz 191 #[.slice s.a s.n s.c] h fun v h'=>v=.bool (decide (DeclS L))/\Ext h h':=by
 apply vc191;unfold W191;have hs:=St.refl h;have hn:=hL.r.ln;have hsm:=hL.r.sm;refine sBi (fun c1=>?_) (fun c1=>?_)
 .exact⟨dF fun hG=>by have:=hG.pn;omega,hs.ext⟩
 .refine (fields223 L s h hL (by omega)).mono ?_;rintro _ h3 ⟨E3,x2,rfl,hall⟩;replace hs:=hs.gift E3 hall (fldrows _);have hxn:x2.n=(allF L).length:=(hs.rows 0 rfl (by omega)).ln;refine⟨_,rfl,?_⟩;refine sBi (fun c2=>?_) (fun c2=>?_)
  .exact⟨dF fun hG=>by have:=hG.pv;omega,hs.ext⟩
  .refine⟨fun at_7 x_8 h' m=>∃i:Nat,x_8=i/\m=s.n-i/\i<=s.n/\St h h' [.sl x2 184 4 ((allF L).map Fld.cs)]/\(at_7=((allF (L.take i)).length:Nat))/\∀j d,j<i->L[j]?=some d->DcS L j d,⟨_,0,rfl,rfl,by omega,hs,rfl,fun j d hj=>by omega⟩,?_⟩;rintro-_ _ h9 m ⟨i,rfl,rfl,hi,hs,rfl,q⟩;refine sBi (fun c3=>?_) (fun c3=>?_)
   .have l3:i<s.n:=by omega
    refine (hL.ext hs.ext).r.rw.nbI (by omega) (by omega) fun b10 o11 d10 g10 t10=>?_;replace g10:_[i]?=some d10:=g10;have hle:=allF_take L i;have hd:=hL.i d10 (Yb g10);refine⟨_,_,_,_,_,t10,?_⟩;refine hs.newput (vs:=d10.cs) rfl rfl fun h18 hs=>?_;refine⟨_,hs.rd 0 rfl rfl,?_⟩;refine (path224 d10.nm h18 (hx.ext hs.ext)).mono ?_;rintro _ h22 ⟨rfl,Eh22⟩;replace hs:=hs.step Eh22;refine⟨_,rfl,?_⟩;refine sB_intro (fun c4=>?_) (fun c4=>?_)
    .exact⟨dF fun hG=>(by have:=(hG.pd i _ g10).pp;rw[bF c4] at this;cases this),hs.ext⟩
    .refine⟨_,hs.rd 0 rfl rfl,?_⟩;have hfl:=hd.pf.ln;refine sBi (fun c5=>?_) (fun c5=>?_)
     .exact⟨dF fun hG=>by have:=(hG.pd i _ g10).pn;omega,hs.ext⟩
     .refine⟨_,hs.rd 0 rfl rfl,?_⟩;refine sBn (fun c6=>?_) (fun c6=>?_)
      .exact⟨dF fun hG=>c6 (hG.pd i _ g10).pf,hs.ext⟩
      .have hcap:=hL.r.cap;refine⟨by omega,?_⟩;refine (has225 (L.take i) d10.nm _ _ h22 ((hL.r.ext hs.ext).take (by omega)) (hs.rd 0 rfl rfl)).mono ?_;rintro _ h27 ⟨rfl,Eh27⟩;replace hs:=hs.step Eh27;refine⟨_,rfl,?_⟩;refine sB_intro (fun c7=>?_) (fun c7=>?_)
       .exact⟨dF fun hG=>(by have:=(hG.pd i _ g10).pd;rw[c7] at this;cases this),hs.ext⟩
       .refine⟨_,hs.rd 0 rfl rfl,?_⟩;refine⟨_,hs.rd 0 rfl rfl,?_⟩;refine up_loopS (n:=d10.hf.n) hs (fun k=>∀(j:Nat) (f:Fld),j<k->d10.fs[j]?=some f->FldS d10.fs j f) (fun j x hj=>by omega) ?_;rintro-i30 h34 k30 ⟨hs,q30⟩;refine sB_intro (fun l30=>?_) (fun l30=>?_)
        .have l30:=lt_t l30;refine (hd.pf.ext hs.ext).rw.nbI (by omega) (by omega) fun b35 o36 d35 g35 t35=>?_;replace g35:_[i30]?=some d35:=g35;refine⟨_,_,_,_,t35,?_⟩;refine hs.newput (vs:=d35.cs) rfl rfl fun h42 hs=>?_;refine⟨_,hs.rd 0 rfl rfl,?_⟩;refine (isword132 (bs d35.nm) h42).mono ?_;rintro _ h46 ⟨rfl,Eh46⟩;replace hs:=hs.step Eh46;refine⟨_,rfl,?_⟩;rw[bs_list];refine sB_intro (fun c8=>?_) (fun c8=>?_)
         .exact⟨dF fun hG=>(by have:=((hG.pd i _ g10).pfs _ _ g35).pw;rw[bF c8] at this;cases this),hs.ext⟩
         .refine⟨_,_,_,hs.at 0 rfl (n:=3) rfl,?_⟩;refine (sorted227 d35.k d35.lo d35.hi h46).mono ?_;rintro _ h52 ⟨rfl,Eh52⟩;replace hs:=hs.step Eh52;refine⟨_,rfl,?_⟩;refine sB_intro (fun c9=>?_) (fun c9=>?_)
          .exact⟨dF fun hG=>Yyo (bF c9) ((hG.pd i _ g10).pfs _ _ g35).ps,hs.ext⟩
          .refine⟨_,hs.rd 1 rfl rfl,?_⟩;have hcap:=hd.pf.cap;refine⟨⟨by omega,by omega,by omega⟩,?_⟩;refine (has228 (d10.fs.take i30) d35.nm _ _ h52 ((hd.pf.ext hs.ext).take (by omega)) (hs.rd 0 rfl rfl)).mono ?_;rintro _ h56 ⟨rfl,Eh56⟩;replace hs:=hs.step Eh56;refine⟨_,rfl,?_⟩;refine sB_intro (fun c10=>?_) (fun c10=>?_)
           .exact⟨dF fun hG=>(by have:=((hG.pd i _ g10).pfs _ _ g35).pd;rw[c10] at this;cases this),hs.ext⟩
           .refine Up.next l30 (by omega) ⟨hs.drop 1,fun j f hj hf=>?_⟩;by_cases e:j=i30
            .subst e;rw[g35] at hf;cases hf;exact⟨bT c8,Yyn (bT c9),c10⟩
            .exact q30 j f (by omega) hf
        .have l30:=lt_f l30;have Q30:∀k f,d10.fs[k]?=some f->FldS d10.fs k f:=fun k f hf=>q30 k f (by have:=(Ya.1 hf).1;omega) hf;refine⟨_,_,hs.at 0 rfl (n:=2) rfl,?_⟩;refine (guarded230 (allF L) d10.ds d10.es d10.hd d10.he x2 h34 (hd.pd.ext hs.ext) (hd.pe.ext hs.ext) (hs.rows 1 rfl (by omega))).mono ?_;rintro _ h62 ⟨rfl,Eh62⟩;replace hs:=hs.step Eh62;refine⟨_,rfl,?_⟩;refine sB_intro (fun c11=>?_) (fun c11=>?_)
         .exact⟨dF fun hG=>Yyo (bF c11) (hG.pd i _ g10).pg,hs.ext⟩
         .refine⟨_,by omega,i+1,?_,rfl,by omega,hs.drop 1,?_,fun j d hj hd'=>?_⟩
          .rw[w64 (by omega) (by omega)];omega
          .rw[take_snoc g10,allF_snoc,Yh,w64 (by omega) (by omega)];omega
          .by_cases e:j=i
           .subst e;rw[g10] at hd';cases hd';exact⟨bT c4,by omega,c6,c7,Q30,Yyn (bT c11)⟩
           .exact q j d (by omega) hd'
   .exact⟨dT ⟨by omega,by omega,fun i' d hd=>q i' d (by have:=(Ya.1 hd).1;omega) hd⟩,hs.ext⟩
theorem app131:appB Pz 131 187 3 24=true:=by kernel_rfl
theorem dfrows (L:List Df):∀r∈L.map Df.cs,r.length=3:=fun r hr=>by obtain⟨x,_,rfl⟩:=Yp.1 hr;rfl
theorem bounds192 (d:Dc) (h:Heap) (hd:DI h d) (h4:d.fs.length<=4) (h5:d.ds.length<=20) (h6:d.es.length<=20) :
  Fn Pz 192 #[.agg ⟨d.cs⟩] h fun v h'=>Ext h h'/\∃s:Sl,v=.slice s.a s.n s.c:=by
 apply vc192 (bs d.nm) d.hf d.first d.hd d.he;unfold W192
 have hs:=St.refl h;have n1:=hd.pf.ln;have n2:=hd.pd.ln;have n3:=hd.pe.ln;refine hs.newb fun h6 hs=>?_;refine⟨_,hs.rd 0 rfl rfl,?_⟩;refine up_loopA (n:=d.hf.n) (hs.nil_ 187 3) (fun i rows=>rows.length=2*i) rfl ?_;rintro-i out_11 h13 rows hi hs q;refine sB_intro (fun l=>?_) (fun l=>?_)
 .replace l:=lt_t l;refine (hd.pf.ext hs.ext).rw.nbI (by omega) (by omega) fun b14 o15 d14 g14 t14=>?_;refine⟨_,_,_,_,t14,?_⟩;refine hs.newput (vs:=d14.cs) rfl rfl fun h21 hs=>?_;refine⟨_,hs.rd 2 rfl rfl,?_⟩;refine⟨_,hs.rd 0 rfl rfl,?_⟩;refine⟨_,hs.rd 2 rfl rfl,?_⟩;refine⟨_,hs.rd 0 rfl rfl,?_⟩;have hl:=(hs.len 1 rfl (by omega)).1;refine hs.app 1 rfl app131 (m:=2) [[_,_,_],[_,_,_]] rfl rfl (by simp) rfl (by omega) (by simp only[maxLen];omega) fun s27 h28 ns27 hs=>?_;exact UpA.next l (by omega) ⟨_,hs.drop 1,by rw[Yh,q];rfl⟩
 .replace l:=lt_f l;refine⟨_,hs.rd 1 rfl rfl,?_⟩;have hl:=(hs.len 0 rfl (by omega)).1;refine hs.appRw 0 rfl app131 (hd.pd.ext hs.ext).rw (dfrows _) hd.pd.nil (one_of (fun _=>rfl) _) (by omega) (by simp only[maxLen];omega) fun s31 h32 ns31 hs=>?_;refine⟨_,hs.rd 1 rfl rfl,?_⟩;refine up_loopA (n:=d.he.n) hs (fun i rows=>rows.length<=28+2*i) (by rw[Yh,Yc];omega) ?_;rintro-i out_37 h39 rows hi hs q;refine sB_intro (fun l=>?_) (fun l=>?_)
  .replace l:=lt_t l;refine (hd.pe.ext hs.ext).rw.nbI (by omega) (by omega) fun b40 o41 d40 g40 t40=>?_;refine⟨_,_,t40,?_⟩;refine hs.newput (vs:=d40.cs) rfl rfl fun h45 hs=>?_;refine⟨by omega,_,hs.rd 0 rfl (i:=0) rfl,by omega,_,hs.rd 0 rfl (i:=1) rfl,by omega,_,hs.rd 0 rfl (i:=1) rfl,by omega,_,hs.rd 0 rfl (i:=0) rfl,?_⟩;have hl:=(hs.len 1 rfl (by omega)).1;refine hs.app 1 rfl app131 (m:=2) [[_,_,_],[_,_,_]] rfl rfl (by simp) rfl (by omega) (by simp only[maxLen];omega) fun s51 h52 ns51 hs=>?_;exact UpA.next l (by omega) ⟨_,hs.drop 1,by rw[Yh];show _+2<=_;omega⟩
  .exact⟨hs.ext,out_37,rfl⟩
theorem bounds134 (L:List Dc) (s:Sl) (h:Heap) (hL:DL h s L) (hx:Gx h) (hne:L≠[]) :
  Fn Pz 134 #[.slice s.a s.n s.c,.int .i64 0] h fun v h'=>Ext h h'/\∃s:Sl,v=.tuple ⟨[.slice s.a s.n s.c,.int .i64 (if DeclS L then 0 else 1)]⟩:=by
 apply vc134;unfold W134;have hn:=hL.r.ln;have hpos:0<L.length:=List.length_pos_iff.2 hne;have hs:=St.refl h;refine sBi (fun c1=>by omega) (fun c1=>?_);refine sBi (fun c2=>by omega) (fun c2=>?_);refine (valid191 L s h hL hx).mono ?_;rintro _ h3 ⟨rfl,Eh3⟩;replace hs:=hs.step Eh3;refine⟨_,rfl,?_⟩;refine sB_intro (fun c3=>?_) (fun c3=>?_)
 .rw[if_neg (Yyo (bF c3))];exact⟨hs.ext,⟨none,0,0⟩,rfl⟩
 .have hD:=Yyn (bT c3);rw[if_pos hD];refine (hL.ext hs.ext).r.rw.nbI (by omega) (by omega) fun b4 o5 d4 g4 t4=>?_;refine⟨_,_,_,_,_,t4,?_⟩;have hd:=hD.pd _ _ g4;refine (bounds192 d4 h3 ((hL.i d4 (Yb g4)).ext hs.ext) hd.pn hd.pg.nd hd.pg.ne).mono ?_;rintro _ h13 ⟨Eh13,r,rfl⟩;exact⟨_,rfl,(hs.step Eh13).ext,r,rfl⟩
theorem declared78 (L:List Dc) (s:Sl) (h:Heap) (hL:DL h s L) (hx:Gx h):Fn Pz 78 #[.slice s.a s.n s.c] h fun v h'=>v=.bool (decide (DeclS L))/\Ext h h':=by
 apply vc78;unfold W78;have hn:=hL.r.ln;refine sBe (fun c1=>?_) (fun c1=>?_)
 .have:L=[]:=List.length_eq_zero_iff.1 (by omega);subst this;exact⟨dT ⟨by simp,by simp[allF],fun i d hd=>by simp at hd⟩,(St.refl h).ext⟩
 .refine (bounds134 L s h hL hx (fun e=>by subst e;simp at hn;omega)).mono ?_;rintro _ h4 ⟨E,r,rfl⟩;refine⟨_,_,rfl,?_,E⟩;by_cases hD:DeclS L
  .rw[if_pos hD,decide_eq_true hD];rfl
  .rw[if_neg hD,decide_eq_false hD];rfl
structure NamedS (g:Gl):Prop where
 w:isWord g.nm=true
 n1:1<=g.rs.length
 n6:g.rs.length<=6
 r:∀i s,g.rs[i]?=some s->isWord s=true/\s∉g.rs.take i
noncomputable instance (g:Gl):Decidable (NamedS g):=Classical.propDecidable _
theorem named76 (g:Gl) (h:Heap) (hg:GI h g):Fn Pz 76 #[g.v] h fun v h'=>v=.bool (decide (NamedS g))/\Ext h h':=by
 apply vc76 (bs g.nm) g.hr g.hd g.n g.s g.e g.he g.ht;unfold W76;have hs:=St.refl h;have hn:=hg.r.ln;have hcap:=hg.r.cap;refine hs.newb fun h9 hs=>?_;refine⟨_,hs.rd 0 rfl rfl,?_⟩;refine (isword132 _ _).mono ?_;rintro _ h13 ⟨rfl,Eh13⟩;replace hs:=hs.step Eh13;refine⟨_,rfl,?_⟩;refine sB_intro (fun c1=>?_) (fun c1=>?_)
 .skip
  exact⟨dF fun hG=>(by have:=hG.w;rw[show isWord g.nm=false from bF c1] at this;cases this),hs.ext⟩
 .skip
  refine⟨_,hs.rd 0 rfl rfl,?_⟩;refine sBi (fun c2=>?_) (fun c2=>?_)
  .skip
   exact⟨dF fun hG=>(by have:=hG.n1;omega),hs.ext⟩
  .skip
   refine⟨_,hs.rd 0 rfl rfl,?_⟩;refine sBi (fun c3=>?_) (fun c3=>?_)
   .skip
    exact⟨dF fun hG=>(by have:=hG.n6;omega),hs.ext⟩
   .skip
    refine⟨_,hs.rd 0 rfl rfl,?_⟩;refine up_loopS (n:=g.hr.n) hs (fun i17=>∀(j:Nat) (s:Nm),j<i17->g.rs[j]?=some s->isWord s=true/\s∉g.rs.take j) (fun j s hj=>by omega) ?_;rintro-i17 h21 k17 ⟨hs,q17⟩;refine sB_intro (fun l17=>?_) (fun l17=>?_)
    .have l17:=lt_t l17;refine ((hg.r.ext hs.ext).rw).nbI (by omega) (by omega) fun b22 o23 d22 g22 t22=>?_;replace g22:_[i17]?=some d22:=g22;refine⟨_,t22.hd,?_⟩;refine (isword132 _ _).mono ?_;rintro _ h27 ⟨rfl,Eh27⟩;replace hs:=hs.step Eh27;refine⟨_,rfl,?_⟩;refine sB_intro (fun c4=>?_) (fun c4=>?_)
     .skip
      exact⟨dF fun hG=>(by have:=(hG.r _ _ g22).1;rw[show isWord d22=false from bF c4] at this;cases this),hs.ext⟩
     .skip
      refine⟨_,hs.rd 0 rfl rfl,?_⟩;refine⟨by omega,?_⟩;refine (has133 (g.rs.take i17) (bs d22) ⟨subA g.hr.a (Int.toNat 0) g.hr.c 1,Int.toNat (i17:Int)-Int.toNat 0,g.hr.c-Int.toNat 0⟩ _ ((hg.r.ext hs.ext).take (by omega))).mono ?_;rintro _ h31 ⟨rfl,rfl⟩;refine⟨_,rfl,?_⟩;refine sB_intro (fun c5=>?_) (fun c5=>?_)
      .skip
       exact⟨dF fun hG=>(hG.r _ _ g22).2 (Yyn c5),hs.ext⟩
      .skip
       exact Up.next l17 (by omega) ⟨hs,fun j s hj hx=>by by_cases e:j=i17;(subst e;rw[g22] at hx;cases hx;exact⟨bT c4,Yyo c5⟩);exact q17 j s (by omega) hx⟩
    .have l17:=lt_f l17;exact⟨dT ⟨bT c1,by omega,by omega,fun j s hx=>q17 j s (by have:=(Ya.1 hx).1;omega) hx⟩,hs.ext⟩
def EdS (g:Gl) (x:Ed):Prop:=0<=x.f/\0<=x.t/\0<=x.a/\0<=x.b/\0<=x.l/\x.f<g.n/\x.t<g.n/\x.a<g.rs.length/\x.b<g.rs.length/\x.a≠x.b/\x.l<g.ds.length
structure NumS (g:Gl):Prop where
 n:1<=g.n/\g.n<=200/\0<=g.s/\0<=g.e/\g.s<g.n/\g.e<g.n
 m:g.es.length<=400
 e:∀x∈g.es,EdS g x
noncomputable instance (g:Gl):Decidable (NumS g):=Classical.propDecidable _
theorem numbered77 (g:Gl) (h:Heap) (hg:GI h g):Fn Pz 77 #[g.v] h fun v h'=>v=.bool (decide (NumS g))/\Ext h h':=by
 apply vc77 (bs g.nm) g.hr g.hd g.n g.s g.e g.he g.ht;unfold W77;have hs:=St.refl h;have hn:=hg.e.ln;have hnr:=hg.r.ln;have hnd:=hg.d.r.ln;simp only[imin_min,imax_max];refine hs.newb fun h9 hs=>?_;refine⟨_,hs.rd 0 rfl rfl,?_⟩;refine sBi (fun c1=>?_) (fun c1=>?_);rotate_left;refine⟨_,hs.rd 0 rfl rfl,?_⟩;refine sBi (fun c2=>?_) (fun c2=>?_);rotate_left;refine⟨_,hs.rd 0 rfl rfl,?_⟩;refine⟨_,hs.rd 0 rfl rfl,?_⟩;refine sBi (fun c3=>?_) (fun c3=>?_);rotate_left;refine⟨_,hs.rd 0 rfl rfl,?_⟩;refine⟨_,hs.rd 0 rfl rfl,?_⟩;refine⟨_,hs.rd 0 rfl rfl,?_⟩;refine sBi (fun c4=>?_) (fun c4=>?_);rotate_left;refine⟨_,hs.rd 0 rfl rfl,?_⟩;refine sBi (fun c5=>?_) (fun c5=>?_);rotate_left;refine⟨_,hs.rd 0 rfl rfl,?_⟩;refine up_loopS (n:=g.he.n) hs (fun i19=>∀(j:Nat) (x:Ed),j<i19->g.es[j]?=some x->EdS g x) (fun j s hj=>by omega) ?_;rintro-i19 h23 k19 ⟨hs,q19⟩;refine sB_intro (fun l19=>?_) (fun l19=>?_);have l19:=lt_t l19;refine ((hg.e.ext hs.ext).rw).nbI (by omega) (by omega) fun b24 o25 d24 g24 t24=>?_;replace g24:_[i19]?=some d24:=g24;refine⟨_,_,_,_,_,_,t24,?_⟩;refine hs.newput rfl rfl fun h33 hs=>?_;refine⟨_,_,_,hs.at 0 rfl (n:=3) rfl,?_⟩;refine hs.newput rfl rfl fun h38 hs=>?_;refine⟨_,hs.rd 1 rfl rfl,?_⟩;refine⟨_,hs.rd 1 rfl rfl,?_⟩;refine⟨_,hs.rd 0 rfl rfl,?_⟩;refine⟨_,hs.rd 0 rfl rfl,?_⟩;refine⟨_,hs.rd 0 rfl rfl,?_⟩;refine sBi (fun c6=>?_) (fun c6=>?_);rotate_left;refine⟨_,hs.rd 1 rfl rfl,?_⟩;refine⟨_,hs.rd 1 rfl rfl,?_⟩;refine⟨_,hs.rd 2 rfl rfl,?_⟩;refine sBi (fun c7=>?_) (fun c7=>?_);rotate_left;refine⟨_,hs.rd 0 rfl rfl,?_⟩;refine⟨_,hs.rd 0 rfl rfl,?_⟩;refine⟨_,hs.rd 2 rfl rfl,?_⟩;refine sBi (fun c8=>?_) (fun c8=>?_);rotate_left;refine⟨_,hs.rd 0 rfl rfl,?_⟩;refine⟨_,hs.rd 0 rfl rfl,?_⟩;refine sBe (fun c9=>?_) (fun c9=>?_);rotate_left;refine⟨_,hs.rd 0 rfl rfl,?_⟩;refine⟨_,hs.rd 2 rfl rfl,?_⟩;refine sBi (fun c10=>?_) (fun c10=>?_);rotate_left;exact Up.next l19 (by omega) ⟨hs.drop 2,fun j x hj hx=>by by_cases e:j=i19;(subst e;rw[g24] at hx;cases hx;unfold EdS;omega);exact q19 j x (by omega) hx⟩;have l19:=lt_f l19;exact⟨dT ⟨by omega,by omega,fun x hx=>by obtain⟨j,hj⟩:=Yf.1 hx;exact q19 j x (by have:=(Ya.1 hj).1;omega) hj⟩,hs.ext⟩;all_goals first | exact⟨dF fun hG=>(by have:=hG.n;have:=hG.m;first | omega | (have:=hG.e _ (Yb g24);unfold EdS at this;omega)),hs.ext⟩
def PairBad (i k:Nat) (x y:Ed):Prop:=(i≠k/\x.f=y.f/\((x.a=y.a/\x.b=y.b/\x.l=y.l)\/x.a≠y.a\/x.ag=true))\/(x.ag=true/\y.t=x.f/\(x.a≠y.a\/x.l≠y.l))
structure OrdS (g:Gl):Prop where
 e:∀x∈g.es,x.f≠g.e
 s:∀x∈g.es,x.ag=true->x.f≠g.s
 p:∀i x,g.es[i]?=some x->∀k y,g.es[k]?=some y->¬PairBad i k x y
noncomputable instance (g:Gl):Decidable (OrdS g):=Classical.propDecidable _
theorem ordered79 (g:Gl) (h:Heap) (hg:GI h g):Fn Pz 79 #[g.v] h fun v h'=>v=.bool (decide (OrdS g))/\Ext h h':=by
 apply vc79 (bs g.nm) g.hr g.hd g.n g.s g.e g.he g.ht;unfold W79 V79a V79b;have hs:=St.refl h;have hn:=hg.e.ln;have hsm:=hg.e.sm;refine hs.newb fun h9 hs=>?_;refine⟨_,hs.rd 0 rfl rfl,?_⟩;refine up_loopS (n:=g.he.n) hs (fun i11=>∀(j:Nat) (x:Ed),j<i11->g.es[j]?=some x->x.f≠g.e/\(x.ag=true->x.f≠g.s)/\∀k y,g.es[k]?=some y->¬PairBad j k x y) (fun j s hj=>by omega) ?_;rintro-i11 h15 k11 ⟨hs,q11⟩;refine sB_intro (fun l11=>?_) (fun l11=>?_);have l11:=lt_t l11;refine ((hg.e.ext hs.ext).rw).nbI (by omega) (by omega) fun b16 o17 d16 g16 t16=>?_;replace g16:_[i11]?=some d16:=g16;refine⟨_,_,_,_,_,_,t16,?_⟩;refine hs.newput rfl rfl fun h25 hs=>?_;refine⟨_,hs.rd 0 rfl rfl,?_⟩;refine⟨_,hs.rd 1 rfl rfl,?_⟩;refine sBe (fun c1=>?_) (fun c1=>?_);rotate_left;refine⟨_,hs.rd 0 rfl rfl,?_⟩;refine sB_intro (fun c2=>?_) (fun c2=>?_);refine⟨_,hs.rd 0 rfl rfl,?_⟩;refine⟨_,hs.rd 1 rfl rfl,?_⟩;refine sBe (fun c3=>?_) (fun c3=>?_);rotate_left;refine⟨_,hs.rd 1 rfl rfl,?_⟩;refine up_loopS (n:=g.he.n) hs (fun i32=>∀(k:Nat) (y:Ed),k<i32->g.es[k]?=some y->¬PairBad i11 k d16 y) (fun j s hj=>by omega) ?_;rintro-i32 h36 k32 ⟨hs,q32⟩;refine sB_intro (fun l32=>?_) (fun l32=>?_);have l32:=lt_t l32;refine ((hg.e.ext hs.ext).rw).nbI (by omega) (by omega) fun b37 o38 d37 g37 t37=>?_;replace g37:_[i32]?=some d37:=g37;refine⟨_,_,_,_,_,_,t37,?_⟩;refine hs.newput rfl rfl fun h46 hs=>?_;refine sBn (fun c4=>?_) (fun c4=>?_);refine⟨_,hs.rd 1 rfl rfl,?_⟩;refine⟨_,hs.rd 0 rfl rfl,?_⟩;refine sBe (fun c5=>?_) (fun c5=>?_);refine⟨_,_,_,hs.at 1 rfl (n:=3) rfl,?_⟩;refine⟨_,_,_,hs.at 0 rfl (n:=3) rfl,?_⟩;refine sB_intro (fun c6=>?_) (fun c6=>?_);rotate_left;refine⟨_,hs.rd 1 rfl rfl,?_⟩;refine⟨_,hs.rd 0 rfl rfl,?_⟩;refine sBn (fun c7=>?_) (fun c7=>?_);rotate_left;refine⟨_,hs.rd 1 rfl rfl,?_⟩;refine sB_intro (fun c8=>?_) (fun c8=>?_);rotate_left;refine⟨_,hs.rd 1 rfl rfl,?_⟩;refine sB_intro (fun c9=>?_) (fun c9=>?_);refine⟨_,hs.rd 0 rfl rfl,?_⟩;refine⟨_,hs.rd 1 rfl rfl,?_⟩;refine sBe (fun c10=>?_) (fun c10=>?_);refine⟨_,hs.rd 1 rfl rfl,?_⟩;refine⟨_,hs.rd 0 rfl rfl,?_⟩;refine sBn (fun c11=>?_) (fun c11=>?_);rotate_left;refine⟨_,hs.rd 1 rfl rfl,?_⟩;refine⟨_,hs.rd 0 rfl rfl,?_⟩;refine sBn (fun c12=>?_) (fun c12=>?_);rotate_left;rotate_left;rotate_left;rotate_left;refine⟨_,hs.rd 1 rfl rfl,?_⟩;refine sB_intro (fun c13=>?_) (fun c13=>?_);refine⟨_,hs.rd 0 rfl rfl,?_⟩;refine⟨_,hs.rd 1 rfl rfl,?_⟩;refine sBe (fun c14=>?_) (fun c14=>?_);refine⟨_,hs.rd 1 rfl rfl,?_⟩;refine⟨_,hs.rd 0 rfl rfl,?_⟩;refine sBn (fun c15=>?_) (fun c15=>?_);rotate_left;refine⟨_,hs.rd 1 rfl rfl,?_⟩;refine⟨_,hs.rd 0 rfl rfl,?_⟩;refine sBn (fun c16=>?_) (fun c16=>?_);rotate_left;rotate_left;rotate_left;rotate_left;refine⟨_,hs.rd 1 rfl rfl,?_⟩;refine sB_intro (fun c17=>?_) (fun c17=>?_);refine⟨_,hs.rd 0 rfl rfl,?_⟩;refine⟨_,hs.rd 1 rfl rfl,?_⟩;refine sBe (fun c18=>?_) (fun c18=>?_);refine⟨_,hs.rd 1 rfl rfl,?_⟩;refine⟨_,hs.rd 0 rfl rfl,?_⟩;refine sBn (fun c19=>?_) (fun c19=>?_);rotate_left;refine⟨_,hs.rd 1 rfl rfl,?_⟩;refine⟨_,hs.rd 0 rfl rfl,?_⟩;refine sBn (fun c20=>?_) (fun c20=>?_);rotate_left;rotate_left;rotate_left;rotate_left;have l32:=lt_f l32;exact Up.next l11 (by omega) ⟨hs.drop 1,fun j x hj hx=>by by_cases e:j=i11;(subst e;rw[g16] at hx;cases hx;exact⟨c1,by first | exact fun _=>c3 | exact fun hc=>(by rw[c2] at hc;cases hc),by first | exact fun k y hk=>q32 k y (by have:=(Ya.1 hk).1;omega) hk | exact fun k y hk=>q90 k y (by have:=(Ya.1 hk).1;omega) hk⟩);exact q11 j x (by omega) hx⟩;refine⟨_,hs.rd 1 rfl rfl,?_⟩;refine up_loopS (n:=g.he.n) hs (fun i90=>∀(k:Nat) (y:Ed),k<i90->g.es[k]?=some y->¬PairBad i11 k d16 y) (fun j s hj=>by omega) ?_;rintro-i90 h94 k90 ⟨hs,q90⟩;refine sB_intro (fun l90=>?_) (fun l90=>?_);have l90:=lt_t l90;refine ((hg.e.ext hs.ext).rw).nbI (by omega) (by omega) fun b95 o96 d95 g95 t95=>?_;replace g95:_[i90]?=some d95:=g95;refine⟨_,_,_,_,_,_,t95,?_⟩;refine hs.newput rfl rfl fun h104 hs=>?_;refine sBn (fun c21=>?_) (fun c21=>?_);refine⟨_,hs.rd 1 rfl rfl,?_⟩;refine⟨_,hs.rd 0 rfl rfl,?_⟩;refine sBe (fun c22=>?_) (fun c22=>?_);refine⟨_,_,_,hs.at 1 rfl (n:=3) rfl,?_⟩;refine⟨_,_,_,hs.at 0 rfl (n:=3) rfl,?_⟩;refine sB_intro (fun c23=>?_) (fun c23=>?_);rotate_left;refine⟨_,hs.rd 1 rfl rfl,?_⟩;refine⟨_,hs.rd 0 rfl rfl,?_⟩;refine sBn (fun c24=>?_) (fun c24=>?_);rotate_left;refine⟨_,hs.rd 1 rfl rfl,?_⟩;refine sB_intro (fun c25=>?_) (fun c25=>?_);rotate_left;refine⟨_,hs.rd 1 rfl rfl,?_⟩;refine sB_intro (fun c26=>?_) (fun c26=>?_);refine⟨_,hs.rd 0 rfl rfl,?_⟩;refine⟨_,hs.rd 1 rfl rfl,?_⟩;refine sBe (fun c27=>?_) (fun c27=>?_);refine⟨_,hs.rd 1 rfl rfl,?_⟩;refine⟨_,hs.rd 0 rfl rfl,?_⟩;refine sBn (fun c28=>?_) (fun c28=>?_);rotate_left;refine⟨_,hs.rd 1 rfl rfl,?_⟩;refine⟨_,hs.rd 0 rfl rfl,?_⟩;refine sBn (fun c29=>?_) (fun c29=>?_);rotate_left;rotate_left;rotate_left;rotate_left;refine⟨_,hs.rd 1 rfl rfl,?_⟩;refine sB_intro (fun c30=>?_) (fun c30=>?_);refine⟨_,hs.rd 0 rfl rfl,?_⟩;refine⟨_,hs.rd 1 rfl rfl,?_⟩;refine sBe (fun c31=>?_) (fun c31=>?_);refine⟨_,hs.rd 1 rfl rfl,?_⟩;refine⟨_,hs.rd 0 rfl rfl,?_⟩;refine sBn (fun c32=>?_) (fun c32=>?_);rotate_left;refine⟨_,hs.rd 1 rfl rfl,?_⟩;refine⟨_,hs.rd 0 rfl rfl,?_⟩;refine sBn (fun c33=>?_) (fun c33=>?_);rotate_left;rotate_left;rotate_left;rotate_left;refine⟨_,hs.rd 1 rfl rfl,?_⟩;refine sB_intro (fun c34=>?_) (fun c34=>?_);refine⟨_,hs.rd 0 rfl rfl,?_⟩;refine⟨_,hs.rd 1 rfl rfl,?_⟩;refine sBe (fun c35=>?_) (fun c35=>?_);refine⟨_,hs.rd 1 rfl rfl,?_⟩;refine⟨_,hs.rd 0 rfl rfl,?_⟩;refine sBn (fun c36=>?_) (fun c36=>?_);rotate_left;refine⟨_,hs.rd 1 rfl rfl,?_⟩;refine⟨_,hs.rd 0 rfl rfl,?_⟩;refine sBn (fun c37=>?_) (fun c37=>?_);rotate_left;rotate_left;rotate_left;rotate_left;have l90:=lt_f l90;exact Up.next l11 (by omega) ⟨hs.drop 1,fun j x hj hx=>by by_cases e:j=i11;(subst e;rw[g16] at hx;cases hx;exact⟨c1,by first | exact fun _=>c3 | exact fun hc=>(by rw[c2] at hc;cases hc),by first | exact fun k y hk=>q32 k y (by have:=(Ya.1 hk).1;omega) hk | exact fun k y hk=>q90 k y (by have:=(Ya.1 hk).1;omega) hk⟩);exact q11 j x (by omega) hx⟩;have l11:=lt_f l11;exact⟨dT ⟨fun x hx=>by obtain⟨j,hj⟩:=Yf.1 hx;exact (q11 j x (by have:=(Ya.1 hj).1;omega) hj).1,fun x hx=>by obtain⟨j,hj⟩:=Yf.1 hx;exact (q11 j x (by have:=(Ya.1 hj).1;omega) hj).2.1,fun i x hx=>(q11 i x (by have:=(Ya.1 hx).1;omega) hx).2.2⟩,hs.ext⟩;all_goals first | exact⟨dF fun hG=>(by first | exact hG.e _ (Yb g16) c1 | exact hG.s _ (Yb g16) c2 c3 | (refine hG.p _ _ g16 _ _ g37 ?_;clear hG q11 q32 t37 t16 hs hg;unfold PairBad;grind) | (refine hG.p _ _ g16 _ _ g95 ?_;clear hG q11 q90 t95 t16 hs hg;unfold PairBad;grind)),hs.ext⟩ | exact Up.next l32 (by omega) ⟨hs.drop 1,fun k y hk hy=>by by_cases e:k=i32;(subst e;rw[g37] at hy;cases hy;clear q11 q32 t37 t16 hs hg;unfold PairBad;grind);exact q32 k y (by omega) hy⟩ | exact Up.next l90 (by omega) ⟨hs.drop 1,fun k y hk hy=>by by_cases e:k=i90;(subst e;rw[g95] at hy;cases hy;clear q11 q90 t95 t16 hs hg;unfold PairBad;grind);exact q90 k y (by omega) hy⟩
def lastS (ts:List To) (i:Nat):Int:=if i=0 then -1 else match ts[i-1]? with | some t=>t.s | none=>-1
structure TmS (g:Gl) (i:Nat) (t:To):Prop where
 o:lastS g.ts i<t.s
 k:1<=t.k/\t.k<=1000
 e:0<=t.e/\∃x,g.es[t.e.toNat]?=some x/\x.f=t.s/\x.ag=false
def TimS (g:Gl):Prop:=∀i t,g.ts[i]?=some t->TmS g i t
noncomputable instance (g:Gl):Decidable (TimS g):=Classical.propDecidable _
theorem lastS_next {ts:List To} {i:Nat} {t:To} (h:ts[i]?=some t):lastS ts (i+1)=t.s:=by
 unfold lastS;rw[if_neg (by omega),Nat.add_sub_cancel,h]
theorem timed80 (g:Gl) (h:Heap) (hg:GI h g):Fn Pz 80 #[g.v] h fun v h'=>v=.bool (decide (TimS g))/\Ext h h':=by
 apply vc80 (bs g.nm) g.hr g.hd g.n g.s g.e g.he g.ht;unfold W80;have hs:=St.refl h;have hn:=hg.t.ln;have hne:=hg.e.ln;have hsm:=hg.t.sm;refine hs.newb fun h9 hs=>?_;refine⟨_,hs.rd 0 rfl rfl,?_⟩;refine⟨fun last_14 x_15 h' m=>∃i:Nat,x_15=i/\m=g.ht.n-i/\i<=g.ht.n/\St h h' [.blk h.size g.cs 27]/\last_14=lastS g.ts i/\∀j t,j<i->g.ts[j]?=some t->TmS g j t,⟨_,0,rfl,rfl,by omega,hs,rfl,fun j t hj=>by omega⟩,?_⟩;rintro-_ _ h16 m ⟨i,rfl,rfl,hi,hs,rfl,q⟩;refine sBi (fun c1=>?_) (fun c1=>?_);refine ((hg.t.ext hs.ext).rw).nbI (by omega) (by omega) fun b17 o18 d17 g17 t17=>?_;refine⟨_,_,_,t17,?_⟩;refine hs.newput rfl rfl fun h23 hs=>?_;refine⟨_,hs.rd 0 rfl rfl,?_⟩;refine sBi (fun c2=>?_) (fun c2=>?_);rotate_left;refine⟨_,hs.rd 0 rfl rfl,?_⟩;refine sBi (fun c3=>?_) (fun c3=>?_);rotate_left;refine⟨_,hs.rd 0 rfl rfl,?_⟩;refine sBi (fun c4=>?_) (fun c4=>?_);rotate_left;refine⟨_,hs.rd 0 rfl rfl,?_⟩;refine sBi (fun c5=>?_) (fun c5=>?_);rotate_left;refine⟨_,hs.rd 0 rfl rfl,?_⟩;refine⟨_,hs.rd 1 rfl rfl,?_⟩;refine sBi (fun c6=>?_) (fun c6=>?_);rotate_left;refine⟨_,hs.rd 1 rfl rfl,?_⟩;refine⟨_,hs.rd 0 rfl rfl,?_⟩;refine ((hg.e.ext hs.ext).rw).nbI (by omega) (by omega) fun b32 o33 d32 g32 t32=>?_;refine⟨_,t32.hd,?_⟩;refine⟨_,hs.rd 0 rfl rfl,?_⟩;refine sBn (fun c7=>?_) (fun c7=>?_);rotate_left;refine⟨_,hs.rd 1 rfl rfl,?_⟩;refine⟨_,hs.rd 0 rfl rfl,?_⟩;refine ((hg.e.ext hs.ext).rw).nbI (by omega) (by omega) fun b38 o39 d38 g38 t38=>?_;refine⟨_,t38.nth 5 rfl,?_⟩;refine sB_intro (fun c8=>?_) (fun c8=>?_);rotate_left;refine⟨_,hs.rd 0 rfl rfl,?_⟩;exact⟨_,by omega,i+1,by rw[w64 (by omega) (by omega)];omega,rfl,by omega,hs.drop 1,(lastS_next g17).symm,fun j t hj hx=>by by_cases e:j=i;(subst e;rw[show g.ts[j]?=some d17 from g17] at hx;cases hx;exact⟨by omega,by omega,by omega,d32,g32,c7,by rw[g38] at g32;cases g32;exact c8⟩);exact q j t (by omega) hx⟩;exact⟨dT fun j t hx=>q j t (by have:=(Ya.1 hx).1;omega) hx,hs.ext⟩;all_goals first | exact⟨dF fun hG=>(by replace hG:=hG i _ g17;have ho:=hG.o;have hk:=hG.k;obtain⟨he0,x,hx,hf,hag⟩:=hG.e;have hxl:=(Ya.1 hx).1;first | omega | (rw[g32] at hx;cases hx;first | exact c7 hf | (rw[g38] at g32;cases g32;rw[c8] at hag;cases hag))),hs.ext⟩
theorem app42:appB Pz 42 3 1 8=true:=by kernel_rfl
theorem inrows (L:List Int):∀r∈L.map inC,r.length=1:=fun r hr=>by obtain⟨x,_,rfl⟩:=Yp.1 hr;rfl
theorem index135 (L:List Int) (x:Int) (s:Sl) (h:Heap) (hr:Rw h 1 s (L.map inC)) (hm:L.length<=1048576) :
  Fn Pz 135 #[.slice s.a s.n s.c,.int .i64 x] h fun v h'=>(∃k:Int,v=.int .i64 k/\decide (k>=0)=decide (x∈L))/\h'=h:=by
 apply vc135;unfold W135;have hn:=hr.ln;refine up_loop (n:=s.n) (fun i h'=>h'=h/\∀(j:Nat) (y:Int),j<i->L[j]?=some y->decide (x=y)=false) ⟨rfl,fun j y hj=>by omega⟩ ?_;rintro-i h5 hi ⟨rfl,hd⟩;refine sB_intro (fun l=>?_) (fun l=>?_)
 .replace l:=lt_t l;refine hr.nbI (by omega) (by omega) fun b o d g t=>?_;replace g:L[i]?=some d:=g;refine⟨_,t.hd,?_⟩;refine sBe (fun he=>?_) (fun hne=>?_)
  .exact⟨⟨_,rfl,by rw[decide_eq_true (show (i:Int)>=0 by omega),decide_eq_true (by rw[he];exact Yb g)]⟩,rfl⟩
  .exact Up.next l (by omega) ⟨rfl,scan_next (p:=fun y=>decide (x=y)) g (decide_eq_false hne) hd⟩
 .replace l:=lt_f l;refine⟨⟨_,rfl,?_⟩,rfl⟩;rw[decide_eq_false (show ¬((-1:Int)>=0) by omega),decide_eq_false];intro hm;obtain⟨j,hj⟩:=Yf.1 hm;exact Yyo (hd j _ (by have:=(Ya.1 hj).1;omega) hj) rfl
theorem has81 (L:List Int) (x:Int) (s:Sl) (h:Heap) (hr:Rw h 1 s (L.map inC)) (hm:L.length<=1048576) :
  Fn Pz 81 #[.slice s.a s.n s.c,.int .i64 x] h fun v h'=>v=.bool (decide (x∈L))/\h'=h:=by
 apply vc81;unfold W81;refine (index135 L x s h hr hm).mono ?_;rintro v h3 ⟨⟨k,rfl,hk⟩,rfl⟩;exact⟨_,rfl,by rw[hk],rfl⟩
theorem spread82 (g:Gl) (src:Int) (bk:Bool) (h:Heap) (hg:GI h g) (hN:NumS g) (h0:0<=src) (h1:src<g.n) :
  Fn Pz 82 #[g.v,.int .i64 src,.bool bk] h fun v h'=>Ext h h'/\∃(s:Sl) (D:List Int),v=.slice s.a s.n s.c/\OwnS h' h.size 3 1 s (D.map inC).flatten/\BF g.es bk g.n.toNat src D []:=by
 apply vc82 (bs g.nm) g.hr g.hd g.n g.s g.e g.he g.ht;unfold W82;have hs:=St.refl h;have hn:=hg.e.ln;have hb:=hN.n;have he:=hN.e;have hm:=hN.m;refine hs.newb fun h9 hs=>?_;refine hs.newb fun h10 hs=>?_;refine⟨_,hs.rd 1 rfl rfl,?_⟩;refine (repeat60 g.n (by omega) (by omega) _ h10 (hs.rd 0 rfl rfl)).mono ?_;rintro _ h14 ⟨E14,x13,rfl,ho⟩;replace hs:=hs.gift E14 ho (inrows _);refine⟨_,rfl,?_⟩;have hxn:=(hs.rows 0 rfl (by omega)).ln;rw[Yg] at hxn;refine hs.set 0 rfl (by omega) h0 (by omega) 0 rfl rfl (fun b15 o16 h17 hs=>?_) rfl;refine hs.newb fun h18 hs=>?_;have hs:=(hs.blkS 1 1 [[.int .i64 src]] rfl (by simp) rfl (by decide)).toQ (by omega);have bf0:BF g.es bk g.n.toNat src ((List.replicate g.n.toNat (-1:Int)).set src.toNat 0) [src]:=BF.start h0 (by omega) (by omega);refine⟨fun todo h' m=>∃(D T:List Int),St h h' [.q todo 3 1 (T.map inC),.sl x13 3 1 (D.map inC),.blk h9.size [.int .i64 (-1)] 3,.blk h.size g.cs 27]/\BF g.es bk g.n.toNat src D T/\m=2*D.count (-1)+T.length/\m<=401,⟨_,_,[src],hs,bf0,rfl,?_⟩,?_⟩
 .have:List.count (-1) ((List.replicate g.n.toNat (-1:Int)).set src.toNat 0)<=_:=List.count_le_length;rw[Yyh,Yg] at this;rw[Yv];omega
 rintro-todo_22 h23 m ⟨D,T,hs,bf,rfl,hmm⟩;have hq:=(hs.qlen 0 rfl).1;rw[Yc] at hq;refine sBi (fun c1=>?_) (fun c1=>?_)
 .refine⟨_,hs.rd 3 rfl rfl,?_⟩;obtain⟨a0,R0,rfl⟩:∃a R,T=a::R:=by cases T with
   | nil=>simp at hq;omega
   | cons a R=>exact⟨a,R,rfl⟩
  refine⟨fun todo x h' m=>∃(i:Nat) (D' R:List Int),x=i/\m=g.he.n-i/\i<=g.he.n/\St h h' [.q todo 3 1 ((a0::R).map inC),.sl x13 3 1 (D'.map inC),.blk h9.size [.int .i64 (-1)] 3,.blk h.size g.cs 27]/\BF g.es bk g.n.toNat src D' (a0::R) /\
   (∀(j:Nat) (x:Ed),j<i->g.es[j]?=some x->src_ bk x=a0->Vis D' (dst_ bk x))/\2*D'.count (-1)+R.length+1<=2*D.count (-1)+(a0::R0).length,⟨_,0,D,R0,rfl,rfl,by omega,hs,bf,fun j x hj=>by omega,by rw[Yyj];omega⟩,?_⟩
  rintro-todo_28 _ h30 _ ⟨i,D',R,rfl,rfl,hi,hs,bf,hdone,hmea⟩;have hq:=(hs.qlen 0 rfl);rw[Yc,Yyj] at hq;have hlD:=bf.len;have hxn2:=(hs.rows 1 rfl (by omega)).ln;refine sBi (fun c2=>?_) (fun c2=>?_)
  .have l2:i<g.he.n:=by omega
   refine (hg.e.ext hs.ext).rw.nbI (by omega) (by omega) fun b31 o32 d31 g31 t31=>?_;replace g31:g.es[i]?=some d31:=g31;have hE:=he d31 (Yb g31);unfold EdS at hE;refine⟨_,_,_,_,_,_,t31,?_⟩;refine hs.newput (vs:=d31.cs) rfl rfl fun h40 hs=>?_;refine⟨_,hs.rd 0 rfl rfl,?_⟩;refine⟨_,hs.rd 0 rfl rfl,?_⟩;refine⟨fun a b h'=>St h h' [.blk h30.size d31.cs 55,.q todo_28 3 1 ((a0::R).map inC),.sl x13 3 1 (D'.map inC),.blk h9.size [.int .i64 (-1)] 3,.blk h.size g.cs 27]/\a=src_ bk d31/\b=dst_ bk d31,?_,?_⟩
   .cases bk
    .exact⟨hs,rfl,rfl⟩
    .exact⟨hs,rfl,rfl⟩
   .rintro-a b h46 ⟨hs,ha,hb'⟩;have ha0:0<=a/\a<g.n/\0<=b/\b<g.n:=by rw[ha,hb'];unfold src_ dst_;cases bk<;>simp<;>omega
    have next0:∀ {todo:Sl} {h':Heap} {D2 R2:List Int},St h h' [.blk h30.size d31.cs 55,.q todo 3 1 ((a0::R2).map inC),.sl x13 3 1 (D2.map inC),.blk h9.size [.int .i64 (-1)] 3,.blk h.size g.cs 27]->BF g.es bk g.n.toNat src D2 (a0::R2) ->
      (∀v,Vis D' v->Vis D2 v)->(a=a0->Vis D2 b)->2*D2.count (-1)+R2.length+1<=2*D.count (-1)+(a0::R0).length ->
      ∃m,m<g.he.n-i/\∃(i2:Nat) (D' R:List Int),IntKind.wrap .i64 ((i:Int)+1)=i2/\m=g.he.n-i2/\i2<=g.he.n/\St h h' [.q todo 3 1 ((a0::R).map inC),.sl x13 3 1 (D'.map inC),.blk h9.size [.int .i64 (-1)] 3,.blk h.size g.cs 27]/\BF g.es bk g.n.toNat src D' (a0::R) /\
       (∀(j:Nat) (x:Ed),j<i2->g.es[j]?=some x->src_ bk x=a0->Vis D' (dst_ bk x))/\2*D'.count (-1)+R.length+1<=2*D.count (-1)+(a0::R0).length:=by
     intro todo h' D2 R2 hs2 bf2 hmono hedge hm2;refine⟨_,by omega,i+1,D2,R2,by rw[w64 (by omega) (by omega)];omega,rfl,by omega,hs2.drop 1,bf2,fun j x hj hx hsx=>?_,hm2⟩;by_cases e:j=i
     .subst e;rw[g31] at hx;cases hx;rw[<-hb'];exact hedge (by rw[ha,hsx])
     .exact hmono _ (hdone j x (by omega) hx hsx)
    refine (hs.qrw 1 rfl (by omega)).nbI (cs:=inC) (L:=a0::R) (by omega) (by omega) fun b47 o48 d47 g47 t47=>?_;have ed:a0=d47:=by simpa using g47
    subst ed;refine⟨_,t47.hd,?_⟩;refine sBe (fun c4=>?_) (fun c4=>?_)
    .subst c4;have hva:Vis D' a:=bf.t a (by simp);obtain⟨_,da,hda,hda0⟩:=hva;refine (hs.rows 2 rfl (by omega)).nbI (by omega) (by omega) fun b50 o51 db g50 t50=>?_;refine⟨_,t50.hd,?_⟩;refine sBi (fun c5=>?_) (fun c5=>?_)
     .refine (hs.rows 2 rfl (by omega)).nbI (by omega) (by omega) fun b53 o54 d53 g53 t53=>?_;rw[hda] at g53;cases g53;refine⟨_,t53.hd,?_⟩;have hadj:Adj g.es bk a b:=⟨d31,Yb g31,ha.symm,hb'.symm⟩;obtain⟨bf2,hcnt,hd0,hd2⟩:=bf.push ⟨by omega,da,hda,hda0⟩ hda (by omega) g50 c5 hadj;rw[w64 (n:=da+1) (by omega) (by omega)];refine hs.set 2 rfl (by omega) (by omega) (by omega) (da+1) rfl rfl (fun b56 o57 h58 hs=>?_) rfl;have hcl:D'.count (-1)<=D'.length:=List.count_le_length;have hRl:R.length<=2000:=by omega
      refine hs.qapp 1 rfl app42 (m:=1) [[.int .i64 b]] rfl rfl (by omega) (by simp) rfl (by omega) (by simp only[maxLen];omega) fun s60 h61 ns60 hs=>?_;have hs':St h h61 [.blk h30.size d31.cs 55,.q s60 3 1 ((a::(R++[b])).map inC),.sl x13 3 1 ((D'.set b.toNat (da+1)).map inC),.blk h9.size [.int .i64 (-1)] 3,.blk h.size g.cs 27]:=by
       have e:(a::(R++[b])).map inC=(a::R).map inC++[[.int .i64 b]]:=by simp[inC]
       rw[e];exact hs
      refine next0 hs' bf2 (fun v hv=>(vis_set (by omega) (by have:=(Ya.1 g50).1;omega) (by omega)).2 (.inr hv)) (fun _=>(vis_set (by omega) (by have:=(Ya.1 g50).1;omega) (by omega)).2 (.inl rfl)) ?_;rw[Yh,Yv];omega
     .exact next0 hs bf (fun v hv=>hv) (fun _=>⟨by omega,db,g50,by omega⟩) hmea
    .exact next0 hs bf (fun v hv=>hv) (fun e=>absurd e c4) hmea
  .refine⟨⟨by omega,by omega,by omega⟩,?_⟩;rw[Yyl] at hs;refine⟨_,?_,D',R,hs.qtail,?_,rfl,?_⟩
   .rw[Yyj] at hmea ⊢;omega
   rotate_left
   .omega
   .refine⟨bf.len,bf.src,bf.r,fun t ht=>bf.t t (Yn _ ht),fun v w hv hn' hvw=>?_,bf.b⟩;by_cases hva:v=a0
    .subst hva;obtain⟨x,hx,h3,h4⟩:=hvw;obtain⟨j,hj⟩:=Yf.1 hx;rw[<-h4];exact hdone j x (by have:=(Ya.1 hj).1;omega) hj h3
    .exact bf.c v w hv (by rw[Yr,not_or];exact⟨hva,hn'⟩) hvw
 .have:T=[]:=List.length_eq_zero_iff.1 (by omega);subst this;exact⟨hs.ext,x13,D,rfl,hs.give 1 rfl,bf⟩
structure ValidS (g:Gl):Prop where
 nam:NamedS g
 num:NumS g
 dcl:DeclS g.ds
 ord:OrdS g
 tim:TimS g
 fwd:∀v:Int,0<=v->v<g.n->Rch g.es false g.s v
 bwd:∀v:Int,0<=v->v<g.n->Rch g.es true g.e v
noncomputable instance (g:Gl):Decidable (ValidS g):=Classical.propDecidable _
theorem valid38 (g:Gl) (h:Heap) (hg:GI h g) (hx:Gx h):Fn Pz 38 #[g.v] h fun v h'=>v=.bool (decide (ValidS g))/\Ext h h':=by
 apply vc38 (bs g.nm) g.hr g.hd g.n g.s g.e g.he g.ht;unfold W38;have hs:=St.refl h;refine hs.newb fun h9 hs=>?_;refine⟨_,_,_,_,_,_,_,_,hs.at 0 rfl (n:=8) rfl,?_⟩;refine (named76 g _ (hg.ext hs.ext)).mono ?_;rintro _ h20 ⟨rfl,Eh20⟩;replace hs:=hs.step Eh20;refine⟨_,rfl,?_⟩;refine sB_intro (fun c1=>?_) (fun c1=>?_)
 .skip
  refine⟨_,_,_,_,_,_,_,_,hs.at 0 rfl (n:=8) rfl,?_⟩;refine (numbered77 g _ (hg.ext hs.ext)).mono ?_;rintro _ h31 ⟨rfl,Eh31⟩;replace hs:=hs.step Eh31;refine⟨_,rfl,?_⟩;refine sB_intro (fun c2=>?_) (fun c2=>?_)
  .skip
   refine⟨_,hs.rd 0 rfl rfl,?_⟩;refine (declared78 g.ds _ _ (hg.d.ext hs.ext) (hx.ext hs.ext)).mono ?_;rintro _ h35 ⟨rfl,Eh35⟩;replace hs:=hs.step Eh35;refine⟨_,rfl,?_⟩;refine sB_intro (fun c3=>?_) (fun c3=>?_)
   .skip
    refine⟨_,_,_,_,_,_,_,_,hs.at 0 rfl (n:=8) rfl,?_⟩;refine (ordered79 g _ (hg.ext hs.ext)).mono ?_;rintro _ h46 ⟨rfl,Eh46⟩;replace hs:=hs.step Eh46;refine⟨_,rfl,?_⟩;refine sB_intro (fun c4=>?_) (fun c4=>?_)
    .skip
     refine⟨_,_,_,_,_,_,_,_,hs.at 0 rfl (n:=8) rfl,?_⟩;refine (timed80 g _ (hg.ext hs.ext)).mono ?_;rintro _ h57 ⟨rfl,Eh57⟩;replace hs:=hs.step Eh57;refine⟨_,rfl,?_⟩;refine sB_intro (fun c5=>?_) (fun c5=>?_)
     .skip
      refine⟨_,_,_,_,_,_,_,_,hs.at 0 rfl (n:=8) rfl,?_⟩;refine⟨_,hs.rd 0 rfl rfl,?_⟩;refine (spread82 g _ _ _ (hg.ext hs.ext) (Yyn c2) (by have:=(Yyn c2).n;omega) (by have:=(Yyn c2).n;omega)).mono ?_;rintro _ h69 ⟨E69,x68,D,rfl,ho,bf⟩;replace hs:=hs.gift E69 ho (inrows _);refine⟨_,rfl,?_⟩;refine (has81 _ _ _ _ (hs.rows 0 rfl (by omega)) (by have:=bf.len;have:=(Yyn c2).n;omega)).mono ?_;rintro _ h72 ⟨rfl,rfl⟩;refine⟨_,rfl,?_⟩;refine sB_intro (fun c6=>?_) (fun c6=>?_)
      .skip
       refine⟨_,_,_,_,_,_,_,_,hs.at 1 rfl (n:=8) rfl,?_⟩;refine⟨_,hs.rd 1 rfl rfl,?_⟩;refine (spread82 g _ _ _ (hg.ext hs.ext) (Yyn c2) (by have:=(Yyn c2).n;omega) (by have:=(Yyn c2).n;omega)).mono ?_;rintro _ h84 ⟨E84,x83,D2,rfl,ho2,bf2⟩;replace hs:=hs.gift E84 ho2 (inrows _);refine⟨_,rfl,?_⟩;refine (has81 _ _ _ _ (hs.rows 0 rfl (by omega)) (by have:=bf2.len;have:=(Yyn c2).n;omega)).mono ?_;rintro _ h87 ⟨rfl,rfl⟩;refine⟨_,rfl,?_⟩;refine⟨?_,hs.ext⟩;have hN:=(Yyn c2).n;have h1:∀v:Int,0<=v->v<g.n->Rch g.es false g.s v:=by
        intro v h0 h2;apply Classical.byContradiction;intro h3;have h4:(-1:Int)∈D:=bf.all.2 fun hall=>h3 (hall v h0 (by omega));rw[decide_eq_true h4] at c6;cases c6
       by_cases h2:∀v:Int,0<=v->v<g.n->Rch g.es true g.e v
       .have h4:¬((-1:Int)∈D2):=fun hm=>bf2.all.1 hm fun v h0 h3=>h2 v h0 (by omega);rw[decide_eq_false h4,decide_eq_true (show ValidS g from ⟨Yyn c1,Yyn c2,Yyn c3,Yyn c4,Yyn c5,h1,h2⟩)];rfl
       .have h4:(-1:Int)∈D2:=bf2.all.2 fun hall=>h2 fun v h0 h3=>hall v h0 (by omega);rw[decide_eq_true h4,decide_eq_false (fun hG:ValidS g=>h2 hG.bwd)];rfl
      .skip
       exact⟨dF fun hG=>by have h1:=bf.all.1 (by simpa using c6);exact h1 fun v h0 h2=>hG.fwd v h0 (by omega),hs.ext⟩
     .skip
      exact⟨dF fun hG=>Yyo c5 hG.tim,hs.ext⟩
    .skip
     exact⟨dF fun hG=>Yyo c4 hG.ord,hs.ext⟩
   .skip
    exact⟨dF fun hG=>Yyo c3 hG.dcl,hs.ext⟩
  .skip
   exact⟨dF fun hG=>Yyo c2 hG.num,hs.ext⟩
 .skip
  exact⟨dF fun hG=>Yyo c1 hG.nam,hs.ext⟩
end Go.VC
end
