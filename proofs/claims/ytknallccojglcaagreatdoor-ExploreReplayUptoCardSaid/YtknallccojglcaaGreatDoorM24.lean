/- KwSort KuMv KtX0 KtX KtVcH KtY KtVcI KtMa KuJ KuL KwG KwH KwVcD KwI KwJ KwVcE KwVcF KwK KwL KwM KwN KwO KwVcI KwVcK KwQ KwR KwU. -/
import Derived.Test.YtknallccojglcaaGreatDoorM22
import Derived.Test.YtknallccojglcaaGreatDoorM23
set_option linter.unusedVariables false
set_option linter.unusedSimpArgs false
set_option maxRecDepth 100000

section
namespace Go.VC
open Go.Proofs Go.Shelf

end Go.VC
end

section
namespace Go.VC
open Go.LexS
theorem srt_uniq {m:Mch} (hD:DetM m) {s:Int} {O Q:List Nat} (p1:O.Perm (outIx m s)) (s1:O.Pairwise fun a b=>¬evLt (evI m b) (evI m a)) (p2:Q.Perm (outIx m s)) (s2:Q.Pairwise fun a b=>¬evLt (evI m b) (evI m a)):O=Q:=by
 refine List.Perm.eq_of_pairwise (le:=fun a b=>¬evLt (evI m b) (evI m a)) (fun a b ha hb h3 h4=>?_) s1 s2 (p1.trans p2.symm);obtain⟨x,hx,hxf⟩:=outIx_mem.1 (p1.mem_iff.1 ha);obtain⟨y,hy,hyf⟩:=outIx_mem.1 (p2.mem_iff.1 hb);by_cases e:a=b
 ·exact e
 ·have:=(hD a b x y hx hy e (by rw[hxf,hyf])).1;rw[evI_of hx,evI_of hy] at h3 h4;exact absurd (evLt_of h3 this) h4
open Classical in
noncomputable def mvS (m:Mch) (s:Int):List Nat:=if h:∃O:List Nat,O.Perm (outIx m s)/\O.Pairwise fun a b=>¬evLt (evI m b) (evI m a) then Classical.choose h else outIx m s
theorem mvS_eq {m:Mch} (hD:DetM m) {s:Int} {O:List Nat} (p1:O.Perm (outIx m s)) (s1:O.Pairwise fun a b=>¬evLt (evI m b) (evI m a)):mvS m s=O:=by
 unfold mvS;have h:∃O:List Nat,O.Perm (outIx m s)/\O.Pairwise fun a b=>¬evLt (evI m b) (evI m a):=⟨O,p1,s1⟩;rw[dif_pos h];have:=Classical.choose_spec h;exact srt_uniq hD this.1 this.2 p1 s1
theorem evLt_nt {a b c:Ev} (h1:¬evLt b a) (h2:¬evLt c b):¬evLt c a:=fun h=>by
 rcases evLt_tri a b with h3 | h3 | h3
 ·rcases evLt_tri b c with h4 | h4 | h4
  ·exact evLt_irr _ (evLt_trans (evLt_trans h3 h4) h)
  ·subst h4;exact evLt_irr _ (evLt_trans h3 h)
  ·exact h2 h4
 ·subst h3;exact h2 h
 ·exact h1 h3
theorem mvS_srt (m:Mch) (s:Int):(mvS m s).Perm (outIx m s)/\(mvS m s).Pairwise fun a b=>¬evLt (evI m b) (evI m a):=by
 have hex:∃O:List Nat,O.Perm (outIx m s)/\O.Pairwise fun a b=>¬evLt (evI m b) (evI m a):=by
  refine⟨(outIx m s).mergeSort (fun a b=>!decide (evLt (evI m b) (evI m a))),List.mergeSort_perm _ _,?_⟩;have h:=List.pairwise_mergeSort (le:=fun a b=>!decide (evLt (evI m b) (evI m a))) (fun a b c h1 h2=>by
   simp only[Bool.not_eq_true',decide_eq_false_iff_not] at h1 h2 ⊢;exact evLt_nt h1 h2) (fun a b=>by
   simp only[Bool.or_eq_true,Bool.not_eq_true',decide_eq_false_iff_not];rcases evLt_tri (evI m a) (evI m b) with h3 | h3 | h3
   ·exact .inl fun h=>evLt_irr _ (evLt_trans h3 h)
   ·exact .inl fun h=>by rw[h3] at h;exact evLt_irr _ h
   ·exact .inr fun h=>evLt_irr _ (evLt_trans h3 h)) (outIx m s)
  exact h.imp fun h=>by simpa using h
 unfold mvS;rw[dif_pos hex];exact Classical.choose_spec hex
end Go.VC
end

section
namespace Go.VC
def setOf (L:List Nat):PSet:=fun j=>decide (j∈L)
def Can (n:Nat) (L:List Nat):Prop:=L=(List.range n).filter fun j=>decide (j∈L)
theorem Can.mk (n:Nat) (p:Nat->Bool):Can n ((List.range n).filter p):=by
 unfold Can;apply List.filter_congr;intro x hx;by_cases hm:x∈(List.range n).filter p
 ·rw[decide_eq_true hm];exact (List.mem_filter.1 hm).2
 ·rw[decide_eq_false hm];cases hp:p x
  ·rfl
  ·exact absurd (List.mem_filter.2 ⟨hx,hp⟩) hm
theorem Can.lt {n:Nat} {L:List Nat} (h:Can n L):∀j∈L,j<n:=by
 intro j hj;rw[h,List.mem_filter,List.mem_range] at hj;exact hj.1
theorem setOf_inj {n:Nat} {L L':List Nat} (h:Can n L) (h':Can n L'):setOf L=setOf L' ↔ L=L':=by
 constructor
 ·intro e;rw[h,h'];congr 1
 ·intro e;rw[e]
theorem elems_setOf {n:Nat} {L:List Nat} (h:Can n L) (hn:n<=4096):elems (setOf L)=L:=by
 unfold elems;have e:List.range 4096=List.range n++(List.range (4096-n)).map (n + ·):=by rw[<-List.range_add];congr 1;omega
 rw[e,List.filter_append];have e2:((List.range (4096-n)).map (n + ·)).filter (setOf L)=[]:=by
  rw[List.filter_eq_nil_iff];intro x hx;obtain⟨y,_,rfl⟩:=Yp.1 hx;unfold setOf;simp only[decide_eq_true_eq];intro hm;have:=h.lt _ hm;omega
 rw[e2,Yw];exact h.symm
def evsC (es:List Ed) (role:Int) (L:List Nat):List Ev:=sortE (L.flatMap fun n=>(visL es role n).map (·.x))
def toC (es:List Ed) (role:Int) (L:List Nat) (x:Ev):List Int:=L.flatMap fun n=>(visL es role n).filterMap fun a=>if a.x=x then some a.to else none
theorem evs_setOf {n:Nat} {L:List Nat} (h:Can n L) (hn:n<=4096) (es:List Ed) (role:Int):evs es role (setOf L)=evsC es role L:=by unfold evs evL evsC;rw[elems_setOf h hn]
theorem toL_setOf {n:Nat} {L:List Nat} (h:Can n L) (hn:n<=4096) (es:List Ed) (role:Int) (x:Ev):toL es role (setOf L) x=toC es role L x:=by unfold toL toC;rw[elems_setOf h hn]
def addC (es:List Ed) (role:Int) (L:List Nat):List Nat:=es.foldl (fun L x=>if (vis1 role x).isNone&&decide (x.f.toNat∈L) && !decide (x.t.toNat∈L) then L++[x.t.toNat] else L) L
def bfsC (es:List Ed) (role:Int):Nat->List Nat->List Nat
 | 0,L=>L
 | f+1,L=>bfsC es role f (addC es role L)
def okC (es:List Ed) (role:Int) (l:List Int) (L:List Nat):Bool:=
 l.all (fun v=>decide (0<=v)&&decide (v.toNat∈L))&&es.all (fun x=>!(vis1 role x).isNone || !decide (x.f.toNat∈L)||decide (x.t.toNat∈L)) &&
  (List.range L.length).all fun i=>match L[i]? with
   | some j=>l.any (fun v=>decide (v=(j:Int)))||es.any fun x=>(vis1 role x).isNone&&decide (x.f.toNat∈L.take i)&&decide (x.t=(j:Int))
   | none=>false
theorem okC_clo {es:List Ed} {role:Int} {l:List Int} {L:List Nat} (hes:∀x∈es,0<=x.f/\0<=x.t) (h:okC es role l L=true) (j:Nat):clo es role l j=decide (j∈L):=by
 unfold okC at h;simp only[Yt,List.all_eq_true,List.mem_range] at h;obtain⟨⟨h1,h2⟩,h3⟩:=h;have fwd:∀a:Int,Qr es role l a->0<=a/\a.toNat∈L:=by
  intro a ha
  induction ha with
  | base hm=>have:=h1 _ hm;simpa using this
  | step _ hx ih=>
   obtain⟨x,hx,hv,hf,rfl⟩:=hx;refine⟨(hes x hx).2,?_⟩;have:=h2 x hx;simp only[Bool.or_eq_true,Bool.not_eq_true',decide_eq_false_iff_not,decide_eq_true_eq] at this;rcases this with (h4 | h4) | h4
   ·rw[hv] at h4;cases h4
   ·exact absurd (by rw[hf];exact ih.2) h4
   ·exact h4
 have bwd:∀i,i<=L.length->∀j∈L.take i,Qr es role l (j:Int):=by
  intro i
  induction i with
  | zero=>intro _ j hj;rw[Yyk] at hj;cases hj
  | succ i ih=>
   intro hi j hj;obtain⟨y,hy⟩:=get_some (l:=L) (i:=i) (by omega);rw[take_snoc hy,Yk,Ye] at hj;rcases hj with hj | rfl
   ·exact ih (by omega) j hj
   ·have:=h3 i (by omega);rw[hy] at this;simp only[Bool.or_eq_true,List.any_eq_true,decide_eq_true_eq,Yt] at this;rcases this with ⟨v,hv,rfl⟩ | ⟨x,hx,⟨h4,h5⟩,h6⟩
    ·exact .base hv
    ·have hq:=ih (by omega) _ h5;rw[show ((x.f.toNat:Nat):Int)=x.f by have:=hes x hx;omega] at hq;exact .step hq ⟨x,hx,Option.isNone_iff_eq_none.1 h4,rfl,h6⟩
 have hiff:clo es role l j=true ↔ j∈L:=by
  rw[clo_iff];constructor
  ·intro h;have:=(fwd _ h).2;rwa [Ys] at this
  ·intro h;exact bwd L.length (Yyt _) j (by rw[Yye];exact h)
 by_cases hj:j∈L
 ·rw[decide_eq_true hj];exact hiff.2 hj
 ·rw[decide_eq_false hj];cases hc:clo es role l j
  ·rfl
  ·exact absurd (hiff.1 hc) hj
def cloC (es:List Ed) (role:Int) (n:Nat) (l:List Int):Option (List Nat):=
 let L:=bfsC es role n (l.map Int.toNat).eraseDups
 if okC es role l L then some ((List.range n).filter fun j=>decide (j∈L)) else none
theorem cloC_ok {es:List Ed} {role:Int} {n:Nat} {l:List Int} {L:List Nat} (hes:∀x∈es,0<=x.f/\0<=x.t) (hlt:∀j:Nat,clo es role l j=true->j<n) (h:cloC es role n l=some L):Can n L/\clo es role l=setOf L:=by
 unfold cloC at h;simp only at h;split at h
 ·rename_i hk;cases h;refine⟨Can.mk _ _,?_⟩
  funext j
  rw[okC_clo hes hk];unfold setOf;by_cases hj:j∈bfsC es role n (l.map Int.toNat).eraseDups
  ·rw[decide_eq_true hj,decide_eq_true];have:clo es role l j=true:=by rw[okC_clo hes hk,decide_eq_true hj]
   exact List.mem_filter.2 ⟨List.mem_range.2 (hlt j this),decide_eq_true hj⟩
  ·rw[decide_eq_false hj,decide_eq_false];intro hm;exact hj (Yyn (List.mem_filter.1 hm).2)
 ·cases h
def rowCS (S:List (List Nat)) (L:List Nat):List (List Nat):=if L∈S then S else S++[L]
theorem rowI_setOf {n:Nat} {L:List Nat} (hL:Can n L):∀ {S:List (List Nat)},(∀s∈S,Can n s)->rowI (S.map setOf) (setOf L)=idxF S L
 | [],_=>rfl
 | s::S,h=>by
  rw[Yyl,rowI,idxF];have hs:=setOf_inj (h s (Yx ..)) hL;by_cases e:s=L
  ·rw[if_pos (hs.2 e),if_pos e]
  ·rw[if_neg (fun h=>e (hs.1 h)),if_neg e,rowI_setOf hL fun s hs=>h s (Yn _ hs)]
theorem rowS_setOf {n:Nat} {L:List Nat} (hL:Can n L) {S:List (List Nat)} (hS:∀s∈S,Can n s):rowS (S.map setOf) (setOf L)=(rowCS S L).map setOf/\∀s∈rowCS S L,Can n s:=by
 have hiff:setOf L∈S.map setOf ↔ L∈S:=by
  rw[<-rowI_lt,rowI_setOf hL hS,Yc];constructor
  ·intro h;by_cases hm:L∈S
   ·exact hm
   ·rw[idxF_not hm] at h;omega
  ·intro h;exact idxF_lt h
 unfold rowS rowCS;by_cases hm:L∈S
 ·rw[if_pos (hiff.2 hm),if_pos hm];exact⟨rfl,hS⟩
 ·rw[if_neg (fun h=>hm (hiff.1 h)),if_neg hm,Ym];refine⟨rfl,fun s hs=>?_⟩;rcases Yk.1 hs with hs | hs
  ·exact hS s hs
  ·rw[Ye] at hs;rw[hs];exact hL
def arcsC (es:List Ed) (role:Int) (n:Nat) (i:Nat) (L:List Nat):List Ev->List (List Nat)->List Mv->Option (List (List Nat) × List Mv)
 | [],S,M=>some (S,M)
 | x::r,S,M=>match cloC es role n (toC es role L x) with
  | none=>none
  | some T=>arcsC es role n i L r (rowCS S T) (M++[⟨i,x.send,x.peer,x.label,(idxF S T:Nat),false⟩])
theorem arcsC_ok {es:List Ed} {role:Int} {n i:Nat} {L:List Nat} (hn:n<=4096) (hes:∀x∈es,0<=x.f/\0<=x.t) (hlt:∀(x:Ev) (j:Nat),clo es role (toC es role L x) j=true->j<n) (hL:Can n L):∀(l:List Ev) (S:List (List Nat)) (M:List Mv) {S':List (List Nat)} {M':List Mv},(∀s∈S,Can n s)->arcsC es role n i L l S M=some (S',M') ->
  arcsF es role i (setOf L) l (S.map setOf) M=(S'.map setOf,M')/\∀s∈S',Can n s
 | [],S,M,S',M',hS,h=>by cases h;exact⟨rfl,hS⟩
 | x::r,S,M,S',M',hS,h=>by
  rw[arcsC] at h;cases hc:cloC es role n (toC es role L x) with
  | none=>rw[hc] at h;cases h
  | some T=>
   rw[hc] at h;replace h:arcsC es role n i L r (rowCS S T) (M++[⟨i,x.send,x.peer,x.label,(idxF S T:Nat),false⟩])=some (S',M'):=h;obtain⟨h1,h2⟩:=cloC_ok hes (hlt x) hc;have h3:=rowS_setOf h1 hS;have:=arcsC_ok hn hes hlt hL r _ _ h3.2 h;rw[arcsF,toL_setOf hL hn,h2,rowI_setOf h1 hS,h3.1];exact this
def viewsCF (es:List Ed) (role:Int) (n:Nat):Nat->Nat->List (List Nat)->List Mv->Option (Option (List (List Nat) × List Mv))
 | 0,_,_,_=>some none
 | f+1,i,S,M=>match S[i]? with
  | none=>some (some (S,M))
  | some L=>match arcsC es role n i L (evsC es role L) S M with
   | none=>none
   | some (S',M')=>if S'.length>200 then some none else viewsCF es role n f (i+1) S' M'
theorem viewsCF_ok {es:List Ed} {role:Int} {n:Nat} (hn:n<=4096) (hes:∀x∈es,0<=x.f/\0<=x.t) (hlt:∀(L:List Nat) (x:Ev) (j:Nat),clo es role (toC es role L x) j=true->j<n):∀(f i:Nat) (S:List (List Nat)) (M:List Mv) {r:Option (List (List Nat) × List Mv)},(∀s∈S,Can n s)->viewsCF es role n f i S M=some r ->
  viewsF es role f i (S.map setOf) M=r.map (fun q=>(q.1.map setOf,q.2))/\∀q,r=some q->∀s∈q.1,Can n s
 | 0,i,S,M,r,_,h=>by cases h;exact⟨rfl,fun q hq=>by cases hq⟩
 | f+1,i,S,M,r,hS,h=>by
  rw[viewsCF] at h;rw[viewsF,Yd];cases hg:S[i]? with
  | none=>
   rw[hg] at h;cases h;exact⟨rfl,fun q hq=>by cases hq;exact hS⟩
  | some L=>
   rw[hg] at h;have hL:=hS L (Yb hg);cases ha:arcsC es role n i L (evsC es role L) S M with
   | none=>simp only[ha] at h;cases h
   | some q=>
    obtain⟨S',M'⟩:=q;simp only[ha] at h;have h1:=arcsC_ok hn hes (hlt L) hL _ S M hS ha;rw[<-evs_setOf hL hn] at h1;show (if (arcsF es role i (setOf L) (evs es role (setOf L)) (S.map setOf) M).1.length>200 then none else viewsF es role f (i+1) (arcsF es role i (setOf L) (evs es role (setOf L)) (S.map setOf) M).1 (arcsF es role i (setOf L) (evs es role (setOf L)) (S.map setOf) M).2)=_/\_;rw[h1.1];simp only[Yc];split
    ·rename_i hc;rw[if_pos hc] at h;cases h;exact⟨rfl,fun q hq=>by cases hq⟩
    ·rename_i hc;rw[if_neg hc] at h;exact viewsCF_ok hn hes hlt f (i+1) S' M' h1.2 h
theorem viewV_congr {F F':Nat->List Ev} {en en':Nat->Bool} {O:List Bool} {T:List Ti} {l:List Nat} (hF:∀k∈l,F k=F' k) (he:∀k∈l,en k=en' k):viewV F en O T l=viewV F' en' O T l:=by
 have hb:∀k∈l,badV F en l k=badV F' en' l k:=by
  intro k hk;unfold badV;have ha:(l.any fun q=>en q||decide (F k≠F q))=l.any fun q=>en' q||decide (F' k≠F' q):=by
   rw[Bool.eq_iff_iff,List.any_eq_true,List.any_eq_true];constructor
   ·rintro⟨q,hq,h⟩;exact⟨q,hq,by rw[<-he q hq,<-hF q hq,<-hF k hk];exact h⟩
   ·rintro⟨q,hq,h⟩;exact⟨q,hq,by rw[he q hq,hF q hq,hF k hk];exact h⟩
  rw[ha,hF k hk,he k hk]
 unfold viewV;congr 1
 suffices h:∀(m:List Nat) (st:Option (Bool × Ti)),(∀k∈m,k∈l)->m.foldl (stepV F en O T l) st=m.foldl (stepV F' en' O T l) st from h l _ fun k hk=>hk
 intro m
 induction m with
 | nil=>intro st _;rfl
 | cons a m ih=>
  intro st hs;rw[List.foldl_cons,List.foldl_cons];have:stepV F en O T l st a=stepV F' en' O T l st a:=by unfold stepV;rw[hb a (hs a (Yx ..))]
  rw[this];exact ih _ fun k hk=>hs k (Yn _ hk)
def rawLC (vw:List Nat->Option Ti):Nat->List (List Nat)->List Mv->List To->Option (List Mv × List To)
 | _,[],M,L=>some (M,L)
 | n,p::S,M,L=>match vw p with
  | none=>none
  | some x=>rawLC vw (n+1) S (M.map (updR n x)) (L++limR n x M)
theorem rawLC_ok {vw vw':List Nat->Option Ti} {N:Nat} (hN:N<=4096):∀(n:Nat) (S:List (List Nat)) (M:List Mv) (L:List To),(∀s∈S,Can N s/\vw s=vw' s)->rawL vw n (S.map setOf) M L=rawLC vw' n S M L
 | _,[],_,_,_=>rfl
 | n,p::S,M,L,h=>by
  obtain⟨h1,h2⟩:=h p (Yx ..);rw[Yyl,rawL,rawLC,elems_setOf h1 hN,h2];cases vw' p with
  | none=>rfl
  | some x=>exact rawLC_ok hN (n+1) S _ _ fun s hs=>h s (Yn _ hs)
end Go.VC
end

section
namespace Go.VC
open Go.LexS
def fC (g:Gl) (role:Int) (k:Nat):List Ev:=((cloC g.es role g.n.toNat [(k:Int)]).map (evsC g.es role)).getD []
def enC (g:Gl) (role:Int) (k:Nat):Bool:=((cloC g.es role g.n.toNat [(k:Int)]).map fun L=>decide (g.e.toNat∈L)).getD false
def vwC (g:Gl) (role:Int):List Nat->Option Ti:=viewV (fC g role) (enC g role) (ownE g.es role g.n.toNat).1 (ownT g.es g.ts role g.n.toNat)
def rawC (g:Gl) (role:Int):Option (Option Mch × Int):=
 if !(List.range g.n.toNat).all (fun k=>(cloC g.es role g.n.toNat [(k:Int)]).isSome) then none else
 match cloC g.es role g.n.toNat [g.s] with
 | none=>none
 | some L0=>match viewsCF g.es role g.n.toNat 202 0 [L0] [] with
  | none=>none
  | some none=>some (none,6)
  | some (some (S,M))=>if M.length>400 then some (none,6) else
   match rawLC (vwC g role) 0 S M [] with
   | none=>some (none,18)
   | some (M',L')=>some (some ⟨role,S.length,0,S.map (fun L=>decide (g.e.toNat∈L)),M',L'⟩,0)
theorem rawC_ok {g:Gl} {role:Int} {r:Option Mch × Int} (hV:ValidS g) (h0:0<=role) (h1:role<g.rs.length) (h:rawC g role=some r):raw g role=r:=by
 have hN:=hV.num.n;have hn:g.n.toNat<=4096:=by omega
 have hes:∀x∈g.es,0<=x.f/\0<=x.t:=fun x hx=>by have:=hV.num.e x hx;unfold EdS at this;omega
 have hlt:∀(l:List Int),(∀v∈l,0<=v/\v<g.n)->∀j:Nat,clo g.es role l j=true->j<g.n.toNat:=fun l hl j hj=>by have:=clo_lt hV hl j hj;omega
 have hto:∀(L:List Nat) (x:Ev) (j:Nat),clo g.es role (toC g.es role L x) j=true->j<g.n.toNat:=by
  intro L x;refine hlt _ fun v hv=>?_;unfold toC at hv;obtain⟨k,_,h2⟩:=List.mem_flatMap.1 hv;obtain⟨a,ha,h3⟩:=Yym.1 h2;unfold visL at ha;obtain⟨e,he,h4⟩:=Yym.1 ha;have:=hV.num.e e he;unfold EdS at this;split at h4
  ·rw[Yya] at h4;obtain⟨_,_,rfl⟩:=h4;split at h3
   ·cases h3;show 0<=e.t/\e.t<g.n;omega
   ·cases h3
  ·cases h4
 unfold rawC at h;split at h
 ·cases h
 rename_i hall;have hall:∀k,k<g.n.toNat->(cloC g.es role g.n.toNat [(k:Int)]).isSome=true:=by
  intro k hk;have:(List.range g.n.toNat).all (fun k=>(cloC g.es role g.n.toNat [(k:Int)]).isSome)=true:=by
   revert hall
   generalize (List.range g.n.toNat).all (fun k=>(cloC g.es role g.n.toNat [(k:Int)]).isSome)=b;cases b<;>simp
  exact List.all_eq_true.1 this k (List.mem_range.2 hk)
 have hfirst:∀k,k<g.n.toNat->firstE g role (k:Int)=fC g role k/\firstB g role (k:Int)=enC g role k:=by
  intro k hk;obtain⟨L,hL⟩:=Option.isSome_iff_exists.1 (hall k hk);obtain⟨h2,h3⟩:=cloC_ok hes (hlt [(k:Int)] fun v hv=>by rw[Ye] at hv;omega) hL;unfold firstE firstB fC enC;rw[hL,h3,evs_setOf h2 hn];exact⟨rfl,rfl⟩
 cases hc0:cloC g.es role g.n.toNat [g.s] with
 | none=>simp only[hc0] at h;cases h
 | some L0=>
  simp only[hc0] at h;obtain⟨h2,h3⟩:=cloC_ok hes (hlt [g.s] fun v hv=>by rw[Ye] at hv;omega) hc0;cases hv:viewsCF g.es role g.n.toNat 202 0 [L0] [] with
  | none=>simp only[hv] at h;cases h
  | some w=>
   simp only[hv] at h;obtain⟨h4,h5⟩:=viewsCF_ok hn hes hto 202 0 [L0] [] (fun s hs=>by rw[Ye] at hs;rw[hs];exact h2) hv;have h6:views g role=w.map fun q=>(q.1.map setOf,q.2):=by
    unfold views;rw[h3];exact h4
   unfold raw;rw[if_neg (by simpa using ⟨hV,h0,h1⟩),h6];cases w with
   | none=>simpa using h
   | some q=>
    obtain⟨S,M⟩:=q;have hS:=h5 (S,M) rfl;simp only[Option.map_some] at h ⊢;split at h
    ·rename_i hM;rw[if_pos hM];simpa using h
    ·rename_i hM;rw[if_neg hM];rw[rawLC_ok (vw:=vwG g role) (vw':=vwC g role) hn 0 S M [] fun s hs=>⟨hS s hs,viewV_congr (fun k hk=>(hfirst k ((hS s hs).lt k hk)).1) fun k hk=>(hfirst k ((hS s hs).lt k hk)).2⟩];cases hl:rawLC (vwC g role) 0 S M [] with
     | none=>simp only[hl] at h ⊢;simpa using h
     | some q=>
      obtain⟨M',L'⟩:=q;simp only[hl] at h ⊢;rw[<-Yyp h,Yc,List.map_map];rfl
end Go.VC
end

section
namespace Go.VC
open Go.Proofs
variable {h:Heap} {R:Value->Heap->Prop}

def V30a (h91 h3 h:Heap) (R:Value->Heap->Prop):Prop:=
 ∃x92 x93 x94 x95 x96 x97 x98 x99,aL2 h91 (aS h3 0) x92 x93 x94 x95 x96 x97 x98 x99/\Wp h91 (aS h 0) 8 (L2 x92 x93 x94 x95 x96 x97 x98 x99) fun h100=>∃x101 x102 x103 x104 x105 x106 x107 x108,aL2 h100 (aS h 0) x101 x102 x103 x104 x105 x106 x107 x108/\R (.agg ⟨(L2 x101 x102 x103 x104 x105 x106 x107 x108)⟩) h100
def W30 (p0:Bool):Prop:=
 Wn h [.string ⟨#[]⟩,.slice none 0 0,.slice none 0 0,vI 0,vI 0,vI 0,.slice none 0 0,.slice none 0 0] 77 fun h1=>Wn h1 [.string ⟨#[112]⟩,.string ⟨#[113]⟩,.string ⟨#[114]⟩] 9 fun h2=>Wn h2 [.string ⟨#[97]⟩,.slice none 0 0,vI 0,.slice none 0 0,.slice none 0 0,.string ⟨#[98]⟩,.slice none 0 0,vI 0,.slice none 0 0,.slice none 0 0,.string ⟨#[99]⟩,.slice none 0 0,vI 0,.slice none 0 0,.slice none 0 0,.string ⟨#[100]⟩,.slice none 0 0,vI 0,.slice none 0 0,.slice none 0 0] 143 fun h3=>Wn h3 [.string ⟨#[]⟩,.slice none 0 0,.slice none 0 0,vI 0,vI 0,vI 0,.slice none 0 0,.slice none 0 0] 77 fun h4=>Wp h4 (aS h3 0) 8 [.string ⟨#[101]⟩,.slice (some (aS h1 0)) 3 3,.slice (some (aS h2 0)) 4 4,vI 4,vI 0,vI 3,.slice none 0 0,.slice none 0 0] fun h5=>Fn Pz 63 #[vI 0,vI 0,vI 1,vI 0,vI 1] h5 (fun v6 h13=>∃(x7 x8 x9 x10 x11:Int) (x12:Bool),v6=.agg ⟨(L5 x7 x8 x9 x10 x11 x12)⟩/\Fn Pz 63 #[vI 0,vI 0,vI 1,vI 1,vI 2] h13 (fun v14 h21=>∃(x15 x16 x17 x18 x19:Int) (x20:Bool),v14=.agg ⟨(L5 x15 x16 x17 x18 x19 x20)⟩/\Fn Pz 63 #[vI 1,vI 2,vI 1,vI 2,vI 3] h21 (fun v22 h29=>∃(x23 x24 x25 x26 x27:Int) (x28:Bool),v22=.agg ⟨(L5 x23 x24 x25 x26 x27 x28)⟩/\Fn Pz 63 #[vI 2,vI 2,vI 1,vI 3,vI 3] h29 (fun v30 h37=>∃(x31 x32 x33 x34 x35:Int) (x36:Bool),v30=.agg ⟨(L5 x31 x32 x33 x34 x35 x36)⟩/\Wn h37 [vI x7,vI x8,vI x9,vI x10,vI x11,.bool x12,vI x15,vI x16,vI x17,vI x18,vI x19,.bool x20,vI x23,vI x24,vI x25,vI x26,vI x27,.bool x28,vI x31,vI x32,vI x33,vI x34,vI x35,.bool x36] 135 fun h38=>Wp h38 (aS h3 6) 1 [.slice (some (aS h37 0)) 4 4] fun h39=>sB p0 (Wp h39 (aS h3 3) 1 [vI 6] fun h40=>Wp h40 (aS h3 5) 1 [vI 5] fun h41=>Fn Pz 63 #[vI 0,vI 0,vI 1,vI 0,vI 1] h41 (fun v42 h49=>∃(x43 x44 x45 x46 x47:Int) (x48:Bool),v42=.agg ⟨(L5 x43 x44 x45 x46 x47 x48)⟩/\Fn Pz 63 #[vI 0,vI 0,vI 1,vI 1,vI 2] h49 (fun v50 h57=>∃(x51 x52 x53 x54 x55:Int) (x56:Bool),v50=.agg ⟨(L5 x51 x52 x53 x54 x55 x56)⟩/\Fn Pz 63 #[vI 1,vI 1,vI 2,vI 0,vI 3] h57 (fun v58 h65=>∃(x59 x60 x61 x62 x63:Int) (x64:Bool),v58=.agg ⟨(L5 x59 x60 x61 x62 x63 x64)⟩/\Fn Pz 63 #[vI 2,vI 1,vI 2,vI 1,vI 4] h65 (fun v66 h73=>∃(x67 x68 x69 x70 x71:Int) (x72:Bool),v66=.agg ⟨(L5 x67 x68 x69 x70 x71 x72)⟩/\Fn Pz 63 #[vI 3,vI 2,vI 1,vI 2,vI 5] h73 (fun v74 h81=>∃(x75 x76 x77 x78 x79:Int) (x80:Bool),v74=.agg ⟨(L5 x75 x76 x77 x78 x79 x80)⟩/\Fn Pz 63 #[vI 4,vI 2,vI 1,vI 3,vI 5] h81 (fun v82 h89=>∃(x83 x84 x85 x86 x87:Int) (x88:Bool),v82=.agg ⟨(L5 x83 x84 x85 x86 x87 x88)⟩/\Wn h89 [vI x43,vI x44,vI x45,vI x46,vI x47,.bool x48,vI x51,vI x52,vI x53,vI x54,vI x55,.bool x56,vI x59,vI x60,vI x61,vI x62,vI x63,.bool x64,vI x67,vI x68,vI x69,vI x70,vI x71,.bool x72,vI x75,vI x76,vI x77,vI x78,vI x79,.bool x80,vI x83,vI x84,vI x85,vI x86,vI x87,.bool x88] 135 fun h90=>Wp h90 (aS h3 6) 1 [.slice (some (aS h89 0)) 6 6] fun h91=>V30a h91 h3 h R))))))) (V30a h39 h3 h R)))))
theorem vc30 (p0:Bool) (H:@W30 h R p0):Fn Pz 30 #[.bool p0] h R:=fnI (A:=.z) (by kernel_rfl) H

def W63 (p0 p1 p2 p3 p4:Int):Prop:=
 Wn h [vI 0,vI 0,vI 0,vI 0,vI 0,.bool false] 135 fun h1=>
 Wp h1 (aS h 0) 6 [vI p0,vI p1,vI p2,vI p3,vI p4,.bool false] fun h2=>
 ∃x3 x4 x5 x6 x7 x8,aL5 h2 (aS h 0) x3 x4 x5 x6 x7 x8 /\
 R (.agg ⟨(L5 x3 x4 x5 x6 x7 x8)⟩) h2
theorem vc63 (p0 p1 p2 p3 p4:Int) (H:@W63 h R p0 p1 p2 p3 p4):Fn Pz 63 #[vI p0,vI p1,vI p2,vI p3,vI p4] h R:=fnI (A:=.z) (by kernel_rfl) H

end Go.VC
end

section
namespace Go.VC
open Go.Proofs Go.LexS
def exD (x:Nm):Dc:=⟨x,⟨none,0,0⟩,0,⟨none,0,0⟩,⟨none,0,0⟩,[],[],[]⟩
def exEs:Bool->List Ed
 | true=>[⟨0,0,1,0,1,false⟩,⟨0,0,1,1,2,false⟩,⟨1,1,2,0,3,false⟩,⟨2,1,2,1,4,false⟩,⟨3,2,1,2,5,false⟩,⟨4,2,1,3,5,false⟩]
 | false=>[⟨0,0,1,0,1,false⟩,⟨0,0,1,1,2,false⟩,⟨1,2,1,2,3,false⟩,⟨2,2,1,3,3,false⟩]
def exGl (b:Bool) (hr hd he ht:Sl):Gl:=⟨[101],hr,hd,if b then 6 else 4,0,if b then 5 else 3,he,ht,[[112],[113],[114]],[exD [97],exD [98],exD [99],exD [100]],exEs b,[]⟩
theorem edge70 (p0 p1 p2 p3 p4:Int) (h:Heap):Fn Pz 63 #[.int .i64 p0,.int .i64 p1,.int .i64 p2,.int .i64 p3,.int .i64 p4] h fun v h'=>v=.agg ⟨Ed.cs ⟨p0,p1,p2,p3,p4,false⟩⟩/\Ext h h':=by
 apply vc63;unfold W63;have hs:=St.refl h;refine hs.newput (vs:=Ed.cs ⟨p0,p1,p2,p3,p4,false⟩) rfl rfl fun h2 hs=>?_;exact⟨_,_,_,_,_,_,hs.at 0 rfl (n:=6) rfl,rfl,hs.ext⟩
theorem RL.none_ {α:Type} {h:Heap} {k:Nat} {cs:α->List Value}:RL h k ⟨none,0,0⟩ cs []:=⟨Rw.nil,Yyt _,fun _=>⟨rfl,rfl⟩,Nat.zero_le _⟩
theorem St.rl {α:Type} {h0 h:Heap} {L:List It} (hs:St h0 h L) (k:Nat) {s:Sl} {e:TypeId} {n:Nat} {cs:α->List Value} {l:List α} (hk:L[k]?=some (.sl s e n (l.map cs))) (hn:0<n) (hl:l.length<=1048576):RL h n s cs l:=by
 have:=hs.len k hk hn;exact⟨hs.rows k hk hn,this.2.1,this.2.2,hl⟩
theorem nmrows (L:List Nm):∀r∈L.map nmC,r.length=1:=fun r hr=>by obtain⟨x,_,rfl⟩:=Yp.1 hr;rfl
theorem dcrows (L:List Dc):∀r∈L.map Dc.cs,r.length=5:=fun r hr=>by obtain⟨x,_,rfl⟩:=Yp.1 hr;rfl
theorem edrows (L:List Ed):∀r∈L.map Ed.cs,r.length=6:=fun r hr=>by obtain⟨x,_,rfl⟩:=Yp.1 hr;rfl
set_option maxHeartbeats 1000000 in
theorem example34 (b:Bool) (h:Heap):Fn Pz 30 #[.bool b] h fun v h'=>Ext h h'/\∃hr hd he:Sl,v=(exGl b hr hd he ⟨none,0,0⟩).v/\GI h' (exGl b hr hd he ⟨none,0,0⟩):=by
 apply vc30;unfold W30 V30a;have hs:=St.refl h;refine hs.newb fun h1 hs=>?_;refine hs.newb fun h2 hs=>?_;have hs:=hs.blkS 3 1 ([[112],[113],[114]].map nmC) rfl (nmrows _) rfl (by decide);refine hs.newb fun h3 hs=>?_;have hs:=hs.blkS 4 5 ([exD [97],exD [98],exD [99],exD [100]].map Dc.cs) rfl (dcrows _) rfl (by decide);refine hs.newput (vs:=[.string (bs [101]),.slice (some ⟨h1.size,0,none⟩) 3 3,.slice (some ⟨h2.size,0,none⟩) 4 4,.int .i64 4,.int .i64 0,.int .i64 3,.slice none 0 0,.slice none 0 0]) rfl rfl fun h5 hs=>?_;refine (edge70 _ _ _ _ _ _).mono ?_;rintro _ _ ⟨rfl,E⟩;replace hs:=hs.step E;clear E;refine⟨_,_,_,_,_,_,rfl,?_⟩;refine (edge70 _ _ _ _ _ _).mono ?_;rintro _ _ ⟨rfl,E⟩;replace hs:=hs.step E;clear E;refine⟨_,_,_,_,_,_,rfl,?_⟩;refine (edge70 _ _ _ _ _ _).mono ?_;rintro _ _ ⟨rfl,E⟩;replace hs:=hs.step E;clear E;refine⟨_,_,_,_,_,_,rfl,?_⟩;refine (edge70 _ _ _ _ _ _).mono ?_;rintro _ _ ⟨rfl,E⟩;replace hs:=hs.step E;clear E;refine⟨_,_,_,_,_,_,rfl,?_⟩;refine hs.newb fun h38 hs=>?_;have hs:=hs.blkS 4 6 ((exEs false).map Ed.cs) rfl (edrows _) rfl (by decide);refine hs.put 1 rfl (o:=6) (vs:=[.slice (some ⟨_,0,none⟩) 4 4]) rfl (show 7<=8 by decide) fun h39 hs=>?_;cases b
 ·refine sB_f rfl ?_;refine⟨_,⟨some ⟨h1.size,0,none⟩,3,3⟩,⟨some ⟨h2.size,0,none⟩,4,4⟩,_,_,_,⟨some ⟨_,0,none⟩,4,4⟩,⟨none,0,0⟩,hs.at 1 rfl (n:=8) rfl,?_⟩;refine hs.put 4 rfl (o:=0) (vs:=(exGl false ⟨some ⟨h1.size,0,none⟩,3,3⟩ ⟨some ⟨h2.size,0,none⟩,4,4⟩ ⟨some ⟨_,0,none⟩,4,4⟩ ⟨none,0,0⟩).cs) rfl (show 8<=8 by decide) fun h117 hs=>?_;refine⟨_,⟨some ⟨h1.size,0,none⟩,3,3⟩,⟨some ⟨h2.size,0,none⟩,4,4⟩,_,_,_,⟨some ⟨_,0,none⟩,4,4⟩,⟨none,0,0⟩,hs.at 4 rfl (n:=8) rfl,hs.ext,_,_,_,rfl,?_⟩;refine⟨hs.rl 3 rfl (by decide) (show 3<=1048576 by decide),⟨hs.rl 2 rfl (by decide) (show 4<=1048576 by decide),fun d hd=>?_⟩,hs.rl 0 rfl (by decide) (show 4<=1048576 by decide),RL.none_⟩;have hd:d∈[exD [97],exD [98],exD [99],exD [100]]:=hd;simp only[Yr,List.not_mem_nil,or_false] at hd;rcases hd with rfl | rfl | rfl | rfl<;>exact⟨RL.none_,RL.none_,RL.none_⟩
 ·refine sB_t rfl ?_;refine hs.put 1 rfl (o:=3) (vs:=[.int .i64 6]) rfl (show 4<=8 by decide) fun h40 hs=>?_;refine hs.put 1 rfl (o:=5) (vs:=[.int .i64 5]) rfl (show 6<=8 by decide) fun h41 hs=>?_;refine (edge70 _ _ _ _ _ _).mono ?_;rintro _ _ ⟨rfl,E⟩;replace hs:=hs.step E;clear E;refine⟨_,_,_,_,_,_,rfl,?_⟩;refine (edge70 _ _ _ _ _ _).mono ?_;rintro _ _ ⟨rfl,E⟩;replace hs:=hs.step E;clear E;refine⟨_,_,_,_,_,_,rfl,?_⟩;refine (edge70 _ _ _ _ _ _).mono ?_;rintro _ _ ⟨rfl,E⟩;replace hs:=hs.step E;clear E;refine⟨_,_,_,_,_,_,rfl,?_⟩;refine (edge70 _ _ _ _ _ _).mono ?_;rintro _ _ ⟨rfl,E⟩;replace hs:=hs.step E;clear E;refine⟨_,_,_,_,_,_,rfl,?_⟩;refine (edge70 _ _ _ _ _ _).mono ?_;rintro _ _ ⟨rfl,E⟩;replace hs:=hs.step E;clear E;refine⟨_,_,_,_,_,_,rfl,?_⟩;refine (edge70 _ _ _ _ _ _).mono ?_;rintro _ _ ⟨rfl,E⟩;replace hs:=hs.step E;clear E;refine⟨_,_,_,_,_,_,rfl,?_⟩;refine hs.newb fun h90 hs=>?_;have hs:=hs.blkS 6 6 ((exEs true).map Ed.cs) rfl (edrows _) rfl (by decide);refine hs.put 2 rfl (o:=6) (vs:=[.slice (some ⟨_,0,none⟩) 6 6]) rfl (show 7<=8 by decide) fun h91 hs=>?_;refine⟨_,⟨some ⟨h1.size,0,none⟩,3,3⟩,⟨some ⟨h2.size,0,none⟩,4,4⟩,_,_,_,⟨some ⟨_,0,none⟩,6,6⟩,⟨none,0,0⟩,hs.at 2 rfl (n:=8) rfl,?_⟩;refine hs.put 5 rfl (o:=0) (vs:=(exGl true ⟨some ⟨h1.size,0,none⟩,3,3⟩ ⟨some ⟨h2.size,0,none⟩,4,4⟩ ⟨some ⟨_,0,none⟩,6,6⟩ ⟨none,0,0⟩).cs) rfl (show 8<=8 by decide) fun h117 hs=>?_;refine⟨_,⟨some ⟨h1.size,0,none⟩,3,3⟩,⟨some ⟨h2.size,0,none⟩,4,4⟩,_,_,_,⟨some ⟨_,0,none⟩,6,6⟩,⟨none,0,0⟩,hs.at 5 rfl (n:=8) rfl,hs.ext,_,_,_,rfl,?_⟩;refine⟨hs.rl 4 rfl (by decide) (show 3<=1048576 by decide),⟨hs.rl 3 rfl (by decide) (show 4<=1048576 by decide),fun d hd=>?_⟩,hs.rl 0 rfl (by decide) (show 6<=1048576 by decide),RL.none_⟩;have hd:d∈[exD [97],exD [98],exD [99],exD [100]]:=hd;simp only[Yr,List.not_mem_nil,or_false] at hd;rcases hd with rfl | rfl | rfl | rfl<;>exact⟨RL.none_,RL.none_,RL.none_⟩

deriving instance DecidableEq for Ed
theorem ex_valid (b:Bool) (hr hd he ht:Sl):ValidS (exGl b hr hd he ht):=by
 have hrs:(exGl b hr hd he ht).rs=[[112],[113],[114]]:=rfl;have hds:(exGl b hr hd he ht).ds=[exD [97],exD [98],exD [99],exD [100]]:=rfl;have hes:(exGl b hr hd he ht).es=exEs b:=rfl;have hall:allF [exD [97],exD [98],exD [99],exD [100]]=[]:=rfl;have get3:∀ {α:Type} {P:Nat->α->Prop} {l:List α},(∀i (hi:i<l.length),P i l[i])->∀i x,l[i]?=some x->P i x:=by
  intro α P l h i x hx;obtain⟨h1,h2⟩:=Ya.1 hx;rw[<-h2];exact h i h1
 refine⟨⟨by rfl,by rw[hrs];decide,by rw[hrs];decide,?_⟩,⟨?_,?_,?_⟩,?_,⟨?_,?_,?_⟩,?_,?_,?_⟩
 ·rw[hrs];refine get3 (P:=fun i s=>isWord s=true/\s∉List.take i [[112],[113],[114]]) fun i hi=>?_;have hi:i<3:=hi
  match i,hi with
  | 0,_=>exact Yyn rfl
  | 1,_=>exact Yyn rfl
  | 2,_=>exact Yyn rfl
 ·cases b<;>exact⟨Yyn rfl,Yyn rfl,Yyn rfl,Yyn rfl,Yyn rfl,Yyn rfl⟩
 ·rw[hes];cases b<;>decide
 ·rw[hes];unfold EdS;rw[hrs,hds];cases b
  ·show ∀x∈exEs false,0<=x.f/\0<=x.t/\0<=x.a/\0<=x.b/\0<=x.l/\x.f<4/\x.t<4/\x.a<((3:Nat):Int)/\x.b<((3:Nat):Int)/\x.a≠x.b/\x.l<((4:Nat):Int);decide
  ·show ∀x∈exEs true,0<=x.f/\0<=x.t/\0<=x.a/\0<=x.b/\0<=x.l/\x.f<6/\x.t<6/\x.a<((3:Nat):Int)/\x.b<((3:Nat):Int)/\x.a≠x.b/\x.l<((4:Nat):Int);decide
 ·rw[hds];refine⟨by decide,by rw[hall];decide,?_⟩;refine get3 (P:=fun i d=>DcS [exD [97],exD [98],exD [99],exD [100]] i d) fun i hi=>?_;have hi:i<4:=hi;have hg:GuardS [] [] []:=⟨by decide,by decide,fun x hx=>(by cases hx),fun x hx=>(by cases hx)⟩
  match i,hi with
  | 0,_=>exact⟨by rfl,Yyn rfl,Yyn rfl,by rfl,fun k f hf=>(by cases hf),by rw[hall];exact hg⟩
  | 1,_=>exact⟨by rfl,Yyn rfl,Yyn rfl,by rfl,fun k f hf=>(by cases hf),by rw[hall];exact hg⟩
  | 2,_=>exact⟨by rfl,Yyn rfl,Yyn rfl,by rfl,fun k f hf=>(by cases hf),by rw[hall];exact hg⟩
  | 3,_=>exact⟨by rfl,Yyn rfl,Yyn rfl,by rfl,fun k f hf=>(by cases hf),by rw[hall];exact hg⟩
 ·rw[hes];cases b
  ·show ∀x∈exEs false,x.f≠3;decide
  ·show ∀x∈exEs true,x.f≠5;decide
 ·rw[hes];cases b
  ·show ∀x∈exEs false,x.ag=true->x.f≠0;decide
  ·show ∀x∈exEs true,x.ag=true->x.f≠0;decide
 ·rw[hes];have key:((exEs b).zipIdx.all fun p=>(exEs b).zipIdx.all fun q=>!decide ((p.2≠q.2/\p.1.f=q.1.f/\((p.1.a=q.1.a/\p.1.b=q.1.b/\p.1.l=q.1.l)\/p.1.a≠q.1.a\/p.1.ag=true))\/(p.1.ag=true/\q.1.t=p.1.f/\(p.1.a≠q.1.a\/p.1.l≠q.1.l))))=true:=by
   cases b<;>decide
  intro i x hx k y hy hbad;have h1:=List.all_eq_true.1 key (x,i) (Yf.2 ⟨i,by rw[List.getElem?_zipIdx,hx];simp⟩);have h2:=List.all_eq_true.1 h1 (y,k) (Yf.2 ⟨k,by rw[List.getElem?_zipIdx,hy];simp⟩);have h3:=Yyo (Bool.not_eq_true' _ ▸ h2);exact h3 hbad
 ·intro i t ht;exact absurd ht (by show ([]:List To)[i]?≠some t;simp)
 ·intro v h0 h1;rw[hes];cases b
  ·have h1:v<4:=h1;show Rch (exEs false) false 0 v;have s0:Rch (exEs false) false 0 0:=.refl;have s1:Rch (exEs false) false 0 1:=.step s0 ⟨⟨0,0,1,0,1,false⟩,by decide,rfl,rfl⟩;have s2:Rch (exEs false) false 0 2:=.step s0 ⟨⟨0,0,1,1,2,false⟩,by decide,rfl,rfl⟩;have s3:Rch (exEs false) false 0 3:=.step s1 ⟨⟨1,2,1,2,3,false⟩,by decide,rfl,rfl⟩;have:v=0\/v=1\/v=2\/v=3:=by omega
   rcases this with rfl | rfl | rfl | rfl<;>assumption
  ·have h1:v<6:=h1;show Rch (exEs true) false 0 v;have s0:Rch (exEs true) false 0 0:=.refl;have s1:Rch (exEs true) false 0 1:=.step s0 ⟨⟨0,0,1,0,1,false⟩,by decide,rfl,rfl⟩;have s2:Rch (exEs true) false 0 2:=.step s0 ⟨⟨0,0,1,1,2,false⟩,by decide,rfl,rfl⟩;have s3:Rch (exEs true) false 0 3:=.step s1 ⟨⟨1,1,2,0,3,false⟩,by decide,rfl,rfl⟩;have s4:Rch (exEs true) false 0 4:=.step s2 ⟨⟨2,1,2,1,4,false⟩,by decide,rfl,rfl⟩;have s5:Rch (exEs true) false 0 5:=.step s3 ⟨⟨3,2,1,2,5,false⟩,by decide,rfl,rfl⟩;have:v=0\/v=1\/v=2\/v=3\/v=4\/v=5:=by omega
   rcases this with rfl | rfl | rfl | rfl | rfl | rfl<;>assumption
 ·intro v h0 h1;rw[hes];cases b
  ·have h1:v<4:=h1;show Rch (exEs false) true 3 v;have s3:Rch (exEs false) true 3 3:=.refl;have s1:Rch (exEs false) true 3 1:=.step s3 ⟨⟨1,2,1,2,3,false⟩,by decide,rfl,rfl⟩;have s2:Rch (exEs false) true 3 2:=.step s3 ⟨⟨2,2,1,3,3,false⟩,by decide,rfl,rfl⟩;have s0:Rch (exEs false) true 3 0:=.step s1 ⟨⟨0,0,1,0,1,false⟩,by decide,rfl,rfl⟩;have:v=0\/v=1\/v=2\/v=3:=by omega
   rcases this with rfl | rfl | rfl | rfl<;>assumption
  ·have h1:v<6:=h1;show Rch (exEs true) true 5 v;have s5:Rch (exEs true) true 5 5:=.refl;have s3:Rch (exEs true) true 5 3:=.step s5 ⟨⟨3,2,1,2,5,false⟩,by decide,rfl,rfl⟩;have s4:Rch (exEs true) true 5 4:=.step s5 ⟨⟨4,2,1,3,5,false⟩,by decide,rfl,rfl⟩;have s1:Rch (exEs true) true 5 1:=.step s3 ⟨⟨1,1,2,0,3,false⟩,by decide,rfl,rfl⟩;have s2:Rch (exEs true) true 5 2:=.step s4 ⟨⟨2,1,2,1,4,false⟩,by decide,rfl,rfl⟩;have s0:Rch (exEs true) true 5 0:=.step s1 ⟨⟨0,0,1,0,1,false⟩,by decide,rfl,rfl⟩;have:v=0\/v=1\/v=2\/v=3\/v=4\/v=5:=by omega
   rcases this with rfl | rfl | rfl | rfl | rfl | rfl<;>assumption
end Go.VC
end

section
namespace Go.VC
open Go.Proofs

end Go.VC
end

section
namespace Go.VC
open Go.Proofs Go.LexS

end Go.VC
end

section
namespace Go.VC

end Go.VC
end

section
namespace Go.VC
open Go.Proofs Go.LexS
namespace M
theorem intrw {h:Heap} {s:Sl} {L:List Int} (hr:Rw h 1 s (L.map inC)) (hc:s.n<=s.c) {i:Nat} (hi:i<=s.n):Rw h 1 ⟨subA s.a i s.c 1,s.n-i,s.c-i⟩ ((L.drop i).map inC):=by
 have hn:=hr.ln;rw[List.map_drop];by_cases h0:i=s.n
 ·rw[List.drop_eq_nil_of_le (by rw[Yc];omega)];exact Rw.empty (by show s.n-i=0;omega)
 ·exact hr.from hc (by omega)
theorem subA_nil {s:Sl} {i:Nat} (hna:s.a=none->s.n=0/\s.c=0) (h:subA s.a i s.c 1=none):s.n-i=0/\s.c-i=0:=by
 unfold subA at h;split at h
 ·have:=hna h;omega
 ·cases ha:s.a with
  | none=>have:=hna ha;omega
  | some a=>rw[ha] at h;cases h
end M
end Go.VC
end

section
namespace Go.VC
open Go.Proofs Go.LexS
def mv0:Mv:=⟨0,false,0,0,0,false⟩
def mvD (m:Mch) (i:Nat):Mv:=m.mv.getD i mv0
theorem mvD_of {m:Mch} {i:Nat} {x:Mv} (h:m.mv[i]?=some x):mvD m i=x:=getD_some h
def posB (n:Nat) (k:Int) (S:List Int) (BL:List (List Int)) (p:Nat) (m:Mch) (i:Nat):Bool:=decide (canS n k S BL p (mvD m i)=0)
noncomputable def stepsP (n:Nat) (k:Int) (S:List Int) (BL:List (List Int)) (p:Nat) (m:Mch):List Nat:=(mvS m (S.getD p 0)).filter (posB n k S BL p m)
def stpC (q:Nat × Nat):List Value:=stC (q.1:Int) q.2
noncomputable def stepsR (n:Nat) (k:Int) (S:List Int) (BL:List (List Int)) (L:List Mch) (p:Nat):List (Nat × Nat):=match L[p]? with
 | some m=>(stepsP n k S BL p m).map fun i=>(p,i)
 | none=>[]
noncomputable def stepsS (L:List Mch) (k:Int) (S:List Int) (BL:List (List Int)):List (Nat × Nat):=(List.range L.length).flatMap (stepsR L.length k S BL L)
theorem posB_f {n:Nat} {k:Int} {S:List Int} {BL:List (List Int)} {p:Nat} {m:Mch} {i:Nat} (h:posB n k S BL p m i=true):(mvD m i).f=S.getD p 0:=by
 have h:=Yyn h;unfold canS at h;split at h
 ·omega
 ·rename_i c;exact Classical.not_not.1 c
theorem pos_ix {n:Nat} {k:Int} {S:List Int} {BL:List (List Int)} {p:Nat} {m:Mch}:(List.range m.mv.length).filter (posB n k S BL p m)=(outIx m (S.getD p 0)).filter (posB n k S BL p m):=by
 unfold outIx;rw[List.filter_filter];refine List.filter_congr fun i hi=>?_;obtain⟨x,hx⟩:=get_some (l:=m.mv) (i:=i) (List.mem_range.1 hi);cases hp:posB n k S BL p m i with
 | false=>rfl
 | true=>
  have hf:=posB_f hp;rw[mvD_of hx] at hf;show true=(true&&outP m _ i);unfold outP;rw[hx];show true=(true&&decide (x.f=_));rw[hf];simp
theorem steps_uniq {n:Nat} {k:Int} {S:List Int} {BL:List (List Int)} {p:Nat} {m:Mch} (hD:DetM m) {O:List Nat} (h1:O.Perm ((List.range m.mv.length).filter (posB n k S BL p m))) (h2:O.Pairwise fun a b=>¬evLt (evI m b) (evI m a)):O=stepsP n k S BL p m:=by
 obtain⟨s1,s2⟩:=mvS_srt m (S.getD p 0);rw[pos_ix] at h1;unfold stepsP;have h3:=(s1.filter (posB n k S BL p m)).symm;refine List.Perm.eq_of_pairwise (le:=fun a b=>¬evLt (evI m b) (evI m a)) (fun a b ha hb h3 h4=>?_) h2 (s2.sublist List.filter_sublist) (h1.trans h3);have ha':=(List.mem_filter.1 (h1.mem_iff.1 ha)).1;have hb':=s1.mem_iff.1 (List.mem_filter.1 hb).1;obtain⟨x,hx,hxf⟩:=outIx_mem.1 ha';obtain⟨y,hy,hyf⟩:=outIx_mem.1 hb';by_cases e:a=b
 ·exact e
 ·have:=(hD a b x y hx hy e (by rw[hxf,hyf])).1;rw[evI_of hx,evI_of hy] at h3 h4;exact absurd (evLt_of h3 this) h4
theorem stepsP_len {n:Nat} {k:Int} {S:List Int} {BL:List (List Int)} {p:Nat} {m:Mch}:(stepsP n k S BL p m).length<=m.mv.length:=by
 unfold stepsP;refine Yys (List.length_filter_le _ _) ?_;rw[(mvS_srt m (S.getD p 0)).1.length_eq];unfold outIx;refine Yys (List.length_filter_le _ _) ?_;rw[Yyd];exact Yyt _
theorem stepsR_len {n:Nat} {k:Int} {S:List Int} {BL:List (List Int)} {L:List Mch} (hV:SysV L) (p:Nat):(stepsR n k S BL L p).length<=400:=by
 unfold stepsR;cases h:L[p]? with
 | none=>exact Nat.zero_le _
 | some m=>
  show (List.map _ _).length<=400;rw[Yc];exact Yys stepsP_len (hV.m p m h).2.1.n.ml
theorem steps_len {n:Nat} {k:Int} {S:List Int} {BL:List (List Int)} {L:List Mch} (hV:SysV L):∀i,((List.range i).flatMap (stepsR n k S BL L)).length<=i*400
 | 0=>Nat.zero_le _
 | i+1=>by
  have h1:=steps_len (n:=n) (k:=k) (S:=S) (BL:=BL) hV i;have h2:=stepsR_len (n:=n) (k:=k) (S:=S) (BL:=BL) hV i;rw[List.range_succ,List.flatMap_append,Yh,List.flatMap_cons,List.flatMap_nil,Yw];omega

end Go.VC
end

section
namespace Go.VC
open Go.Proofs
variable {h:Heap} {R:Value->Heap->Prop}

def W29 (p0_1:ByteArray) (p0_2 p0_3:Sl) (p0_4 p0_5 p0_6:Int) (p0_7 p0_8:Sl):Prop:=
 Wn h (L2 p0_1 p0_2 p0_3 p0_4 p0_5 p0_6 p0_7 p0_8) 77 fun h9=>
 ∃x10 x11 x12 x13 x14 x15 x16 x17,aL2 h9 (aS h 0) x10 x11 x12 x13 x14 x15 x16 x17 /\
 Fn Pz 61 #[.agg ⟨(L2 x10 x11 x12 x13 x14 x15 x16 x17)⟩] h9
 (fun v18 h20=>∃x19,iB v18 x19 /\
 sB (!x19)
 (R (.tuple ⟨[.slice none 0 0,vI 1]⟩) h20)
 (∃x21,rS h20 (aS h 1) x21 /\
 QSI ⟨none,0,0⟩ 0 h20 fun I22 out_25 x_26 h27 m24=>
 sB (decide (x_26<(x21.n:Int)))
 (∃x28 x29 x30 x31 x32 x33 x34 x35,aL2 h27 (aS h 0) x28 x29 x30 x31 x32 x33 x34 x35 /\
 Fn Pz 62 #[.agg ⟨(L2 x28 x29 x30 x31 x32 x33 x34 x35)⟩,vI x_26] h27
 (fun v36 h44=>∃(x37 x38 x39:Int) (x40 x41 x42:Sl) (x43:Int),v36=.tuple ⟨[.agg ⟨(L1 x37 x38 x39 x40 x41 x42)⟩,vI x43]⟩ /\
 Wn h44 [vI 0,vI 0,vI 0,.slice none 0 0,.slice none 0 0,.slice none 0 0] 88 fun h45=>
 Wp h45 (aS h44 0) 6 (L1 x37 x38 x39 x40 x41 x42) fun h46=>
 sB (x43 != 0)
 (R (.tuple ⟨[.slice none 0 0,vI x43]⟩) h46)
 (∃x47 x48 x49 x50 x51 x52,aL1 h46 (aS h44 0) x47 x48 x49 x50 x51 x52 /\
 Wn h46 (L1 x47 x48 x49 x50 x51 x52) 88 fun h53=>
 App Pz 22 22 (vS out_25) (.slice (some (aS h46 0)) 1 1) h53 fun s54 h55=>
 ∃m56,m56<m24/\I22 s54 (IntKind.wrap .i64 (x_26+1)) h55 m56)))
 (R (.tuple ⟨[vS out_25,vI 0]⟩) h27)))
theorem vc29 (p0_1:ByteArray) (p0_2 p0_3:Sl) (p0_4 p0_5 p0_6:Int) (p0_7 p0_8:Sl) (H:@W29 h R p0_1 p0_2 p0_3 p0_4 p0_5 p0_6 p0_7 p0_8):Fn Pz 29 #[.agg ⟨(L2 p0_1 p0_2 p0_3 p0_4 p0_5 p0_6 p0_7 p0_8)⟩] h R:=fnI (A:=(.s .z (.s .z (.s .z (.s (.s .z (.b (.l [(4,.one (.slice)),(14,.one (.int .i64))] .z))) .z))))) (by kernel_rfl) H

end Go.VC
end

section
namespace Go.VC
open Go.Proofs Go.LexS
def StaV (L:List Mch) (h:Heap) (v:Value) (h':Heap):Prop:=∃(ss sb:Sl) (S:List Int) (B:List Bx) (e:Int) (A:List It),v=.tuple ⟨[cfA ss sb,.int .i64 e]⟩/\St h h' A/\CfM A ss sb S B/\(SysV L->e=0/\S=startS L/\B=List.replicate (L.length*L.length) bx0)/\(¬SysV L->e=1/\S=[]/\B=[])
theorem St.nil2 {h0 h:Heap} {A:List It} (hs:St h0 h A):St h0 h ([.sl ⟨none,0,0⟩ 3 1 [],.sl ⟨none,0,0⟩ 25 1 []]++A):=(hs.nil_ 25 1).nil_ 3 1
set_option maxHeartbeats 1600000 in
theorem start14 (L:List MR) (s:Sl) (h:Heap) (hS:SyI h s L):Fn Pz 25 #[.slice s.a s.n s.c] h fun v h'=>StaV (L.map MR.m) h v h':=by
 apply vc25 s;unfold W25;have hn:=hS.r.ln;have hlm:(L.map MR.m).length=L.length:=Yc _;refine (St.refl h).newb fun h1 hs=>?_;refine (valid22 L s h1 (hS.ext hs.ext)).mono ?_;rintro _ h4 ⟨⟨b,rfl,hb⟩,E⟩;have hs:=hs.step E;refine⟨_,rfl,sB_intro (fun c=>?_) (fun c=>?_)⟩
 ·have hn:¬SysV (L.map MR.m):=fun hp=>by rw[hb.2 hp] at c;cases c
  refine hs.put 0 rfl (o:=0) (vs:=[.slice none 0 0,.slice none 0 0]) rfl (show 2<=2 by decide) fun h5 hs=>?_;exact⟨⟨none,0,0⟩,⟨none,0,0⟩,hs.at 0 rfl (o:=0) (n:=2) rfl,_,_,[],[],1,_,rfl,hs.nil2,CfM.none_.mono fun i hi=>List.mem_append_left _ hi,fun hp=>absurd hp hn,fun _=>⟨rfl,rfl,rfl⟩⟩
 ·have hv:=hb.1 (bT c);have h6:=hv.n;rw[hlm] at h6;have h36:=sq6 h6.2;have hsq:(s.n:Int)*(s.n:Int)=((L.length*L.length:Nat):Int):=by rw[hn];rfl
  generalize hnn:L.length*L.length=nn at *;rw[hsq,w64 (n:=((nn:Nat):Int)) (by omega) (by omega),Ys];refine⟨⟨by omega,by omega,by omega⟩,?_⟩;refine hs.newb fun h8 hs=>?_;have hs:=hs.blkS nn 1 ((List.replicate nn bx0).map Bx.cs) (by rw[made42,List.map_replicate,List.map_replicate];rfl) (bxrows _) (by rw[Yc,Yg]) (by simp only[maxLen];omega);refine hs.newput (vs:=[.slice none 0 0,.slice (some ⟨h4.size,0,none⟩) nn nn]) rfl rfl fun h10 hs=>?_;have hs:=hs.nil_ 3 1;have hSl:(startS (L.map MR.m)).length=L.length:=by unfold startS;rw[Yc,Yc]
  refine⟨fun x h' μ=>∃(i:Nat) (st:Sl),x=(i:Int)/\μ=L.length-i/\i<=L.length/\St h h' [.sl st 3 1 (((startS (L.map MR.m)).take i).map inC),.blk h8.size [.slice st.a st.n st.c,.slice (some ⟨h4.size,0,none⟩) nn nn] 50,.sl ⟨some ⟨h4.size,0,none⟩,nn,nn⟩ 25 1 ((List.replicate nn bx0).map Bx.cs),.blk h.size [.slice none 0 0,.slice none 0 0] 50],⟨_,0,_,rfl,rfl,Nat.zero_le _,hs⟩,?_⟩;clear hs;rintro-_ h15 μ ⟨i,st,rfl,rfl,hi,hs⟩;refine sBi (fun c=>?_) (fun c=>?_)
  ·obtain⟨y,gy⟩:=get_some (l:=L) (i:=i) (by omega);have gs:(startS (L.map MR.m))[i]?=some y.m.s:=by unfold startS;rw[Yd,Yd,gy];rfl
   have hst:=(hs.rows 0 (s:=st) (cs:=inC) rfl (by omega)).ln;rw[Yu] at hst;refine (hS.r.rw.ext hs.ext).nbI (by omega) (by omega) fun b o y' gy' t=>?_;rw[Ys] at gy';replace gy':L[i]?=some y':=gy';rw[gy] at gy';cases gy';refine⟨_,_,_,_,_,_,t,?_⟩;refine hs.newput (vs:=mC y.m y.f y.g y.l) rfl rfl fun h25 hs=>?_;refine⟨st,hs.rd 2 rfl rfl,_,hs.rd 0 rfl (i:=2) rfl,?_⟩;refine hs.app 1 (s:=st) (n:=1) (rows:=((startS (L.map MR.m)).take i).map inC) rfl app42 (m:=1) [inC y.m.s] rfl rfl (fun r hr=>by rw[Ye] at hr;rw[hr];rfl) rfl (by omega) (by simp only[maxLen];omega) fun r h30 nr hs=>?_;refine hs.put 2 rfl (o:=0) (vs:=[.slice r.a r.n r.c]) rfl (show 1<=2 by decide) fun h31 hs=>?_;refine⟨_,(show L.length-(i+1)<L.length-i by omega),i+1,r,by rw[w64 (by omega) (by omega)];omega,rfl,by omega,?_⟩;rw[take_snoc gs,Ym];exact hs.drop 1
  ·have hil:i=L.length:=by omega
   subst hil;rw[Yj (by omega)] at hs;refine⟨st,⟨some ⟨h4.size,0,none⟩,nn,nn⟩,hs.at 1 rfl (o:=0) (n:=2) rfl,?_⟩;refine hs.put 3 rfl (o:=0) (vs:=[.slice st.a st.n st.c,.slice (some ⟨h4.size,0,none⟩) nn nn]) rfl (show 2<=2 by decide) fun h35 hs=>?_;refine⟨st,⟨some ⟨h4.size,0,none⟩,nn,nn⟩,hs.at 3 rfl (o:=0) (n:=2) rfl,st,_,_,_,0,_,rfl,hs,?_,fun _=>⟨rfl,rfl,by rw[hlm,hnn]⟩,fun hn=>absurd hv hn⟩;refine⟨Yx,Yn _ (Yn _ Yx),fun q hq=>.inl (List.eq_of_mem_replicate hq),by omega,by rw[Yg];omega,fun q hq=>?_⟩;rw[List.eq_of_mem_replicate hq];exact Nat.zero_le _
theorem app22:appB Pz 22 88 6 96=true:=by kernel_rfl
structure MrM (A:List It) (x:MR):Prop where
 f:It.sl x.f 4 1 (x.m.fin.map bC)∈A
 g:It.sl x.g 116 6 (x.m.mv.map Mv.cs)∈A
 l:It.sl x.l 199 3 (x.m.li.map To.cs)∈A
 n:x.m.fin.length<=1048576/\x.m.mv.length<=1048576/\x.m.li.length<=1048576
theorem MrM.mono {A A':List It} {x:MR} (h:MrM A x) (hA:∀i∈A,i∈A'):MrM A' x:=⟨hA _ h.f,hA _ h.g,hA _ h.l,h.n⟩
theorem MrM.mi {h0 h:Heap} {A:List It} {x:MR} (hs:St h0 h A) (hM:MrM A x):MI h x.m x.f x.g x.l:=by
 obtain⟨k1,e1⟩:=Yf.1 hM.f;obtain⟨k2,e2⟩:=Yf.1 hM.g;obtain⟨k3,e3⟩:=Yf.1 hM.l;exact⟨hs.rl k1 e1 (by omega) hM.n.1,hs.rl k2 e2 (by omega) hM.n.2.1,hs.rl k3 e3 (by omega) hM.n.2.2⟩
set_option maxHeartbeats 1600000 in
theorem all43 (g:Gl) (h:Heap) (hg:GI h g) (hx:Gx h) (hV:ValidS g) (Lm:List Mch) (hn:Lm.length=g.hr.n) (h6:Lm.length<=1048576)
  (hp:∀(i:Nat) m,Lm[i]?=some m->proj g (i:Int)=(some m,0)/\m.fin.length<=1048576/\m.mv.length<=1048576/\m.li.length<=1048576) :
  Fn Pz 29 #[g.v] h fun v h'=>∃(s:Sl) (L:List MR),v=.tuple ⟨[.slice s.a s.n s.c,.int .i64 0]⟩/\Ext h h'/\L.map MR.m=Lm/\SyI h' s L:=by
 apply vc29 (bs g.nm) g.hr g.hd g.n g.s g.e g.he g.ht;unfold W29;refine (St.refl h).newb fun h9 hs=>?_;refine⟨_,_,_,_,_,_,_,_,hs.at 0 rfl (o:=0) (n:=8) rfl,?_⟩;refine (valid38 g h9 (hg.ext hs.ext) (hx.ext hs.ext)).mono ?_;rintro _ h20 ⟨rfl,E⟩;have hs:=hs.step E;refine⟨_,rfl,?_⟩;refine sB_f (by rw[decide_eq_true hV];rfl) ?_;refine⟨g.hr,hs.rd 0 rfl (i:=1) rfl,?_⟩;have hs:=hs.nil_ 88 6;refine⟨fun out x h' μ=>∃(i:Nat) (L:List MR) (A:List It),x=(i:Int)/\μ=Lm.length-i/\i<=Lm.length/\L.map MR.m=Lm.take i/\St h h' (.sl out 88 6 (L.map MR.cs) :: .blk h.size [.string (bs g.nm),.slice g.hr.a g.hr.n g.hr.c,.slice g.hd.a g.hd.n g.hd.c,.int .i64 g.n,.int .i64 g.s,.int .i64 g.e,.slice g.he.a g.he.n g.he.c,.slice g.ht.a g.ht.n g.ht.c] 77::A)/\∀x∈L,MrM A x,⟨_,0,[],[],rfl,rfl,Nat.zero_le _,rfl,hs,fun x hx=>(by cases hx)⟩,?_⟩;clear hs;rintro-out _ h27 μ ⟨i,L,A,rfl,rfl,hi,hL,hs,hM⟩;have hLl:L.length=i:=by have:=congrArg List.length hL;rw[Yc,Yu] at this;omega
 have hst:=(hs.rows 0 (s:=out) (cs:=MR.cs) rfl (by omega)).ln;refine sBi (fun c=>?_) (fun c=>?_)
 ·obtain⟨m',gm⟩:=get_some (l:=Lm) (i:=i) (by omega);obtain⟨hpr,hb⟩:=hp i m' gm;refine⟨_,_,_,_,_,_,_,_,hs.at 1 rfl (o:=0) (n:=8) rfl,?_⟩;refine (project12 g (i:Int) h27 (hg.ext hs.ext) (hx.ext hs.ext)).mono ?_;rintro _ h44 ⟨-,hm⟩;rw[hpr] at hm;cases hm with
  | err he0 _=>cases he0
  | @ok m sf sm sl he0 hs2=>
   cases he0;have hs:=hs.join hs2;refine⟨_,_,_,sf,sm,sl,0,rfl,?_⟩;refine hs.newput (vs:=mC m' sf sm sl) rfl rfl fun h46 hs=>?_;refine sB_f rfl ?_;refine⟨_,_,_,sf,sm,sl,hs.at 0 rfl (o:=0) (n:=6) rfl,?_⟩;refine hs.app 1 (s:=out) (n:=6) (rows:=L.map MR.cs) rfl app22 (m:=1) [mC m' sf sm sl] rfl rfl (fun r hr=>by rw[Ye] at hr;rw[hr];rfl) rfl (by omega) (by simp only[maxLen];omega) fun r h55 nr hs=>?_;refine⟨_,(show Lm.length-(i+1)<Lm.length-i by omega),i+1,L++[⟨m',sf,sm,sl⟩],A++[.sl sf 4 1 (m'.fin.map bC),.sl sm 116 6 (m'.mv.map Mv.cs),.sl sl 199 3 (m'.li.map To.cs)],by rw[w64 (by omega) (by omega)];omega,rfl,by omega,?_,?_,?_⟩
   ·rw[take_snoc gm,Ym,hL];rfl
   ·rw[Ym];exact hs.drop 1
   ·intro x hx;rcases Yk.1 hx with hx | hx
    ·exact (hM x hx).mono fun j hj=>List.mem_append_left _ hj
    ·rw[Ye] at hx;subst hx;exact⟨List.mem_append_right _ (Yx),List.mem_append_right _ (Yn _ Yx),List.mem_append_right _ (Yn _ (Yn _ Yx)),hb⟩
 ·have hil:i=Lm.length:=by omega
  rw[hil,Yj (Yyt _)] at hL;refine⟨out,L,rfl,hs.ext,hL,hs.rl 0 rfl (by omega) (by omega),fun x hx=>?_⟩;exact MrM.mi hs ((hM x hx).mono fun j hj=>Yn _ (Yn _ hj))
end Go.VC
end

section
namespace Go.VC
open Go.Proofs
variable {h:Heap} {R:Value->Heap->Prop}

def V56a (h11 h10:Heap) (x8:Sl) (h9:Heap) (x6:Sl) (h h3:Heap) (R:Value->Heap->Prop):Prop:=
 Wp h11 (aS h10 0) 2 [vS x8,.slice (some (aS h9 0)) (Int.toNat (x6.n:Int)) (Int.toNat (x6.n:Int))] fun h12=>∃x13,rS h12 (aS h 1) x13/\QI 0 h12 fun I14 x_17 h18 m16=>sB (decide (x_17<(x13.n:Int))) (NB x13.a fun b19 o20=>Ib x_17 x13.n/\∃x21,rS h18 ⟨b19,o20+Int.toNat x_17*1,none⟩ x21/\∃x22,rS h18 (aS h10 1) x22/\Fn Pz 73 #[vS x21] h18 (fun v23 h25=>∃x24,iS v23 x24/\Sm [(aS h10 1)] h18 h25/\NB x22.a fun b26 o27=>Ib x_17 x22.n/\Wp h25 ⟨b26,o27+Int.toNat x_17*1,none⟩ 1 [vS x24] fun h28=>∃m29,m29<m16/\I14 (IntKind.wrap .i64 (x_17+1)) h28 m29)) (∃(x30 x31:Sl),atC h18 (aS h10 0) [vS x30,vS x31]/\Wp h18 (aS h3 0) 2 [vS x30,vS x31] fun h32=>∃(x33 x34:Sl),atC h32 (aS h3 0) [vS x33,vS x34]/\R (.agg ⟨[vS x33,vS x34]⟩) h32)
def V56b (x6:Sl) (h35 h h9:Heap) (x8:Sl) (h3:Heap) (R:Value->Heap->Prop):Prop:=
 ((0:Int)<=(x6.n:Int)/\((x6.n:Int):Int)<=(x6.n:Int)/\((24:Nat):Int)*(x6.n:Int)<=140737488355328)/\Wn h35 (madeL Pz 25 (Int.toNat (x6.n:Int))) 25 fun h36=>Sm [(aS h 0)] h35 h36/\V56a h36 h9 x8 h35 x6 h h3 R
def W56 (p0_1 p0_2:Sl):Prop:=
 Wn h [vS p0_1,vS p0_2] 50 fun h3=>Wn h3 [.slice none 0 0,.slice none 0 0] 50 fun h4=>∃x5,rS h4 (aS h 0) x5/\∃x6,rS h4 (aS h 1) x6/\(Fn Pz 73 #[vS x5] h4 (fun v7 h9=>∃x8,iS v7 x8/\Sm [(aS h 1)] h4 h9/\(((0:Int)<=(x6.n:Int)/\((x6.n:Int):Int)<=(x6.n:Int)/\((24:Nat):Int)*(x6.n:Int)<=140737488355328)/\Wn h9 (madeL Pz 25 (Int.toNat (x6.n:Int))) 25 fun h10=>Sm [(aS h 0)] h9 h10/\Wn h10 [.slice none 0 0,.slice none 0 0] 50 fun h11=>Sm [(aS h 1),(aS h 0)] h10 h11/\V56a h11 h10 x8 h9 x6 h h3 R)/\Wn h9 [.slice none 0 0,.slice none 0 0] 50 fun h35=>Sm [(aS h 1),(aS h 0)] h9 h35/\V56b x6 h35 h h9 x8 h3 R))/\(((0:Int)<=(x6.n:Int)/\((x6.n:Int):Int)<=(x6.n:Int)/\((24:Nat):Int)*(x6.n:Int)<=140737488355328)/\Wn h4 (madeL Pz 25 (Int.toNat (x6.n:Int))) 25 fun h60=>Sm [(aS h 0)] h4 h60/\(Fn Pz 73 #[vS x5] h60 (fun v61 h63=>∃x62,iS v61 x62/\Sm [(aS h 1)] h60 h63/\Wn h63 [.slice none 0 0,.slice none 0 0] 50 fun h64=>Sm [(aS h 1),(aS h 0)] h63 h64/\V56a h64 h63 x62 h4 x6 h h3 R))/\Wn h60 [.slice none 0 0,.slice none 0 0] 50 fun h88=>Sm [(aS h 1),(aS h 0)] h60 h88/\Fn Pz 73 #[vS x5] h88 (fun v89 h91=>∃x90,iS v89 x90/\Sm [(aS h 1)] h88 h91/\V56a h91 h60 x90 h4 x6 h h3 R))/\Wn h4 [.slice none 0 0,.slice none 0 0] 50 fun h115=>Sm [(aS h 1),(aS h 0)] h4 h115/\(Fn Pz 73 #[vS x5] h115 (fun v116 h118=>∃x117,iS v116 x117/\Sm [(aS h 1)] h115 h118/\V56b x6 h118 h h4 x117 h3 R))/\((0:Int)<=(x6.n:Int)/\((x6.n:Int):Int)<=(x6.n:Int)/\((24:Nat):Int)*(x6.n:Int)<=140737488355328)/\Wn h115 (madeL Pz 25 (Int.toNat (x6.n:Int))) 25 fun h143=>Sm [(aS h 0)] h115 h143/\Fn Pz 73 #[vS x5] h143 (fun v144 h146=>∃x145,iS v144 x145/\Sm [(aS h 1)] h143 h146/\V56a h146 h4 x145 h115 x6 h h3 R)
theorem vc56 (p0_1 p0_2:Sl) (H:@W56 h R p0_1 p0_2):Fn Pz 56 #[.agg ⟨[vS p0_1,vS p0_2]⟩] h R:=fnI (A:=(.s .z (.s .z (.s (.s .z (.b (.l [(17,.one (.int .i64))] .z))) .z)))) (by kernel_rfl) H

def V54a (h4 h3:Heap) (R:Value->Heap->Prop):Prop:=
 Wp h4 (aS h3 0) 6 [vI 0,.bool false,vI 0,vI 0,vI 0,.bool false] fun h6=>∃x7 x8 x9 x10 x11 x12,aL0 h6 (aS h3 0) x7 x8 x9 x10 x11 x12/\R (.tuple ⟨[.agg ⟨(L0 x7 x8 x9 x10 x11 x12)⟩,.bool false]⟩) h6
def W54 (p0:Sl) (p1_1 p1_2:Int):Prop:=
 Wn h [vI p1_1,vI p1_2] 48 fun h3=>Wn h3 [vI 0,.bool false,vI 0,vI 0,vI 0,.bool false] 116 fun h4=>∃x5,rI h4 (aS h 0) x5/\sB (decide (x5<0)) (V54a h4 h3 R) (∃x13,rI h4 (aS h 0) x13/\sB (decide (x13>=(p0.n:Int))) (V54a h4 h3 R) (∃x21,rI h4 (aS h 1) x21/\sB (decide (x21<0)) (V54a h4 h3 R) (∃x29,rI h4 (aS h 1) x29/\∃x30,rI h4 (aS h 0) x30/\NB p0.a fun b31 o32=>Ib x30 p0.n/\∃x33,rS h4 ⟨b31,o32+Int.toNat x30*6+4,none⟩ x33/\sB (decide (x29>=(x33.n:Int))) (V54a h4 h3 R) (∃x41,rI h4 (aS h 0) x41/\NB p0.a fun b42 o43=>Ib x41 p0.n/\∃x44,rS h4 ⟨b42,o43+Int.toNat x41*6+4,none⟩ x44/\∃x45,rI h4 (aS h 1) x45/\NB x44.a fun b46 o47=>Ib x45 x44.n/\∃x48 x49 x50 x51 x52 x53,aL0 h4 ⟨b46,o47+Int.toNat x45*6,none⟩ x48 x49 x50 x51 x52 x53/\Wp h4 (aS h3 0) 6 (L0 x48 x49 x50 x51 x52 x53) fun h54=>∃x55 x56 x57 x58 x59 x60,aL0 h54 (aS h3 0) x55 x56 x57 x58 x59 x60/\R (.tuple ⟨[.agg ⟨(L0 x55 x56 x57 x58 x59 x60)⟩,.bool true]⟩) h54))))
theorem vc54 (p0:Sl) (p1_1 p1_2:Int) (H:@W54 h R p0 p1_1 p1_2):Fn Pz 54 #[vS p0,.agg ⟨[vI p1_1,vI p1_2]⟩] h R:=fnI (A:=.z) (by kernel_rfl) H

def V27a (h83 h52 h6:Heap) (R:Value->Heap->Prop):Prop:=
 ∃(x84 x85:Sl),atC h83 (aS h52 0) [vS x84,vS x85]/\Wp h83 (aS h6 0) 2 [vS x84,vS x85] fun h86=>∃(x87 x88:Sl),atC h86 (aS h6 0) [vS x87,vS x88]/\R (.tuple ⟨[.agg ⟨[vS x87,vS x88]⟩,vI 0]⟩) h86
def W27 (p0:Sl) (p1:Int) (p2_1 p2_2:Sl) (p3_3 p3_4:Int):Prop:=
 Wn h [vS p2_1,vS p2_2] 50 fun h5=>Wn h5 [vI p3_3,vI p3_4] 48 fun h6=>Wn h6 [.slice none 0 0,.slice none 0 0] 50 fun h7=>∃(x8 x9:Sl),atC h7 (aS h 0) [vS x8,vS x9]/\Fn Pz 49 #[vS p0,vI p1,.agg ⟨[vS x8,vS x9]⟩] h7 (fun v10 h12=>∃x11,iB v10 x11/\sB (!x11) (Wp h12 (aS h6 0) 2 [.slice none 0 0,.slice none 0 0] fun h13=>∃(x14 x15:Sl),atC h13 (aS h6 0) [vS x14,vS x15]/\R (.tuple ⟨[.agg ⟨[vS x14,vS x15]⟩,vI 1]⟩) h13) (∃(x16 x17:Int),atC h12 (aS h5 0) [vI x16,vI x17]/\Fn Pz 54 #[vS p0,.agg ⟨[vI x16,vI x17]⟩] h12 (fun v18 h26=>∃(x19:Int) (x20:Bool) (x21 x22 x23:Int) (x24 x25:Bool),v18=.tuple ⟨[.agg ⟨(L0 x19 x20 x21 x22 x23 x24)⟩,.bool x25]⟩/\Wn h26 [vI 0,.bool false,vI 0,vI 0,vI 0,.bool false] 116 fun h27=>Wp h27 (aS h26 0) 6 (L0 x19 x20 x21 x22 x23 x24) fun h28=>sB (!x25) (Wp h28 (aS h6 0) 2 [.slice none 0 0,.slice none 0 0] fun h29=>∃(x30 x31:Sl),atC h29 (aS h6 0) [vS x30,vS x31]/\R (.tuple ⟨[.agg ⟨[vS x30,vS x31]⟩,vI 2]⟩) h29) (∃(x32 x33:Sl),atC h28 (aS h 0) [vS x32,vS x33]/\∃x34,rI h28 (aS h5 0) x34/\∃x35 x36 x37 x38 x39 x40,aL0 h28 (aS h26 0) x35 x36 x37 x38 x39 x40/\Fn Pz 55 #[vI (p0.n:Int),vI p1,.agg ⟨[vS x32,vS x33]⟩,vI x34,.agg ⟨(L0 x35 x36 x37 x38 x39 x40)⟩] h28 (fun v41 h43=>∃x42,iI v41 x42/\sB (x42 != 0) (Wp h43 (aS h6 0) 2 [.slice none 0 0,.slice none 0 0] fun h44=>∃(x45 x46:Sl),atC h44 (aS h6 0) [vS x45,vS x46]/\R (.tuple ⟨[.agg ⟨[vS x45,vS x46]⟩,vI x42]⟩) h44) (∃(x47 x48:Sl),atC h43 (aS h 0) [vS x47,vS x48]/\Fn Pz 56 #[.agg ⟨[vS x47,vS x48]⟩] h43 (fun v49 h52=>∃(x50 x51:Sl),v49=.agg ⟨[vS x50,vS x51]⟩/\Wn h52 [.slice none 0 0,.slice none 0 0] 50 fun h53=>Wp h53 (aS h52 0) 2 [vS x50,vS x51] fun h54=>∃x55,rS h54 (aS h52 0) x55/\∃x56,rI h54 (aS h5 0) x56/\∃x57,rI h54 (aS h26 4) x57/\NB x55.a fun b58 o59=>Ib x56 x55.n/\Wp h54 ⟨b58,o59+Int.toNat x56*1,none⟩ 1 [vI x57] fun h60=>∃x61,rI h60 (aS h5 0) x61/\∃x62 x63 x64 x65 x66 x67,aL0 h60 (aS h26 0) x62 x63 x64 x65 x66 x67/\Fn Pz 57 #[vI (p0.n:Int),vI x61,.agg ⟨(L0 x62 x63 x64 x65 x66 x67)⟩] h60 (fun v68 h70=>∃x69,iI v68 x69/\∃x71,rB h70 (aS h26 1) x71/\sB x71 (∃x72,rS h70 (aS h52 1) x72/\∃x73,rS h70 (aS h52 1) x73/\NB x73.a fun b74 o75=>Ib x69 x73.n/\∃x76,rS h70 ⟨b74,o75+Int.toNat x69*1,none⟩ x76/\∃x77,rI h70 (aS h26 3) x77/\Wn h70 [vI x77] 3 fun h78=>Sm [⟨b74,o75+Int.toNat x69*1,none⟩,(aS h52 1),(aS h52 1)] h70 h78/\App Pz 25 25 (vS x76) (.slice (some (aS h70 0)) 1 1) h78 fun s79 h80=>Sm [(aS h52 1)] h78 h80/\NB x72.a fun b81 o82=>Ib x69 x72.n/\Wp h80 ⟨b81,o82+Int.toNat x69*1,none⟩ 1 [vS s79] fun h83=>V27a h83 h52 h6 R) (∃x89,rS h70 (aS h52 1) x89/\∃x90,rS h70 (aS h52 1) x90/\NB x90.a fun b91 o92=>Ib x69 x90.n/\∃x93,rS h70 ⟨b91,o92+Int.toNat x69*1,none⟩ x93/\((0:Int)<=(1:Int)/\(1:Int)<=((x93.n:Nat):Int)/\((x93.n:Nat):Int)<=(x93.c:Nat))/\NB x89.a fun b94 o95=>Ib x69 x89.n/\Wp h70 ⟨b94,o95+Int.toNat x69*1,none⟩ 1 [.slice (subA x93.a (Int.toNat 1) x93.c 1) (Int.toNat (x93.n:Nat)-Int.toNat 1) (x93.c-Int.toNat 1)] fun h96=>V27a h96 h52 h6 R)))))))))
theorem vc27 (p0:Sl) (p1:Int) (p2_1 p2_2:Sl) (p3_3 p3_4:Int) (H:@W27 h R p0 p1 p2_1 p2_2 p3_3 p3_4):Fn Pz 27 #[vS p0,vI p1,.agg ⟨[vS p2_1,vS p2_2]⟩,.agg ⟨[vI p3_3,vI p3_4]⟩] h R:=fnI (A:=.z) (by kernel_rfl) H

end Go.VC
end

section
namespace Go.VC
open Go.Proofs
variable {h:Heap} {R:Value->Heap->Prop}

def W73 (p0:Sl):Prop:=
 sB (Option.isNone p0.a)
 (R (.slice none 0 0) h)
 (Wn h [] 3 fun h1=>
 App Pz 25 25 (.slice (some (aS h 0)) 0 0) (vS p0) h1 fun s2 h3=>
 R (vS s2) h3)
theorem vc73 (p0:Sl) (H:@W73 h R p0):Fn Pz 73 #[vS p0] h R:=fnI (A:=.z) (by kernel_rfl) H

end Go.VC
end

section
namespace Go.VC
open Go.Proofs Go.LexS
theorem clone92 (l:List Int) (s:Sl) (h:Heap) (hr:RL h 1 s inC l):Fn Pz 73 #[.slice s.a s.n s.c] h fun v h'=>∃t:Sl,v=.slice t.a t.n t.c/\St h h' [.sl t 3 1 (l.map inC)]:=by
 apply vc73 s;unfold W73;have hn:=hr.ln;have hsm:=hr.sm;refine sB_intro (fun c=>?_) (fun c=>?_)
 ·have h0:=hr.nil (Option.isNone_iff_eq_none.1 c);have:l=[]:=List.eq_nil_of_length_eq_zero (by omega);subst this;exact⟨⟨none,0,0⟩,rfl,(St.refl h).nil_ 3 1⟩
 ·refine (St.refl h).newb fun h1 hs=>?_;have hs:=hs.blkS 0 1 [] rfl (fun r hr=>by cases hr) rfl (Nat.zero_le _);refine hs.appRw 0 (s:=⟨some ⟨h.size,0,none⟩,0,0⟩) (rows:=[]) (y:=s) rfl app42 (hr.rw.ext hs.ext) (inrows' l) hr.nil (flat_oneB (fun _=>rfl) _) (by show (0+s.n)*8<=_;omega) (by show 0+s.n<=_;simp only[maxLen];omega) fun r h3 _ hs=>?_;exact⟨r,rfl,hs⟩
def clB (ob b0 b3:Nat) (h12:Heap) (R:Value->Heap->Prop):Prop:=
 (∃x13:Sl,hc h12 ⟨b0,1,none⟩=some (.slice x13.a x13.n x13.c) /\ 
 (∃I14:Int->Heap->Nat->Prop,(∃m15,I14 0 h12 m15) /\ 
 (∀(_:Env) (x_17:Int) (h18:Heap) (m16:Nat),I14 x_17 h18 m16 -> 
 (sB (decide (x_17<(x13.n:Int))) 
  ((NB x13.a fun b19 o20=>((0<=(x_17:Int)/\(x_17:Int)<(x13.n:Nat)) /\ 
  (∃x21:Sl,hc h18 ⟨b19,o20+Int.toNat x_17*1,none⟩=some (.slice x21.a x21.n x21.c) /\ 
  (∃x22:Sl,hc h18 ⟨ob,1,none⟩=some (.slice x22.a x22.n x22.c) /\ 
  (Fn Pz 73 #[.slice x21.a x21.n x21.c] h18 
  (fun v23 h25=>∃x24:Sl,v23=.slice x24.a x24.n x24.c /\ 
  (Sm [⟨ob,1,none⟩] h18 h25 /\ 
  (NB x22.a fun b26 o27=>((0<=(x_17:Int)/\(x_17:Int)<(x22.n:Nat)) /\ 
  (okAt h25 ⟨b26,o27+Int.toNat x_17*1,none⟩ 1/\∀h28:Heap,h28=hputs h25 ⟨b26,o27+Int.toNat x_17*1,none⟩ 0 [.slice x24.a x24.n x24.c] -> 
  (∃m29,m29<m16/\I14 (IntKind.wrap .i64 (x_17+1)) h28 m29)))))))))))) 
  ((∃x30:Sl,∃x31:Sl,atC h18 ⟨ob,0,none⟩ [.slice x30.a x30.n x30.c,.slice x31.a x31.n x31.c] /\ 
  (okAt h18 ⟨b3,0,none⟩ 2/\∀h32:Heap,h32=hputs h18 ⟨b3,0,none⟩ 0 [.slice x30.a x30.n x30.c,.slice x31.a x31.n x31.c] -> 
  (∃x33:Sl,∃x34:Sl,atC h32 ⟨b3,0,none⟩ [.slice x33.a x33.n x33.c,.slice x34.a x34.n x34.c] /\ 
  R (.agg ⟨[.slice x33.a x33.n x33.c,.slice x34.a x34.n x34.c]⟩) h32))))))))
def CloV (S:List Int) (B:List Bx) (h:Heap) (v:Value) (h':Heap):Prop:=∃(ts tb:Sl) (T:List Bx),v=cfA ts tb/\T.map Bx.l=B.map Bx.l/\St h h' ([.sl ts 3 1 (S.map inC),.sl tb 25 1 (T.map Bx.cs)]++T.map Bx.it)
theorem set_grow {α:Type} {T:List α} {i k:Nat} {z x:α} (hT:T.length=i):(T++List.replicate (k+1) z).set i x=(T++[x])++List.replicate k z:=by
 subst hT;rw[List.set_append_right _ _ (Yyt _),Nat.sub_self,List.replicate_succ,List.set_cons_zero,Yz];rfl
set_option maxHeartbeats 1600000 in
theorem cloneB (ob b0 b3:Nat) (ss sb ts tb u1 u2:Sl) (S:List Int) (B:List Bx) (h h12:Heap) (hC:CfI h ss sb S B)
  (hs:St h h12 [.blk ob [.slice ts.a ts.n ts.c,.slice tb.a tb.n tb.c] 50,.sl tb 25 1 ((List.replicate B.length bx0).map Bx.cs),.blk b3 [.slice u1.a u1.n u1.c,.slice u2.a u2.n u2.c] 50,.blk b0 [.slice ss.a ss.n ss.c,.slice sb.a sb.n sb.c] 50,.sl ts 3 1 (S.map inC)]) :
  clB ob b0 b3 h12 (CloV S B h):=by
 unfold clB;have hbn:=hC.b.ln;have hbs:=hC.b.sm;refine⟨sb,hs.rd 3 rfl (i:=1) rfl,?_⟩;refine⟨fun x h' μ=>∃(i:Nat) (T:List Bx),x=(i:Int)/\μ=B.length-i/\i<=B.length/\T.map Bx.l=(B.take i).map Bx.l/\St h h' (.blk ob [.slice ts.a ts.n ts.c,.slice tb.a tb.n tb.c] 50 :: .sl tb 25 1 ((T++List.replicate (B.length-i) bx0).map Bx.cs) :: .blk b3 [.slice u1.a u1.n u1.c,.slice u2.a u2.n u2.c] 50 :: .blk b0 [.slice ss.a ss.n ss.c,.slice sb.a sb.n sb.c] 50 :: .sl ts 3 1 (S.map inC)::T.map Bx.it),⟨_,0,[],rfl,rfl,Nat.zero_le _,rfl,hs⟩,?_⟩;clear hs;rintro-_ h18 μ ⟨i,T,rfl,rfl,hi,hT,hs⟩;have hTl:T.length=i:=by have:=congrArg List.length hT;rw[Yc,Yc,Yu] at this;omega
 have htb:=(hs.rows 1 (s:=tb) (cs:=Bx.cs) rfl (by omega)).ln;rw[Yh,Yg] at htb;refine sBi (fun c=>?_) (fun c=>?_)
 ·obtain⟨q,gq⟩:=get_some (l:=B) (i:=i) (by omega);refine (hC.b.rw.ext hs.ext).nbI (by omega) (by omega) fun b o q' gq' t=>?_;rw[Ys] at gq';rw[gq] at gq';cases gq';refine⟨q.s,t.hd,tb,hs.rd 0 rfl (i:=1) rfl,?_⟩;refine (clone92 q.l q.s h18 ((hC.i q (Yb gq)).ext hs.ext)).mono ?_;rintro _ h25 ⟨u,rfl,hs2⟩;have hs:=hs.join hs2;refine⟨u,rfl,hs2.ext.sm,?_⟩;refine hs.set 1 (s:=tb) (cs:=Bx.cs) (x:=(i:Int)) rfl (by omega) (by omega) (by omega) (⟨u,q.l⟩:Bx) rfl rfl (fun b o h28 hs=>?_) rfl;refine⟨_,(show B.length-(i+1)<B.length-i by omega),i+1,T++[⟨u,q.l⟩],by rw[w64 (by omega) (by omega)];omega,rfl,by omega,?_,?_⟩
  ·rw[take_snoc gq,Ym,Ym,hT];rfl
  ·have e:=set_grow (k:=B.length-(i+1)) (z:=bx0) (x:=(⟨u,q.l⟩:Bx)) hTl;rw[show B.length-(i+1)+1=B.length-i by omega] at e;rw[Ys,e] at hs;rw[Ym (f:=Bx.it)];exact hs
 ·have hil:i=B.length:=by omega
  rw[hil,Nat.sub_self,List.replicate_zero,Yw] at hs;rw[hil,Yj (Yyt _)] at hT;refine⟨ts,tb,hs.at 0 rfl (o:=0) (n:=2) rfl,?_⟩;refine hs.put 2 rfl (o:=0) (vs:=[.slice ts.a ts.n ts.c,.slice tb.a tb.n tb.c]) rfl (show 2<=2 by decide) fun h32 hs=>?_;refine⟨ts,tb,hs.at 2 rfl (o:=0) (n:=2) rfl,ts,tb,T,rfl,hT,?_⟩;refine (hs.sub (L':=.sl tb 25 1 (T.map Bx.cs) :: .sl ts 3 1 (S.map inC)::T.map Bx.it) ?_).perm (List.Perm.swap _ _ _);exact List.Sublist.cons _ (List.Sublist.cons_cons _ (List.Sublist.cons _ (List.Sublist.cons _ (List.Sublist.refl _))))
theorem boxes0 (n:Nat):madeL Pz 25 n=((List.replicate n bx0).map Bx.cs).flatten:=by rw[made42,List.map_replicate,List.map_replicate];rfl
set_option maxHeartbeats 3200000 in
theorem clone59 (ss sb:Sl) (S:List Int) (B:List Bx) (h:Heap) (hC:CfI h ss sb S B) :
  Fn Pz 56 #[.agg ⟨[.slice ss.a ss.n ss.c,.slice sb.a sb.n sb.c]⟩] h (CloV S B h):=by
 apply vc56 ss sb;unfold W56 V56b V56a;have hbn:=hC.b.ln;have hbs:=hC.b.sm;refine (St.refl h).newb fun h3 hs=>?_;refine hs.newb fun h4 hs=>?_;refine⟨ss,hs.rd 1 rfl (i:=0) rfl,sb,hs.rd 1 rfl (i:=1) rfl,?_⟩;rw[Ys];have hc:((0:Int)<=(sb.n:Int)/\((sb.n:Int):Int)<=(sb.n:Int)/\((24:Nat):Int)*(sb.n:Int)<=140737488355328):=⟨by omega,by omega,by omega⟩;have mk:∀ {hX:Heap} {b:Nat} {L:List It},St h hX (.blk b (madeL Pz 25 sb.n) 25::L)->St h hX (.sl ⟨some ⟨b,0,none⟩,sb.n,sb.n⟩ 25 1 ((List.replicate B.length bx0).map Bx.cs)::L):=fun hs=>
  hs.blkS sb.n 1 _ (by rw[hbn];exact boxes0 _) (bxrows _) (by rw[Yc,Yg,hbn]) (by simp only[maxLen];omega)
 refine And.intro ?_ (And.intro ?_ ?_)
 ·refine (clone92 S ss h4 (hC.s.ext hs.ext)).mono ?_;rintro _ h9 ⟨ts,rfl,hs2⟩;have hs:=hs.join hs2;refine⟨ts,rfl,hs2.ext.sm,And.intro ?_ ?_⟩
  ·refine⟨hc,hs.newbE fun h10 E10 hs=>⟨E10.sm,?_⟩⟩;have hs:=mk hs;refine hs.newbE fun h11 E11 hs=>⟨E11.sm,?_⟩;refine hs.put 0 rfl (o:=0) (vs:=[.slice ts.a ts.n ts.c,.slice (some ⟨h9.size,0,none⟩) sb.n sb.n]) rfl (show 2<=2 by decide) fun h12 hs=>?_;exact cloneB _ _ _ ss sb ts ⟨some ⟨h9.size,0,none⟩,sb.n,sb.n⟩ ⟨none,0,0⟩ ⟨none,0,0⟩ S B h h12 hC hs
  ·refine hs.newbE fun h10 E10 hs=>⟨E10.sm,hc,?_⟩;refine hs.newbE fun h11 E11 hs=>⟨E11.sm,?_⟩;have hs:=mk hs;refine hs.put 1 rfl (o:=0) (vs:=[.slice ts.a ts.n ts.c,.slice (some ⟨h10.size,0,none⟩) sb.n sb.n]) rfl (show 2<=2 by decide) fun h12 hs=>?_;exact cloneB _ _ _ ss sb ts ⟨some ⟨h10.size,0,none⟩,sb.n,sb.n⟩ ⟨none,0,0⟩ ⟨none,0,0⟩ S B h h12 hC (hs.perm (List.Perm.swap _ _ _))
 ·refine⟨hc,hs.newbE fun h10 E10 hs=>⟨E10.sm,?_⟩⟩;have hs:=mk hs;refine And.intro ?_ ?_;refine (clone92 S ss h10 (hC.s.ext hs.ext)).mono ?_;rintro _ h9 ⟨ts,rfl,hs2⟩;have hs:=hs.join hs2;refine⟨ts,rfl,hs2.ext.sm,?_⟩;refine hs.newbE fun h11 E11 hs=>⟨E11.sm,?_⟩;rotate_left;refine hs.newbE fun h11 E11 hs=>⟨E11.sm,?_⟩;refine (clone92 S ss h11 (hC.s.ext hs.ext)).mono ?_;rintro _ h9 ⟨ts,rfl,hs2⟩;have hs:=hs.join hs2;refine⟨ts,rfl,hs2.ext.sm,?_⟩;all_goals
   refine hs.put 0 rfl (o:=0) (vs:=[.slice ts.a ts.n ts.c,.slice (some ⟨h4.size,0,none⟩) sb.n sb.n]) rfl (show 2<=2 by decide) fun h12 hs=>?_;exact cloneB _ _ _ ss sb ts ⟨some ⟨h4.size,0,none⟩,sb.n,sb.n⟩ ⟨none,0,0⟩ ⟨none,0,0⟩ S B h h12 hC hs
 ·refine hs.newbE fun h10 E10 hs=>⟨E10.sm,And.intro ?_ ?_⟩
  ·refine (clone92 S ss h10 (hC.s.ext hs.ext)).mono ?_;rintro _ h9 ⟨ts,rfl,hs2⟩;have hs:=hs.join hs2;refine⟨ts,rfl,hs2.ext.sm,hc,?_⟩;refine hs.newbE fun h11 E11 hs=>⟨E11.sm,?_⟩;have hs:=mk hs;refine hs.put 1 rfl (o:=0) (vs:=[.slice ts.a ts.n ts.c,.slice (some ⟨h9.size,0,none⟩) sb.n sb.n]) rfl (show 2<=2 by decide) fun h12 hs=>?_;exact cloneB _ _ _ ss sb ts ⟨some ⟨h9.size,0,none⟩,sb.n,sb.n⟩ ⟨none,0,0⟩ ⟨none,0,0⟩ S B h h12 hC (hs.perm (List.Perm.swap _ _ _))
  ·refine⟨hc,hs.newbE fun h11 E11 hs=>⟨E11.sm,?_⟩⟩;have hs:=mk hs;refine (clone92 S ss h11 (hC.s.ext hs.ext)).mono ?_;rintro _ h9 ⟨ts,rfl,hs2⟩;have hs:=hs.join hs2;refine⟨ts,rfl,hs2.ext.sm,?_⟩;refine hs.put 1 rfl (o:=0) (vs:=[.slice ts.a ts.n ts.c,.slice (some ⟨h10.size,0,none⟩) sb.n sb.n]) rfl (show 2<=2 by decide) fun h12 hs=>?_;exact cloneB _ _ _ ss sb ts ⟨some ⟨h10.size,0,none⟩,sb.n,sb.n⟩ ⟨none,0,0⟩ ⟨none,0,0⟩ S B h h12 hC (hs.perm (List.Perm.swap _ _ _))
def mvO (L:List Mch) (r i:Int):Option Mv:=if r<0\/(L.length:Int)<=r then none else match L[r.toNat]? with
 | none=>none
 | some m=>if i<0\/(m.mv.length:Int)<=i then none else m.mv[i.toNat]?
def mv00:Mv:=⟨0,false,0,0,0,false⟩
def MovV (o:Option Mv):Value:=match o with
 | none=>.tuple ⟨[.agg ⟨mv00.cs⟩,.bool false]⟩
 | some x=>.tuple ⟨[.agg ⟨x.cs⟩,.bool true]⟩
set_option maxHeartbeats 1600000 in
theorem move57 (L:List MR) (s:Sl) (r i:Int) (h:Heap) (hS:SyI h s L) :
  Fn Pz 54 #[.slice s.a s.n s.c,.agg ⟨[.int .i64 r,.int .i64 i]⟩] h fun v h'=>v=MovV (mvO (L.map MR.m) r i)/\Ext h h':=by
 apply vc54 s r i;unfold W54 V54a;have hn:=hS.r.ln;have hlm:(L.map MR.m).length=L.length:=Yc _;refine (St.refl h).newb fun h3 hs=>?_;refine hs.newb fun h4 hs=>?_;have no:∀ {h5:Heap},St h h5 [.blk h3.size mv00.cs 116,.blk h.size [.int .i64 r,.int .i64 i] 48]->mvO (L.map MR.m) r i=none->(okAt h5 ⟨h3.size,0,none⟩ 6/\∀h6:Heap,h6=hputs h5 ⟨h3.size,0,none⟩ 0 [.int .i64 0,.bool false,.int .i64 0,.int .i64 0,.int .i64 0,.bool false] -> 
   (∃x7:Int,∃x8:Bool,∃x9:Int,∃x10:Int,∃x11:Int,∃x12:Bool,atC h6 ⟨h3.size,0,none⟩ [.int .i64 x7,.bool x8,.int .i64 x9,.int .i64 x10,.int .i64 x11,.bool x12] /\ 
   (Value.tuple ⟨[.agg ⟨[.int .i64 x7,.bool x8,.int .i64 x9,.int .i64 x10,.int .i64 x11,.bool x12]⟩,.bool false]⟩=MovV (mvO (L.map MR.m) r i)/\Ext h h6))):=fun {h5} hs e=>by
  refine hs.put 0 rfl (o:=0) (vs:=mv00.cs) rfl (show 6<=6 by decide) fun h6 hs=>?_;exact⟨_,_,_,_,_,_,hs.at 0 rfl (o:=0) (n:=6) rfl,by rw[e];rfl,hs.ext⟩
 refine⟨_,hs.rd 1 rfl (i:=0) rfl,sBi (fun c=>no hs (by unfold mvO;rw[if_pos (.inl c)])) (fun c1=>?_)⟩;refine⟨_,hs.rd 1 rfl (i:=0) rfl,sBi (fun c=>no hs (by unfold mvO;rw[if_pos (.inr (by omega))])) (fun c2=>?_)⟩;obtain⟨p,rfl⟩:∃p:Nat,r=(p:Int):=⟨r.toNat,by omega⟩;have hp:p<L.length:=by omega
 obtain⟨y,gy⟩:=get_some (l:=L) (i:=p) hp;have gm:(L.map MR.m)[p]?=some y.m:=by rw[Yd,gy];rfl
 have hmv:mvO (L.map MR.m) (p:Int) i=if i<0\/(y.m.mv.length:Int)<=i then none else y.m.mv[i.toNat]?:=by
  unfold mvO;rw[if_neg (by omega),Ys,gm]
 have hyi:=hS.i y (Yb gy);have hgn:=hyi.pm.ln;refine⟨_,hs.rd 1 rfl (i:=1) rfl,sBi (fun c=>no hs (by rw[hmv,if_pos (.inl c)])) (fun c3=>?_)⟩;refine⟨_,hs.rd 1 rfl (i:=1) rfl,_,hs.rd 1 rfl (i:=0) rfl,?_⟩;have rdL:∀ {F:Nat->Nat->Prop} {h':Heap},Ext h h'->(∀b o,atC h' ⟨b,o+p*6,none⟩ y.cs->F b o)->NB s.a fun b o=>(0<=(p:Int)/\(p:Int)<(s.n:Nat))/\F b o:=fun {F h'} E hF=>(hS.r.rw.ext E).nbI (by omega) (by omega) fun b o y' gy' t=>by
  rw[Ys] at gy' t;replace gy':L[p]?=some y':=gy';rw[gy] at gy';cases gy';exact hF b o t
 refine rdL hs.ext fun b1 o1 t1=>?_;refine⟨y.g,t1.nth 4 rfl,sBi (fun c=>no hs (by rw[hmv,if_pos (.inr (by omega))])) (fun c4=>?_)⟩;obtain⟨j,rfl⟩:∃j:Nat,i=(j:Int):=⟨i.toNat,by omega⟩;obtain⟨x,gx⟩:=get_some (l:=y.m.mv) (i:=j) (by omega);refine⟨_,hs.rd 1 rfl (i:=0) rfl,rdL hs.ext fun b2 o2 t2=>?_⟩;refine⟨y.g,t2.nth 4 rfl,_,hs.rd 1 rfl (i:=1) rfl,?_⟩;refine (hyi.pm.rw.ext hs.ext).nbI (by omega) (by omega) fun b3 o3 x' gx' t3=>?_;rw[Ys] at gx';replace gx':y.m.mv[j]?=some x':=gx';rw[gx] at gx';cases gx';refine⟨_,_,_,_,_,_,t3,?_⟩;refine hs.put 0 rfl (o:=0) (vs:=x.cs) rfl (show 6<=6 by decide) fun h29 hs=>?_;refine⟨_,_,_,_,_,_,hs.at 0 rfl (o:=0) (n:=6) rfl,?_,hs.ext⟩;rw[hmv,if_neg (by omega),Ys,gx];rfl
end Go.VC
end

section
namespace Go.VC
open Go.Proofs Go.LexS
theorem St.smbO {h0 h h1 h':Heap} {L L':List It} (hs:St h0 h L) (hs':St h1 h' L') (k k' o:Nat) {b:Nat} {xs:List Value} {e:TypeId} (hk:L[k]?=some (.blk b xs e)) (hk':L'[k']?=some (.blk b xs e)):Sm [⟨b,o,none⟩] h h':=by
 intro a ha i v hv;rw[Ye.1 ha] at hv ⊢;have e1:h[b]?=some (.cells ⟨xs⟩ e):=hs.get hk;have e2:h'[b]?=some (.cells ⟨xs⟩ e):=hs'.get hk';have e3:h'[b]?=h[b]?:=by rw[e1,e2]
 rw[hc_of_block (h:=h) (h':=h') (a:=addk ⟨b,o,none⟩ i) (by rw[addk_block'];exact e3)];exact hv
def doB (n p:Nat) (x:Mv) (BL:List (List Int)):List (List Int):=BL.set (bxI n p x) (if x.send=true then BL.getD (bxI n p x) []++[x.label] else (BL.getD (bxI n p x) []).tail)
open Classical in
noncomputable def doS (L:List Mch) (k:Int) (S:List Int) (BL:List (List Int)) (r i:Int):Int × List Int × List (List Int):=
 if ProS L k S BL then match mvO L r i with
  | none=>(2,[],[])
  | some x=>if canS L.length k S BL r.toNat x=0 then (0,S.set r.toNat x.t,doB L.length r.toNat x BL) else (canS L.length k S BL r.toNat x,[],[])
 else (1,[],[])
def DoV (o:Int × List Int × List (List Int)) (h:Heap) (v:Value) (h':Heap):Prop:=∃(ts tb:Sl) (T:List Bx) (A:List It),v=.tuple ⟨[cfA ts tb,.int .i64 o.1]⟩/\T.map Bx.l=o.2.2/\St h h' A/\CfM A ts tb o.2.1 T
theorem DoV.none_ {o:Int × List Int × List (List Int)} {h h':Heap} {A:List It} {e:Int} (hs:St h h' A) (ho:o=(e,[],[])):DoV o h (.tuple ⟨[.agg ⟨[.slice none 0 0,.slice none 0 0]⟩,.int .i64 e]⟩) h':=by
 subst ho;exact⟨⟨none,0,0⟩,⟨none,0,0⟩,[],_,rfl,rfl,hs.nil2,CfM.none_.mono fun i hi=>List.mem_append_left _ hi⟩
theorem mvO_some {L:List Mch} {r i:Int} {x:Mv} (h:mvO L r i=some x):∃p:Nat,r=(p:Int)/\∃m,L[p]?=some m/\x∈m.mv:=by
 unfold mvO at h;split at h
 ·cases h
 ·rename_i c;refine⟨r.toNat,by omega,?_⟩;split at h
  ·cases h
  ·rename_i m gm;split at h
   ·cases h
   ·exact⟨m,gm,Yb h⟩
theorem getD_map {B:List Bx} {j:Nat} {q:Bx} (h:B[j]?=some q):(B.map Bx.l).getD j []=q.l:=by
 rw[Yo,Yd,h];rfl
set_option maxHeartbeats 3200000 in
theorem do27 (L:List MR) (s:Sl) (k:Int) (ss sb:Sl) (S:List Int) (B:List Bx) (r i:Int) (h:Heap) (hS:SyI h s L) (hC:CfI h ss sb S B) :
  Fn Pz 27 #[.slice s.a s.n s.c,.int .i64 k,.agg ⟨[.slice ss.a ss.n ss.c,.slice sb.a sb.n sb.c]⟩,.agg ⟨[.int .i64 r,.int .i64 i]⟩] h (DoV (doS (L.map MR.m) k S (B.map Bx.l) r i) h):=by
 apply vc27 s k ss sb r i;unfold W27 V27a;have hn:=hS.r.ln;have hlm:(L.map MR.m).length=s.n:=by rw[Yc,hn]
 have hbm:(B.map Bx.l).length=B.length:=Yc _;refine (St.refl h).newb fun h5 hs=>?_;refine hs.newb fun h6 hs=>?_;refine hs.newb fun h7 hs=>?_;refine⟨ss,sb,hs.at 2 rfl (o:=0) (n:=2) rfl,?_⟩;refine (proper24 L s k ss sb S B h7 (hS.ext hs.ext) (hC.ext hs.ext)).mono ?_;rintro _ h12 ⟨⟨b,rfl,hb⟩,E⟩;have hs:=hs.step E;refine⟨_,rfl,sB_intro (fun c=>?_) (fun c=>?_)⟩
 ·have hnp:¬ProS (L.map MR.m) k S (B.map Bx.l):=fun hp=>by rw[hb.2 hp] at c;cases c
  refine hs.put 0 rfl (o:=0) (vs:=[.slice none 0 0,.slice none 0 0]) rfl (show 2<=2 by decide) fun h13 hs=>?_;exact⟨⟨none,0,0⟩,⟨none,0,0⟩,hs.at 0 rfl (o:=0) (n:=2) rfl,DoV.none_ hs (by unfold doS;rw[if_neg hnp])⟩
 have hP:=hb.1 (bT c);have hV6:=hP.v.n;have hSl:S.length=s.n:=by rw[hP.p.s,hlm]
 have hBl:B.length=s.n*s.n:=by rw[<-hbm,hP.p.b,hlm]
 rw[hlm] at hV6;have h36:=sq6 hV6.2;refine⟨r,i,hs.at 1 rfl (o:=0) (n:=2) rfl,?_⟩;refine (move57 L s r i h12 (hS.ext hs.ext)).mono ?_;rintro v h26 ⟨hv,E⟩;have hs:=hs.step E;cases hmo:mvO (L.map MR.m) r i with
 | none=>
  rw[hmo] at hv;subst hv;refine⟨_,_,_,_,_,_,false,rfl,?_⟩;refine hs.newput (vs:=mv00.cs) rfl rfl fun h28 hs=>sB_t rfl ?_;refine hs.put 1 rfl (o:=0) (vs:=[.slice none 0 0,.slice none 0 0]) rfl (show 2<=2 by decide) fun h29 hs=>?_;exact⟨⟨none,0,0⟩,⟨none,0,0⟩,hs.at 1 rfl (o:=0) (n:=2) rfl,DoV.none_ hs (by unfold doS;rw[if_pos hP,hmo])⟩
 | some x=>
  rw[hmo] at hv;subst hv;have hdo:doS (L.map MR.m) k S (B.map Bx.l) r i=if canS s.n k S (B.map Bx.l) r.toNat x=0 then (0,S.set r.toNat x.t,doB s.n r.toNat x (B.map Bx.l)) else (canS s.n k S (B.map Bx.l) r.toNat x,[],[]):=by
   unfold doS;rw[if_pos hP,hmo,<-hlm]
  obtain⟨p,rfl,m,gm,hxm⟩:=mvO_some hmo;rw[hdo];clear hdo hmo;rw[Ys];have hp:p<s.n:=by rw[<-hlm];exact (Ya.1 gm).1
  have hvm:=hP.v.m p m gm;have hx0:0<=x.peer:=(hvm.2.1.n.mv x hxm).2.2.2.2.1;have hx1:x.peer<(s.n:Int):=by have:=hvm.2.2 x hxm;rw[hlm] at this;exact this
  have hj:=bxI_lt (n:=s.n) (x:=x) hp hx0 hx1;refine⟨x.f,x.send,x.peer,x.label,x.t,x.ag,true,rfl,?_⟩;refine hs.newput (vs:=x.cs) rfl rfl fun h28 hs=>sB_f rfl ?_;refine⟨ss,sb,hs.at 3 rfl (o:=0) (n:=2) rfl,(p:Int),hs.rd 2 rfl (i:=0) rfl,x.f,x.send,x.peer,x.label,x.t,x.ag,hs.at 0 rfl (o:=0) (n:=6) rfl,?_⟩;refine (can58 s.n k ss sb S B p x h28 (hC.ext hs.ext) hV6.2 hSl hBl hp hx0 hx1).mono ?_;rintro _ h43 ⟨rfl,E⟩;have hs:=hs.step E;refine⟨_,rfl,sBn (fun c=>?_) (fun c=>?_)⟩
  ·refine hs.put 1 rfl (o:=0) (vs:=[.slice none 0 0,.slice none 0 0]) rfl (show 2<=2 by decide) fun h29 hs=>?_;exact⟨⟨none,0,0⟩,⟨none,0,0⟩,hs.at 1 rfl (o:=0) (n:=2) rfl,DoV.none_ hs (by rw[if_neg c])⟩
  rw[if_pos c];refine⟨ss,sb,hs.at 3 rfl (o:=0) (n:=2) rfl,?_⟩;refine (clone59 ss sb S B h43 (hC.ext hs.ext)).mono ?_;rintro _ h52 ⟨ts,tb,T,rfl,hT,hs2⟩;have hs:=hs.join hs2;have hTl:T.length=B.length:=by rw[<-Yc (f:=Bx.l),hT,hbm]
  refine⟨ts,tb,rfl,?_⟩;refine hs.newput (vs:=[.slice ts.a ts.n ts.c,.slice tb.a tb.n tb.c]) rfl rfl fun h54 hs=>?_;have hts:=(hs.rows 5 (s:=ts) (cs:=inC) rfl (by omega)).ln;have htb:=(hs.rows 6 (s:=tb) (cs:=Bx.cs) rfl (by omega)).ln;refine⟨ts,hs.rd 0 rfl (i:=0) rfl,(p:Int),hs.rd 3 rfl (i:=0) rfl,x.t,hs.rd 1 rfl (i:=4) rfl,?_⟩;refine hs.set 5 (s:=ts) (cs:=inC) (x:=(p:Int)) rfl (by omega) (by omega) (by omega) x.t rfl rfl (fun b o h60 hs=>?_) rfl;refine⟨(p:Int),hs.rd 3 rfl (i:=0) rfl,x.f,x.send,x.peer,x.label,x.t,x.ag,hs.at 1 rfl (o:=0) (n:=6) rfl,?_⟩;refine (box60 s.n p x h60 hV6.2 hp hx0 hx1).mono ?_;rintro _ h70 ⟨rfl,E⟩;have hs:=hs.step E;rw[Ys] at hs;have hBd:=hP.p.bx;unfold doB;generalize hjj:bxI s.n p x=j at hj ⊢;obtain⟨q,gq⟩:=get_some (l:=T) (i:=j) (by omega);have hql:(B.map Bx.l).getD j []=q.l:=by rw[<-hT];exact getD_map gq
  have hqb:(B.map Bx.l)[j]?=some q.l:=by rw[<-hT,Yd,gq];rfl
  have hqk:=(hBd j q.l hqb).1;have hk4:=hP.c.2;have hall:∀z∈T,z.l.length<=4:=fun z hz=>by
   obtain⟨j',gj⟩:=Yf.1 hz;have:=(hBd j' z.l (by rw[<-hT,Yd,gj];rfl)).1;omega
  have hsl:(S.set p x.t).length<=1048576:=by rw[Yyh];omega
  have rdB:∀ {h':Heap} {L':List It} {F:Nat->Nat->Prop} (kk:Nat),St h h' L'->L'[kk]?=some (.sl tb 25 1 (T.map Bx.cs))->(∀b o,hc h' ⟨b,o+Int.toNat (j:Int)*1,none⟩=some (.slice q.s.a q.s.n q.s.c)->F b o)->NB tb.a fun b o=>(0<=(j:Int)/\(j:Int)<(tb.n:Nat))/\F b o:=fun kk hs hk hF=>
   (hs.rows kk (s:=tb) (cs:=Bx.cs) hk (by omega)).nbI (by omega) (by omega) fun b o q' gq' t=>by
    rw[Ys,gq] at gq';cases gq';exact hF b o t.hd
  refine⟨(j:Int),rfl,x.send,hs.rd 1 rfl (i:=1) rfl,sB_intro (fun d=>?_) (fun d=>?_)⟩
  ·rw[if_pos d];refine⟨tb,hs.rd 0 rfl (i:=1) rfl,tb,hs.rd 0 rfl (i:=1) rfl,rdB 6 hs rfl fun b o t=>?_⟩;refine⟨q.s,t,x.label,hs.rd 1 rfl (i:=3) rfl,?_⟩;refine hs.newbE fun h78 E78 hs=>⟨E78.sm,?_⟩;have hs78:=hs;have hqi:(T.map Bx.it)[j]?=some q.it:=by rw[Yd,gq];rfl
   have hqn:=(hs.len (j+8) (s:=q.s) (e:=3) (n:=1) (rows:=q.l.map inC) hqi (by omega)).1;rw[Yc] at hqn;have hq4:=hall q (Yb gq);refine hs.appended (j+8) (s:=q.s) (n:=1) (rows:=q.l.map inC) hqi app42 (m:=1) (news:=[inC x.label]) (hs.at 0 rfl (n:=1) rfl) rfl (by simp[inC]) rfl (by omega) (by simp only[maxLen];omega) fun u h80 nr hs=>?_;refine⟨hs78.smbO hs 1 1 1 rfl rfl,?_⟩;refine hs.set 7 (s:=tb) (cs:=Bx.cs) (x:=(j:Int)) rfl (by omega) (by omega) (by omega) (⟨u,q.l++[x.label]⟩:Bx) rfl rfl (fun b o h83 hs=>?_) rfl;refine⟨ts,tb,hs.at 1 rfl (o:=0) (n:=2) rfl,?_⟩;refine hs.put 3 rfl (o:=0) (vs:=[.slice ts.a ts.n ts.c,.slice tb.a tb.n tb.c]) rfl (show 2<=2 by decide) fun h86 hs=>?_;rw[Ys] at hs;refine⟨ts,tb,hs.at 3 rfl (o:=0) (n:=2) rfl,ts,tb,T.set j ⟨u,q.l++[x.label]⟩,_,rfl,?_,hs,?_⟩
   ·rw[List.map_set,hT,hql]
   ·refine⟨Yb (i:=6) rfl,Yb (i:=7) rfl,fun z hz=>.inr (.inl ?_),hsl,by rw[Yyh];omega,fun z hz=>?_⟩
    ·obtain⟨j',gj⟩:=Yf.1 hz;refine Yb (i:=j'+8) ?_;show ((T.map Bx.it).set j (.sl u 3 1 (q.l.map inC++[inC x.label])))[j']?=_;have e1:It.sl u 3 1 (q.l.map inC++[inC x.label])=Bx.it ⟨u,q.l++[x.label]⟩:=by unfold Bx.it;rw[Ym];rfl
     rw[e1,<-List.map_set,Yd,gj];rfl
    ·rcases List.mem_or_eq_of_mem_set hz with hz | rfl
     ·have:=hall z hz;omega
     ·show (q.l++[x.label]).length<=_;rw[Yh,Yv];omega
  ·rw[if_neg (by rw[d];decide)];have hqm:=Yb gq;have hqi:(T.map Bx.it)[j]?=some q.it:=by rw[Yd,gq];rfl
   have hql2:=hs.len (j+7) (s:=q.s) (e:=3) (n:=1) (rows:=q.l.map inC) hqi (by omega);have hqn:=hql2.1;rw[Yc] at hqn;obtain⟨tl,hqe⟩:∃tl,q.l=x.label::tl:=by
    unfold canS at c;rw[hjj,hql] at c;split at c
    ·exact absurd c (by decide)
    ·rw[if_neg (by rw[d];decide)] at c;cases hq:q.l with
     | nil=>rw[hq] at c;exact absurd c (show ¬((23:Int)=0) by decide)
     | cons l tl=>
      rw[hq] at c;dsimp only at c;split at c
      ·exact absurd c (by decide)
      ·rename_i e;exact⟨tl,by rw[Classical.not_not.1 e]⟩
   have hqn1:q.s.n=tl.length+1:=by rw[hqn,hqe,Yyj]
   refine⟨tb,hs.rd 0 rfl (i:=1) rfl,tb,hs.rd 0 rfl (i:=1) rfl,rdB 6 hs rfl fun b o t=>?_⟩;refine⟨q.s,t,⟨by omega,by omega,by have:=hql2.2.1;omega⟩,?_⟩;refine hs.set 6 (s:=tb) (cs:=Bx.cs) (x:=(j:Int)) rfl (by omega) (by omega) (by omega) (⟨⟨subA q.s.a (Int.toNat 1) q.s.c 1,Int.toNat (q.s.n:Nat)-Int.toNat 1,q.s.c-Int.toNat 1⟩,tl⟩:Bx) rfl rfl (fun b o h83 hs=>?_) rfl;refine⟨ts,tb,hs.at 0 rfl (o:=0) (n:=2) rfl,?_⟩;refine hs.put 2 rfl (o:=0) (vs:=[.slice ts.a ts.n ts.c,.slice tb.a tb.n tb.c]) rfl (show 2<=2 by decide) fun h86 hs=>?_;rw[Ys] at hs;refine⟨ts,tb,hs.at 2 rfl (o:=0) (n:=2) rfl,?_⟩;generalize hnw:(⟨⟨subA q.s.a (Int.toNat 1) q.s.c 1,Int.toNat (q.s.n:Nat)-Int.toNat 1,q.s.c-Int.toNat 1⟩,tl⟩:Bx)=nw at hs;have hs:=hs.sub (L':=.sl ts 3 1 ((S.set p x.t).map inC) :: .sl tb 25 1 ((T.set j nw).map Bx.cs)::T.map Bx.it) (.cons _ (.cons _ (.cons _ (.cons _ (.cons _ (.refl _))))));have hjt:j<T.length:=(Ya.1 gq).1;have hgj:T[j]=q:=(Ya.1 gq).2;have hp0:(T.map Bx.it).Perm (.sl q.s 3 1 (inC x.label::tl.map inC)::(T.eraseIdx j).map Bx.it):=by
    have h1:(T.map Bx.it).Perm ((T[j]::T.eraseIdx j).map Bx.it):=by
     rw[List.eraseIdx_eq_take_drop_succ];have e2:T=T.take j++T[j]::T.drop (j+1):=by rw[List.getElem_cons_drop,List.take_append_drop]
     have h2:T.Perm (T[j]::(T.take j++T.drop (j+1))):=by
      conv=>lhs;rw[e2]
      exact List.perm_middle
     exact h2.map _
    rw[Yyl,hgj] at h1;have e1:q.it=.sl q.s 3 1 (inC x.label::tl.map inC):=by unfold Bx.it;rw[hqe];rfl
    rw[e1] at h1;exact h1
   have hs:=hs.perm (((hp0.cons _).cons _).trans (List.perm_middle (l₁:=[_,_])));have hs:=(hs.toQ (by omega)).qtail;refine⟨ts,tb,T.set j nw,_,rfl,?_,hs,?_⟩
   ·rw[List.map_set,hT,hql,hqe,<-hnw];rfl
   ·refine⟨Yn _ Yx,Yn _ (Yn _ Yx),fun z hz=>.inr ?_,hsl,by rw[Yyh];omega,fun z hz=>?_⟩
    ·obtain⟨j',gj⟩:=Yf.1 hz;by_cases e:j'=j
     ·subst e;rw[Yq hjt] at gj;cases gj;refine .inr ?_;rw[<-hnw];exact Yx
     ·rw[Yy (Ne.symm e)] at gj;exact .inl (Yn _ (Yn _ (Yn _ (List.mem_map_of_mem (List.mem_eraseIdx_iff_getElem?.2 ⟨j',e,gj⟩)))))
    ·rcases List.mem_or_eq_of_mem_set hz with hz | rfl
     ·have:=hall z hz;omega
     ·rw[<-hnw];have:=hall q hqm;rw[hqe,Yyj] at this;show tl.length<=_;omega
end Go.VC
end

section
namespace Go.VC
open Go.Proofs Go.LexS
def xm0:Mch:=⟨0,2,0,[false,true],[⟨0,true,1,0,1,false⟩,⟨0,true,1,1,1,false⟩],[]⟩
theorem xm0_get (i:Nat) (x:Mv) (h:xm0.mv[i]?=some x):(i=0/\x=⟨0,true,1,0,1,false⟩)\/(i=1/\x=⟨0,true,1,1,1,false⟩):=by
 match i,h with
 | 0,h=>exact .inl ⟨rfl,(Yyp h).symm⟩
 | 1,h=>exact .inr ⟨rfl,(Yyp h).symm⟩
 | n+2,h=>exact absurd h (by simp[xm0])
theorem xm0_mem (x:Mv) (h:x∈xm0.mv):x=⟨0,true,1,0,1,false⟩\/x=⟨0,true,1,1,1,false⟩:=by
 obtain⟨i,hi⟩:=Yf.1 h;rcases xm0_get i x hi with ⟨_,e⟩ | ⟨_,e⟩
 ·exact .inl e
 ·exact .inr e
theorem xm0_ag (x:Mv) (h:x∈xm0.mv):x.ag=false:=by
 rcases xm0_mem x h with rfl | rfl<;>rfl
theorem xm0_vm:VM xm0:=by
 refine⟨⟨⟨by decide,by decide⟩,⟨by decide,by decide⟩,⟨by decide,by decide⟩,rfl,by decide,fun x hx=>?_⟩,fun i k x y hx hy hne hf=>?_,fun v h0 h1=>?_,⟨fun x hx ha=>?_,fun x hx ha=>?_,fun x hx ha=>?_,fun x hx ha=>?_,fun x hx ha=>?_⟩,fun i t h=>?_⟩
 ·rcases xm0_mem x hx with rfl | rfl<;>decide
 ·rcases xm0_get i x hx with ⟨rfl,rfl⟩ | ⟨rfl,rfl⟩<;>rcases xm0_get k y hy with ⟨rfl,rfl⟩ | ⟨rfl,rfl⟩<;>first
   | exact absurd rfl hne
   | exact absurd hf (by decide)
   | exact⟨fun e=>absurd (congrArg Ev.label e) (by decide),rfl⟩
 ·have q0:Qr (meds xm0) (-1) [xm0.s] 0:=.base (Ye.2 rfl);have q1:Qr (meds xm0) (-1) [xm0.s] 1:=.step q0 ⟨⟨0,0,0,0,1,false⟩,Yp.2 ⟨⟨0,true,1,0,1,false⟩,by simp[xm0],rfl⟩,rfl,rfl,rfl⟩;have h1:v<2:=h1;have:v=0\/v=1:=by omega
  rcases this with rfl | rfl
  ·exact q0
  ·exact q1
 ·rw[xm0_ag x hx] at ha;cases ha
 ·rw[xm0_ag x hx] at ha;cases ha
 ·rw[xm0_ag x hx] at ha;cases ha
 ·rw[xm0_ag x hx] at ha;cases ha
 ·rw[xm0_ag x hx] at ha;cases ha
 ·simp[xm0] at h
def xm1:Mch:=⟨1,6,0,[false,false,false,false,false,true],[⟨0,false,0,0,1,false⟩,⟨0,false,0,1,2,false⟩,⟨1,true,2,0,3,false⟩,⟨2,true,2,1,4,false⟩,⟨3,false,2,2,5,false⟩,⟨4,false,2,3,5,false⟩],[]⟩
theorem xm1_get (i:Nat) (x:Mv) (h:xm1.mv[i]?=some x):(i=0/\x=⟨0,false,0,0,1,false⟩)\/(i=1/\x=⟨0,false,0,1,2,false⟩)\/(i=2/\x=⟨1,true,2,0,3,false⟩)\/(i=3/\x=⟨2,true,2,1,4,false⟩)\/(i=4/\x=⟨3,false,2,2,5,false⟩)\/(i=5/\x=⟨4,false,2,3,5,false⟩):=by
 match i,h with
 | 0,h=>exact .inl ⟨rfl,(Yyp h).symm⟩
 | 1,h=>exact .inr (.inl ⟨rfl,(Yyp h).symm⟩)
 | 2,h=>exact .inr (.inr (.inl ⟨rfl,(Yyp h).symm⟩))
 | 3,h=>exact .inr (.inr (.inr (.inl ⟨rfl,(Yyp h).symm⟩)))
 | 4,h=>exact .inr (.inr (.inr (.inr (.inl ⟨rfl,(Yyp h).symm⟩))))
 | 5,h=>exact .inr (.inr (.inr (.inr (.inr ⟨rfl,(Yyp h).symm⟩))))
 | n+6,h=>exact absurd h (by simp[xm1])
theorem xm1_mem (x:Mv) (h:x∈xm1.mv):x=⟨0,false,0,0,1,false⟩\/x=⟨0,false,0,1,2,false⟩\/x=⟨1,true,2,0,3,false⟩\/x=⟨2,true,2,1,4,false⟩\/x=⟨3,false,2,2,5,false⟩\/x=⟨4,false,2,3,5,false⟩:=by
 obtain⟨i,hi⟩:=Yf.1 h;rcases xm1_get i x hi with ⟨_,e⟩ | ⟨_,e⟩ | ⟨_,e⟩ | ⟨_,e⟩ | ⟨_,e⟩ | ⟨_,e⟩
 ·exact .inl e
 ·exact .inr (.inl e)
 ·exact .inr (.inr (.inl e))
 ·exact .inr (.inr (.inr (.inl e)))
 ·exact .inr (.inr (.inr (.inr (.inl e))))
 ·exact .inr (.inr (.inr (.inr (.inr e))))
theorem xm1_ag (x:Mv) (h:x∈xm1.mv):x.ag=false:=by
 rcases xm1_mem x h with rfl | rfl | rfl | rfl | rfl | rfl<;>rfl
theorem xm1_vm:VM xm1:=by
 refine⟨⟨⟨by decide,by decide⟩,⟨by decide,by decide⟩,⟨by decide,by decide⟩,rfl,by decide,fun x hx=>?_⟩,fun i k x y hx hy hne hf=>?_,fun v h0 h1=>?_,⟨fun x hx ha=>?_,fun x hx ha=>?_,fun x hx ha=>?_,fun x hx ha=>?_,fun x hx ha=>?_⟩,fun i t h=>?_⟩
 ·rcases xm1_mem x hx with rfl | rfl | rfl | rfl | rfl | rfl<;>decide
 ·rcases xm1_get i x hx with ⟨rfl,rfl⟩ | ⟨rfl,rfl⟩ | ⟨rfl,rfl⟩ | ⟨rfl,rfl⟩ | ⟨rfl,rfl⟩ | ⟨rfl,rfl⟩<;>rcases xm1_get k y hy with ⟨rfl,rfl⟩ | ⟨rfl,rfl⟩ | ⟨rfl,rfl⟩ | ⟨rfl,rfl⟩ | ⟨rfl,rfl⟩ | ⟨rfl,rfl⟩<;>first
   | exact absurd rfl hne
   | exact absurd hf (by decide)
   | exact⟨fun e=>absurd (congrArg Ev.label e) (by decide),rfl⟩
 ·have q0:Qr (meds xm1) (-1) [xm1.s] 0:=.base (Ye.2 rfl);have q1:Qr (meds xm1) (-1) [xm1.s] 1:=.step q0 ⟨⟨0,0,0,0,1,false⟩,Yp.2 ⟨⟨0,false,0,0,1,false⟩,by simp[xm1],rfl⟩,rfl,rfl,rfl⟩;have q2:Qr (meds xm1) (-1) [xm1.s] 2:=.step q0 ⟨⟨0,0,0,0,2,false⟩,Yp.2 ⟨⟨0,false,0,1,2,false⟩,by simp[xm1],rfl⟩,rfl,rfl,rfl⟩;have q3:Qr (meds xm1) (-1) [xm1.s] 3:=.step q1 ⟨⟨1,0,0,0,3,false⟩,Yp.2 ⟨⟨1,true,2,0,3,false⟩,by simp[xm1],rfl⟩,rfl,rfl,rfl⟩;have q4:Qr (meds xm1) (-1) [xm1.s] 4:=.step q2 ⟨⟨2,0,0,0,4,false⟩,Yp.2 ⟨⟨2,true,2,1,4,false⟩,by simp[xm1],rfl⟩,rfl,rfl,rfl⟩;have q5:Qr (meds xm1) (-1) [xm1.s] 5:=.step q3 ⟨⟨3,0,0,0,5,false⟩,Yp.2 ⟨⟨3,false,2,2,5,false⟩,by simp[xm1],rfl⟩,rfl,rfl,rfl⟩;have h1:v<6:=h1;have:v=0\/v=1\/v=2\/v=3\/v=4\/v=5:=by omega
  rcases this with rfl | rfl | rfl | rfl | rfl | rfl
  ·exact q0
  ·exact q1
  ·exact q2
  ·exact q3
  ·exact q4
  ·exact q5
 ·rw[xm1_ag x hx] at ha;cases ha
 ·rw[xm1_ag x hx] at ha;cases ha
 ·rw[xm1_ag x hx] at ha;cases ha
 ·rw[xm1_ag x hx] at ha;cases ha
 ·rw[xm1_ag x hx] at ha;cases ha
 ·simp[xm1] at h
def xm2:Mch:=⟨2,4,0,[false,false,false,true],[⟨0,false,1,0,1,false⟩,⟨0,false,1,1,2,false⟩,⟨1,true,1,2,3,false⟩,⟨2,true,1,3,3,false⟩],[]⟩
theorem xm2_get (i:Nat) (x:Mv) (h:xm2.mv[i]?=some x):(i=0/\x=⟨0,false,1,0,1,false⟩)\/(i=1/\x=⟨0,false,1,1,2,false⟩)\/(i=2/\x=⟨1,true,1,2,3,false⟩)\/(i=3/\x=⟨2,true,1,3,3,false⟩):=by
 match i,h with
 | 0,h=>exact .inl ⟨rfl,(Yyp h).symm⟩
 | 1,h=>exact .inr (.inl ⟨rfl,(Yyp h).symm⟩)
 | 2,h=>exact .inr (.inr (.inl ⟨rfl,(Yyp h).symm⟩))
 | 3,h=>exact .inr (.inr (.inr ⟨rfl,(Yyp h).symm⟩))
 | n+4,h=>exact absurd h (by simp[xm2])
theorem xm2_mem (x:Mv) (h:x∈xm2.mv):x=⟨0,false,1,0,1,false⟩\/x=⟨0,false,1,1,2,false⟩\/x=⟨1,true,1,2,3,false⟩\/x=⟨2,true,1,3,3,false⟩:=by
 obtain⟨i,hi⟩:=Yf.1 h;rcases xm2_get i x hi with ⟨_,e⟩ | ⟨_,e⟩ | ⟨_,e⟩ | ⟨_,e⟩
 ·exact .inl e
 ·exact .inr (.inl e)
 ·exact .inr (.inr (.inl e))
 ·exact .inr (.inr (.inr e))
theorem xm2_ag (x:Mv) (h:x∈xm2.mv):x.ag=false:=by
 rcases xm2_mem x h with rfl | rfl | rfl | rfl<;>rfl
theorem xm2_vm:VM xm2:=by
 refine⟨⟨⟨by decide,by decide⟩,⟨by decide,by decide⟩,⟨by decide,by decide⟩,rfl,by decide,fun x hx=>?_⟩,fun i k x y hx hy hne hf=>?_,fun v h0 h1=>?_,⟨fun x hx ha=>?_,fun x hx ha=>?_,fun x hx ha=>?_,fun x hx ha=>?_,fun x hx ha=>?_⟩,fun i t h=>?_⟩
 ·rcases xm2_mem x hx with rfl | rfl | rfl | rfl<;>decide
 ·rcases xm2_get i x hx with ⟨rfl,rfl⟩ | ⟨rfl,rfl⟩ | ⟨rfl,rfl⟩ | ⟨rfl,rfl⟩<;>rcases xm2_get k y hy with ⟨rfl,rfl⟩ | ⟨rfl,rfl⟩ | ⟨rfl,rfl⟩ | ⟨rfl,rfl⟩<;>first
   | exact absurd rfl hne
   | exact absurd hf (by decide)
   | exact⟨fun e=>absurd (congrArg Ev.label e) (by decide),rfl⟩
 ·have q0:Qr (meds xm2) (-1) [xm2.s] 0:=.base (Ye.2 rfl);have q1:Qr (meds xm2) (-1) [xm2.s] 1:=.step q0 ⟨⟨0,0,0,0,1,false⟩,Yp.2 ⟨⟨0,false,1,0,1,false⟩,by simp[xm2],rfl⟩,rfl,rfl,rfl⟩;have q2:Qr (meds xm2) (-1) [xm2.s] 2:=.step q0 ⟨⟨0,0,0,0,2,false⟩,Yp.2 ⟨⟨0,false,1,1,2,false⟩,by simp[xm2],rfl⟩,rfl,rfl,rfl⟩;have q3:Qr (meds xm2) (-1) [xm2.s] 3:=.step q1 ⟨⟨1,0,0,0,3,false⟩,Yp.2 ⟨⟨1,true,1,2,3,false⟩,by simp[xm2],rfl⟩,rfl,rfl,rfl⟩;have h1:v<4:=h1;have:v=0\/v=1\/v=2\/v=3:=by omega
  rcases this with rfl | rfl | rfl | rfl
  ·exact q0
  ·exact q1
  ·exact q2
  ·exact q3
 ·rw[xm2_ag x hx] at ha;cases ha
 ·rw[xm2_ag x hx] at ha;cases ha
 ·rw[xm2_ag x hx] at ha;cases ha
 ·rw[xm2_ag x hx] at ha;cases ha
 ·rw[xm2_ag x hx] at ha;cases ha
 ·simp[xm2] at h
def xr0:Mch:=⟨0,3,0,[false,true,true],[⟨0,true,1,0,1,false⟩,⟨0,true,1,1,2,false⟩],[]⟩
theorem xr0_raw (hr hd he ht:Sl):rawC (exGl true hr hd he ht) 0=some (some xr0,0):=by kernel_rfl
theorem xm1_raw (hr hd he ht:Sl):rawC (exGl true hr hd he ht) 1=some (some xm1,0):=by kernel_rfl
theorem xm2_raw (hr hd he ht:Sl):rawC (exGl true hr hd he ht) 2=some (some xm2,0):=by kernel_rfl
theorem xm0_min:minF xr0=xm0:=by kernel_rfl
theorem xm1_min:minF xm1=xm1:=by kernel_rfl
theorem xm2_min:minF xm2=xm2:=by kernel_rfl
theorem xproj (hr hd he ht:Sl) (i:Int) (w m:Mch) (h0:0<=i) (h3:i<((3:Nat):Int)) (hw:rawC (exGl true hr hd he ht) i=some (some w,0)) (hm:minF w=m):proj (exGl true hr hd he ht) i=(some m,0):=by
 have:=rawC_ok (ex_valid true hr hd he ht) h0 h3 hw;unfold proj;rw[this];show (some (minF w),0)=_;rw[hm]
def xL:List Mch:=[xm0,xm1,xm2]
theorem xsys:SysV xL:=by
 refine⟨⟨by decide,by decide⟩,fun p m h=>?_⟩
 match p,h with
 | 0,h=>cases h;exact⟨rfl,xm0_vm,fun x hx=>by rcases xm0_mem x hx with rfl | rfl<;>decide⟩
 | 1,h=>cases h;exact⟨rfl,xm1_vm,fun x hx=>by rcases xm1_mem x hx with rfl | rfl | rfl | rfl | rfl | rfl<;>decide⟩
 | 2,h=>cases h;exact⟨rfl,xm2_vm,fun x hx=>by rcases xm2_mem x hx with rfl | rfl | rfl | rfl<;>decide⟩
 | n+3,h=>exact absurd h (by simp[xL])
theorem stepsP_of {n:Nat} {k:Int} {S:List Int} {BL:List (List Int)} {p:Nat} {m:Mch} (hD:DetM m) {O:List Nat} (h1:(List.range m.mv.length).filter (posB n k S BL p m)=O) (h2:O.Pairwise fun a b=>¬evLt (evI m b) (evI m a)):stepsP n k S BL p m=O:=(steps_uniq hD (by rw[h1]) h2).symm

end Go.VC
end

section
namespace Go.VC
open Go.Proofs

end Go.VC
end

section
namespace Go.VC
open Go.Proofs
variable {h:Heap} {R:Value->Heap->Prop}

def W83 (p0:Sl) (p1:FuncId):Prop:=
 Fn Pz 121 #[vS p0,.func (.func p1) #[] #[]] h
 (fun v1 h3=>∃x2,iI v1 x2 /\
 R (.bool (decide (x2>=0))) h3)
theorem vc83 (p0:Sl) (p1:FuncId) (H:@W83 h R p0 p1):Fn Pz 83 #[vS p0,.func (.func p1) #[] #[]] h R:=fnI (A:=.z) (by kernel_rfl) H

def W121 (p0:Sl) (p1:FuncId):Prop:=
 QI 0 h fun I1 x_4 h5 m3=>
 sB (decide (x_4<(p0.n:Int)))
 (NB p0.a fun b6 o7=>Ib x_4 p0.n /\
 ∃x8,rS h5 ⟨b6,o7+Int.toNat x_4*1,none⟩ x8 /\
 bif callable Pz p1 then Fn Pz p1 #[vS x8] h5
 (fun v9 h11=>∃x10,iB v9 x10 /\
 sB x10
 (R (vI x_4) h11)
 (∃m12,m12<m3/\I1 (IntKind.wrap .i64 (x_4+1)) h11 m12)) else ExtW Pz p1 #[vS x8] h5
 (fun v9 h11=>∃x10,iB v9 x10 /\
 sB x10
 (R (vI x_4) h11)
 (∃m12,m12<m3/\I1 (IntKind.wrap .i64 (x_4+1)) h11 m12)))
 (R (vI (-1)) h5)
theorem vc121 (p0:Sl) (p1:FuncId) (H:@W121 h R p0 p1):Fn Pz 121 #[vS p0,.func (.func p1) #[] #[]] h R:=fnI (A:=(.s .z (.s (.s .z (.b (.l [(8,.one (.int .i64))] .z))) .z))) (by kernel_rfl) H

end Go.VC
end

section
namespace Go.VC
open Go.Proofs Go.LexS
structure FinS (L:List Mch) (S:List Int) (BL:List (List Int)):Prop where
 s:∀(p:Nat) s m,S[p]?=some s->L[p]?=some m->m.fin[s.toNat]?=some true
 b:∀b∈BL,b=[]

def tailN (p0:Sl) (ob b0 b5 b6 b7:Nat) (h0:Heap) (R:Value->Heap->Prop):Prop:=
 (∃x33,rS h0 ⟨ob,0,none⟩ x33 /\ 
 (∃x34,rI h0 ⟨b5,0,none⟩ x34 /\ 
 (∃x35,rI h0 ⟨b7,4,none⟩ x35 /\ 
 (NB x33.a fun b36 o37=>(Ib x34 x33.n /\ 
 (Wp h0 ⟨b36,o37+Int.toNat x34*1,none⟩ 1 [vI x35] fun h38=>
 (∃x39,rB h38 ⟨b7,1,none⟩ x39 /\ 
 (sB x39 
 ((∃x40,rI h38 ⟨b5,0,none⟩ x40 /\ 
 (∃x41,rI h38 ⟨b7,2,none⟩ x41 /\ 
 (∃x42,rS h38 ⟨ob,1,none⟩ x42 /\ 
 (∃x43,rS h38 ⟨b0,1,none⟩ x43 /\ 
 (NB x43.a fun b44 o45=>((0<=((IntKind.wrap .i64 ((IntKind.wrap .i64 ((p0.n:Int)*x40))+x41)):Int)/\((IntKind.wrap .i64 ((IntKind.wrap .i64 ((p0.n:Int)*x40))+x41)):Int)<(x43.n:Nat)) /\ 
 (∃x46,rS h38 ⟨b44,o45+Int.toNat (IntKind.wrap .i64 ((IntKind.wrap .i64 ((p0.n:Int)*x40))+x41))*1,none⟩ x46 /\ 
 (∃x47,rI h38 ⟨b7,3,none⟩ x47 /\ 
 ((Wn h38 [] 3 fun h48=>
 (Sm [⟨b7,3,none⟩,⟨b44,o45+Int.toNat (IntKind.wrap .i64 ((IntKind.wrap .i64 ((p0.n:Int)*x40))+x41))*1,none⟩,⟨b0,1,none⟩,⟨ob,1,none⟩] h38 h48 /\ 
 ((App Pz 25 25 (.slice (some (aS h38 0)) 0 0) (vS x46) h48 fun s49 h50=>
 (Sm [⟨b7,3,none⟩,⟨ob,1,none⟩] h48 h50 /\ 
 (Wn h50 [vI x47] 3 fun h51=>
 (Sm [⟨b44,o45+Int.toNat (IntKind.wrap .i64 ((IntKind.wrap .i64 ((p0.n:Int)*x40))+x41))*1,none⟩,⟨b0,1,none⟩,⟨ob,1,none⟩] h50 h51 /\ 
 (App Pz 25 25 (vS s49) (.slice (some (aS h50 0)) 1 1) h51 fun s52 h53=>
 (Sm [⟨ob,1,none⟩] h51 h53 /\ 
 (NB x42.a fun b54 o55=>((0<=((IntKind.wrap .i64 ((IntKind.wrap .i64 ((p0.n:Int)*x40))+x41)):Int)/\((IntKind.wrap .i64 ((IntKind.wrap .i64 ((p0.n:Int)*x40))+x41)):Int)<(x42.n:Nat)) /\ 
 (Wp h53 ⟨b54,o55+Int.toNat (IntKind.wrap .i64 ((IntKind.wrap .i64 ((p0.n:Int)*x40))+x41))*1,none⟩ 1 [vS s52] fun h56=>
 (∃x57:Sl,∃x58:Sl,atC h56 ⟨ob,0,none⟩ [vS x57,vS x58] /\ 
 (Wp h56 ⟨b6,0,none⟩ 2 [vS x57,vS x58] fun h59=>
 (∃x60:Sl,∃x61:Sl,atC h59 ⟨b6,0,none⟩ [vS x60,vS x61] /\ 
 R (.agg ⟨[vS x60,vS x61]⟩) h59)))))))))))))/\((Wn h48 [vI x47] 3 fun h62=>
 (Sm [⟨b44,o45+Int.toNat (IntKind.wrap .i64 ((IntKind.wrap .i64 ((p0.n:Int)*x40))+x41))*1,none⟩,⟨b0,1,none⟩,⟨ob,1,none⟩] h48 h62 /\ 
 (App Pz 25 25 (.slice (some (aS h38 0)) 0 0) (vS x46) h62 fun s63 h64=>
 (Sm [⟨b7,3,none⟩,⟨ob,1,none⟩] h62 h64 /\ 
 (App Pz 25 25 (vS s63) (.slice (some (aS h48 0)) 1 1) h64 fun s65 h66=>
 (Sm [⟨ob,1,none⟩] h64 h66 /\ 
 (NB x42.a fun b67 o68=>((0<=((IntKind.wrap .i64 ((IntKind.wrap .i64 ((p0.n:Int)*x40))+x41)):Int)/\((IntKind.wrap .i64 ((IntKind.wrap .i64 ((p0.n:Int)*x40))+x41)):Int)<(x42.n:Nat)) /\ 
 (Wp h66 ⟨b67,o68+Int.toNat (IntKind.wrap .i64 ((IntKind.wrap .i64 ((p0.n:Int)*x40))+x41))*1,none⟩ 1 [vS s65] fun h69=>
 (∃x70:Sl,∃x71:Sl,atC h69 ⟨ob,0,none⟩ [vS x70,vS x71] /\ 
 (Wp h69 ⟨b6,0,none⟩ 2 [vS x70,vS x71] fun h72=>
 (∃x73:Sl,∃x74:Sl,atC h72 ⟨b6,0,none⟩ [vS x73,vS x74] /\ 
 R (.agg ⟨[vS x73,vS x74]⟩) h72))))))))))))))))/\((Wn h38 [vI x47] 3 fun h75=>
 (Sm [⟨b44,o45+Int.toNat (IntKind.wrap .i64 ((IntKind.wrap .i64 ((p0.n:Int)*x40))+x41))*1,none⟩,⟨b0,1,none⟩,⟨ob,1,none⟩] h38 h75 /\ 
 (Wn h75 [] 3 fun h76=>
 (Sm [⟨b7,3,none⟩,⟨b44,o45+Int.toNat (IntKind.wrap .i64 ((IntKind.wrap .i64 ((p0.n:Int)*x40))+x41))*1,none⟩,⟨b0,1,none⟩,⟨ob,1,none⟩] h75 h76 /\ 
 (App Pz 25 25 (.slice (some (aS h75 0)) 0 0) (vS x46) h76 fun s77 h78=>
 (Sm [⟨b7,3,none⟩,⟨ob,1,none⟩] h76 h78 /\ 
 (App Pz 25 25 (vS s77) (.slice (some (aS h38 0)) 1 1) h78 fun s79 h80=>
 (Sm [⟨ob,1,none⟩] h78 h80 /\ 
 (NB x42.a fun b81 o82=>((0<=((IntKind.wrap .i64 ((IntKind.wrap .i64 ((p0.n:Int)*x40))+x41)):Int)/\((IntKind.wrap .i64 ((IntKind.wrap .i64 ((p0.n:Int)*x40))+x41)):Int)<(x42.n:Nat)) /\ 
 (Wp h80 ⟨b81,o82+Int.toNat (IntKind.wrap .i64 ((IntKind.wrap .i64 ((p0.n:Int)*x40))+x41))*1,none⟩ 1 [vS s79] fun h83=>
 (∃x84:Sl,∃x85:Sl,atC h83 ⟨ob,0,none⟩ [vS x84,vS x85] /\ 
 (Wp h83 ⟨b6,0,none⟩ 2 [vS x84,vS x85] fun h86=>
 (∃x87:Sl,∃x88:Sl,atC h86 ⟨b6,0,none⟩ [vS x87,vS x88] /\ 
 R (.agg ⟨[vS x87,vS x88]⟩) h86)))))))))))))))))))))))) 
 ((∃x89,rI h38 ⟨b7,2,none⟩ x89 /\ 
 (∃x90,rI h38 ⟨b5,0,none⟩ x90 /\ 
 (∃x91,rS h38 ⟨ob,1,none⟩ x91 /\ 
 (∃x92,rS h38 ⟨b0,1,none⟩ x92 /\ 
 (NB x92.a fun b93 o94=>((0<=((IntKind.wrap .i64 ((IntKind.wrap .i64 ((p0.n:Int)*x89))+x90)):Int)/\((IntKind.wrap .i64 ((IntKind.wrap .i64 ((p0.n:Int)*x89))+x90)):Int)<(x92.n:Nat)) /\ 
 (∃x95,rS h38 ⟨b93,o94+Int.toNat (IntKind.wrap .i64 ((IntKind.wrap .i64 ((p0.n:Int)*x89))+x90))*1,none⟩ x95 /\ 
 (((0:Int)<=(1:Int)/\(1:Int)<=((x95.n:Nat):Int)/\((x95.n:Nat):Int)<=(x95.c:Nat)) /\ 
 (Wn h38 [] 3 fun h96=>
 (Sm [⟨b93,o94+Int.toNat (IntKind.wrap .i64 ((IntKind.wrap .i64 ((p0.n:Int)*x89))+x90))*1,none⟩,⟨b0,1,none⟩,⟨ob,1,none⟩] h38 h96 /\ 
 (App Pz 25 25 (.slice (some (aS h38 0)) 0 0) (.slice (subA x95.a (Int.toNat 1) x95.c 1) (Int.toNat (x95.n:Nat)-Int.toNat 1) (x95.c-Int.toNat 1)) h96 fun s97 h98=>
 (Sm [⟨ob,1,none⟩] h96 h98 /\ 
 (NB x91.a fun b99 o100=>((0<=((IntKind.wrap .i64 ((IntKind.wrap .i64 ((p0.n:Int)*x89))+x90)):Int)/\((IntKind.wrap .i64 ((IntKind.wrap .i64 ((p0.n:Int)*x89))+x90)):Int)<(x91.n:Nat)) /\ 
 (Wp h98 ⟨b99,o100+Int.toNat (IntKind.wrap .i64 ((IntKind.wrap .i64 ((p0.n:Int)*x89))+x90))*1,none⟩ 1 [vS s97] fun h101=>
 (∃x102:Sl,∃x103:Sl,atC h101 ⟨ob,0,none⟩ [vS x102,vS x103] /\ 
 (Wp h101 ⟨b6,0,none⟩ 2 [vS x102,vS x103] fun h104=>
 (∃x105:Sl,∃x106:Sl,atC h104 ⟨b6,0,none⟩ [vS x105,vS x106] /\ 
 R (.agg ⟨[vS x105,vS x106]⟩) h104)))))))))))))))))))))))))))
theorem Sm_two {a b:Addr} {h h':Heap} (h1:Sm [a] h h') (h2:Sm [b] h h'):Sm [a,b] h h':=fun x hx k v hv=>by
 rcases Yr.1 hx with rfl | hx
 ·exact h1 _ Yx k v hv
 ·exact h2 _ hx k v hv
theorem Rw.tail1 {h:Heap} {s:Sl} {row:List Value} {rows:List (List Value)} (hr:Rw h 1 s (row::rows)) (hc:s.n<=s.c) (h1:1<=s.n):Rw h 1 ⟨subA s.a (Int.toNat 1) s.c 1,Int.toNat (s.n:Nat)-Int.toNat 1,s.c-Int.toNat 1⟩ rows/\subA s.a (Int.toNat 1) s.c 1≠none:=by
 obtain⟨e1,e2⟩:=hr;rw[Yyj] at e1;obtain⟨b,o,ha,hrow⟩:=e2 (by simp);have e3:Int.toNat (1:Int)=1:=rfl;rw[e3,Ys];refine⟨⟨by show s.n-1=_;omega,fun hp=>?_⟩,?_⟩
 ·have hc1:¬s.c=1:=by omega
  refine⟨b,o+1,?_,fun i r hi=>?_⟩
  ·show subA s.a 1 s.c 1=_;unfold subA;rw[if_neg hc1,ha,Option.map_some,Nat.one_mul,Addr.add_lit]
  ·have:=hrow (i+1) r hi
   rwa [show o+(i+1)*1=o+1+i*1 by omega] at this
 ·show subA s.a 1 s.c 1≠none;unfold subA;rw[ha];split<;>simp
def NexV (S:List Int) (B:List Bx) (p j:Nat) (x:Mv) (l:List Int) (h:Heap) (v:Value) (h':Heap):Prop:=∃(ts tb u:Sl),v=cfA ts tb/\St h h' [.sl ts 3 1 ((S.set p x.t).map inC),.sl tb 25 1 ((B.set j ⟨u,l⟩).map Bx.cs),.sl u 3 1 (l.map inC)]
set_option maxHeartbeats 3200000 in
theorem tailN_ok (n:Nat) (s ss sb ts tb u1 u2:Sl) (S:List Int) (B:List Bx) (p:Nat) (i:Int) (x:Mv) (q:Bx) (l:List Int) (ob b0 b5 b6 b7:Nat) (h h0:Heap) (hC:CfI h ss sb S B) (hn:s.n=n) (h6:n<=6) (hp:p<n) (hx0:0<=x.peer) (hx1:x.peer<(n:Int)) (hS:S.length=n) (hB:B.length=n*n)
  (gq:B[bxI n p x]?=some q) (hq:q.l.length<=4) (hl:l=if x.send=true then q.l++[x.label] else q.l.tail) (hr:x.send=false->1<=q.l.length)
  (hs:St h h0 [.blk ob [.slice ts.a ts.n ts.c,.slice tb.a tb.n tb.c] 28,.sl ts 3 1 (S.map inC),.sl tb 25 1 (B.map Bx.cs),.blk b7 x.cs 116,.blk b6 [.slice u1.a u1.n u1.c,.slice u2.a u2.n u2.c] 28,.blk b5 [.int .i64 (p:Int),.int .i64 i] 53,.blk b0 [.slice ss.a ss.n ss.c,.slice sb.a sb.n sb.c] 28]) :
  tailN s ob b0 b5 b6 b7 h0 (NexV S B p (bxI n p x) x l h):=by
 unfold tailN;have h36:=sq6 h6;have hj:=bxI_lt (n:=n) (x:=x) hp hx0 hx1;have hts:=(hs.rows 1 (s:=ts) (cs:=inC) rfl (by omega)).ln;have htb:=(hs.rows 2 (s:=tb) (cs:=Bx.cs) rfl (by omega)).ln;have hbn:=hC.b.ln;have hqs:=hC.i q (Yb gq);have hqn:=hqs.ln;obtain⟨pe,hpe⟩:∃pe:Nat,x.peer=(pe:Int):=⟨x.peer.toNat,by omega⟩;have hpt:x.peer.toNat=pe:=by omega
 refine⟨ts,hs.rd 0 rfl (i:=0) rfl,(p:Int),hs.rd 5 rfl (i:=0) rfl,x.t,hs.rd 3 rfl (i:=4) rfl,?_⟩;refine hs.set 1 (s:=ts) (cs:=inC) (x:=(p:Int)) rfl (by omega) (by omega) (by omega) x.t rfl rfl (fun b o h38 hs=>?_) rfl;rw[Ys] at hs;have hw1:∀a b:Nat,a<n->b<n->IntKind.wrap .i64 (IntKind.wrap .i64 ((s.n:Int)*(a:Int))+(b:Int))=((n*a+b:Nat):Int):=fun a b ha hb=>by
  have e1:(s.n:Int)*(a:Int)=((n*a:Nat):Int):=by rw[hn];rfl
  have:=two_lt ha hb;rw[e1,w64 (n:=((n*a:Nat):Int)) (by omega) (by omega)];rw[w64 (by omega) (by omega)];rfl
 have fin:∀ {u:Sl} {hh:Heap} {A:List It} ,St h hh (A++[.sl u 3 1 (l.map inC),.blk ob [.slice ts.a ts.n ts.c,.slice tb.a tb.n tb.c] 28,.sl ts 3 1 ((S.set p x.t).map inC),.sl tb 25 1 ((B.set (bxI n p x) ⟨u,l⟩).map Bx.cs),.blk b7 x.cs 116,.blk b6 [.slice u1.a u1.n u1.c,.slice u2.a u2.n u2.c] 28,.blk b5 [.int .i64 (p:Int),.int .i64 i] 53,.blk b0 [.slice ss.a ss.n ss.c,.slice sb.a sb.n sb.c] 28]) ->
   (∃x57:Sl,∃x58:Sl,atC hh ⟨ob,0,none⟩ [.slice x57.a x57.n x57.c,.slice x58.a x58.n x58.c] /\ 
   (okAt hh ⟨b6,0,none⟩ 2/\∀h59:Heap,h59=hputs hh ⟨b6,0,none⟩ 0 [.slice x57.a x57.n x57.c,.slice x58.a x58.n x58.c] -> 
   (∃x60:Sl,∃x61:Sl,atC h59 ⟨b6,0,none⟩ [.slice x60.a x60.n x60.c,.slice x61.a x61.n x61.c] /\ 
   NexV S B p (bxI n p x) x l h (.agg ⟨[.slice x60.a x60.n x60.c,.slice x61.a x61.n x61.c]⟩) h59))):=fun {u hh A} hs=>by
  have hs:=hs.sub (List.sublist_append_right A _);refine⟨ts,tb,hs.at 1 rfl (o:=0) (n:=2) rfl,?_⟩;refine hs.put 5 rfl (o:=0) (vs:=[.slice ts.a ts.n ts.c,.slice tb.a tb.n tb.c]) rfl (show 2<=2 by decide) fun h59 hs=>?_;refine⟨ts,tb,hs.at 5 rfl (o:=0) (n:=2) rfl,ts,tb,u,rfl,?_⟩;have hs:=hs.sub (L':=[.sl u 3 1 (l.map inC),.sl ts 3 1 ((S.set p x.t).map inC),.sl tb 25 1 ((B.set (bxI n p x) ⟨u,l⟩).map Bx.cs)]) (.cons_cons _ (.cons _ (.cons_cons _ (.cons_cons _ (List.nil_sublist _)))));exact hs.perm (List.perm_middle (l₁:=[_,_]) (l₂:=[])).symm
 refine⟨x.send,hs.rd 3 rfl (i:=1) rfl,sB_intro (fun d=>?_) (fun d=>?_)⟩
 ·have hjj:bxI n p x=n*p+pe:=by unfold bxI;rw[if_pos d,hpt]
  have hJ:=hw1 p pe hp (by omega);rw[if_pos d] at hl;have el:([]++q.l.map inC)++[inC x.label]=l.map inC:=by rw[hl,Ym];rfl
  rw[<-hjj,<-hpe] at hJ;refine⟨(p:Int),hs.rd 5 rfl (i:=0) rfl,x.peer,hs.rd 3 rfl (i:=2) rfl,tb,hs.rd 0 rfl (i:=1) rfl,sb,hs.rd 6 rfl (i:=1) rfl,?_⟩;rw[hJ];refine (hC.b.rw.ext hs.ext).nbI (by omega) (by omega) fun b o q' gq' t=>?_;rw[Ys,gq] at gq';cases gq';refine⟨q.s,t.hd,x.label,hs.rd 3 rfl (i:=3) rfl,And.intro ?_ ?_⟩
  ·refine hs.newbE fun h48 E48 hs=>⟨E48.sm,?_⟩;have hs:=hs.blkS 0 1 [] rfl (fun r hr=>by cases hr) rfl (Nat.zero_le _);refine And.intro ?_ ?_
   ·have hs48:=hs;refine hs.appRw 0 (s:=⟨some ⟨h38.size,0,none⟩,0,0⟩) (rows:=[]) (y:=q.s) rfl app42 (hqs.rw.ext hs.ext) (inrows' q.l) hqs.nil (flat_oneB (fun _=>rfl) _) (by show (0+q.s.n)*8<=_;omega) (by show 0+q.s.n<=_;simp only[maxLen];omega) fun e h50 ne hs=>?_;refine⟨Sm_two (hs48.smbO hs 4 4 3 rfl rfl) (hs48.smbO hs 1 1 1 rfl rfl),?_⟩;refine hs.newbE fun h51 E51 hs=>⟨E51.sm,?_⟩;have hs51:=hs;refine hs.appended 1 (s:=e) (n:=1) (rows:=[]++q.l.map inC) rfl app42 (m:=1) (news:=[inC x.label]) (hs.at 0 rfl (n:=1) rfl) rfl (by simp[inC]) rfl (by have:e.n=0+q.s.n:=ne;omega) (by have:e.n=0+q.s.n:=ne;simp only[maxLen];omega) fun u h53 nu hs=>?_;refine⟨hs51.smbO hs 2 2 1 rfl rfl,?_⟩;refine hs.set 4 (s:=tb) (cs:=Bx.cs) (x:=(bxI n p x:Int)) rfl (by omega) (by omega) (by omega) (⟨u,l⟩:Bx) rfl rfl (fun b o h56 hs=>?_) rfl;rw[Ys] at hs;refine fin (u:=u) (A:=[.blk h50.size [.int .i64 x.label] 3]) ?_;rw[<-el];exact hs
   ·refine hs.newbE fun h62 E62 hs=>⟨E62.sm,?_⟩;have hs62:=hs;refine hs.appRw 1 (s:=⟨some ⟨h38.size,0,none⟩,0,0⟩) (rows:=[]) (y:=q.s) rfl app42 (hqs.rw.ext hs.ext) (inrows' q.l) hqs.nil (flat_oneB (fun _=>rfl) _) (by show (0+q.s.n)*8<=_;omega) (by show 0+q.s.n<=_;simp only[maxLen];omega) fun e h64 ne hs=>?_;refine⟨Sm_two (hs62.smbO hs 5 5 3 rfl rfl) (hs62.smbO hs 2 2 1 rfl rfl),?_⟩;have hs64:=hs;refine hs.appended 1 (s:=e) (n:=1) (rows:=[]++q.l.map inC) rfl app42 (m:=1) (news:=[inC x.label]) (hs.at 0 rfl (n:=1) rfl) rfl (by simp[inC]) rfl (by have:e.n=0+q.s.n:=ne;omega) (by have:e.n=0+q.s.n:=ne;simp only[maxLen];omega) fun u h66 nu hs=>?_;refine⟨hs64.smbO hs 2 2 1 rfl rfl,?_⟩;refine hs.set 4 (s:=tb) (cs:=Bx.cs) (x:=(bxI n p x:Int)) rfl (by omega) (by omega) (by omega) (⟨u,l⟩:Bx) rfl rfl (fun b o h56 hs=>?_) rfl;rw[Ys] at hs;refine fin (u:=u) (A:=[.blk h48.size [.int .i64 x.label] 3]) ?_;rw[<-el];exact hs
  ·refine hs.newbE fun h75 E75 hs=>⟨E75.sm,?_⟩;refine hs.newbE fun h76 E76 hs=>⟨E76.sm,?_⟩;have hs:=hs.blkS 0 1 [] rfl (fun r hr=>by cases hr) rfl (Nat.zero_le _);have hs76:=hs;refine hs.appRw 0 (s:=⟨some ⟨h75.size,0,none⟩,0,0⟩) (rows:=[]) (y:=q.s) rfl app42 (hqs.rw.ext hs.ext) (inrows' q.l) hqs.nil (flat_oneB (fun _=>rfl) _) (by show (0+q.s.n)*8<=_;omega) (by show 0+q.s.n<=_;simp only[maxLen];omega) fun e h78 ne hs=>?_;refine⟨Sm_two (hs76.smbO hs 5 5 3 rfl rfl) (hs76.smbO hs 2 2 1 rfl rfl),?_⟩;have hs78:=hs;refine hs.appended 0 (s:=e) (n:=1) (rows:=[]++q.l.map inC) rfl app42 (m:=1) (news:=[inC x.label]) (hs.at 1 rfl (n:=1) rfl) rfl (by simp[inC]) rfl (by have:e.n=0+q.s.n:=ne;omega) (by have:e.n=0+q.s.n:=ne;simp only[maxLen];omega) fun u h80 nu hs=>?_;refine⟨hs78.smbO hs 2 2 1 rfl rfl,?_⟩;refine hs.set 4 (s:=tb) (cs:=Bx.cs) (x:=(bxI n p x:Int)) rfl (by omega) (by omega) (by omega) (⟨u,l⟩:Bx) rfl rfl (fun b o h56 hs=>?_) rfl;rw[Ys] at hs;refine fin (u:=u) (A:=[.blk h38.size [.int .i64 x.label] 3]) ?_;rw[<-el];exact hs.perm (List.Perm.swap _ _ _)
 ·have hr1:=hr d;have hjj:bxI n p x=n*pe+p:=by unfold bxI;rw[if_neg (by rw[d];decide),hpt]
  have hJ:=hw1 pe p (by omega) hp;rw[if_neg (by rw[d];decide)] at hl;rw[<-hjj,<-hpe] at hJ;refine⟨x.peer,hs.rd 3 rfl (i:=2) rfl,(p:Int),hs.rd 5 rfl (i:=0) rfl,tb,hs.rd 0 rfl (i:=1) rfl,sb,hs.rd 6 rfl (i:=1) rfl,?_⟩;rw[hJ];refine (hC.b.rw.ext hs.ext).nbI (by omega) (by omega) fun b o q' gq' t=>?_;rw[Ys,gq] at gq';cases gq';have hcap:=hqs.cap;refine⟨q.s,t.hd,⟨by omega,by omega,by omega⟩,?_⟩;refine hs.newbE fun h96 E96 hs=>⟨E96.sm,?_⟩;have hs:=hs.blkS 0 1 [] rfl (fun r hr=>by cases hr) rfl (Nat.zero_le _);have hs96:=hs;obtain⟨q0,tl,hqe⟩:∃q0 tl,q.l=q0::tl:=by
   cases hq':q.l with
   | nil=>rw[hq'] at hr1;exact absurd hr1 (by decide)
   | cons a b=>exact⟨a,b,rfl⟩
  have hltl:l=tl:=by rw[hl,hqe];rfl
  have hrw:=hqs.rw.ext hs.ext;rw[hqe,Yyl] at hrw;have hsub:=Rw.tail1 hrw (by omega) (by omega);have e1:Int.toNat ((q.s.n:Nat):Int)-Int.toNat 1=q.s.n-1:=by rw[Ys];rfl
  refine hs.appRw 0 (s:=⟨some ⟨h38.size,0,none⟩,0,0⟩) (rows:=[]) (y:=⟨subA q.s.a (Int.toNat 1) q.s.c 1,Int.toNat (q.s.n:Nat)-Int.toNat 1,q.s.c-Int.toNat 1⟩) rfl app42 hsub.1 (inrows' tl) (fun ha=>absurd ha hsub.2) (flat_oneB (fun _=>rfl) _) (by show (0+(Int.toNat ((q.s.n:Nat):Int)-Int.toNat 1))*8<=_;omega) (by show 0+(Int.toNat ((q.s.n:Nat):Int)-Int.toNat 1)<=_;simp only[maxLen];omega) fun u h98 ne hs=>?_;refine⟨hs96.smbO hs 1 1 1 rfl rfl,?_⟩;refine hs.set 3 (s:=tb) (cs:=Bx.cs) (x:=(bxI n p x:Int)) rfl (by omega) (by omega) (by omega) (⟨u,l⟩:Bx) rfl rfl (fun b o h56 hs=>?_) rfl;rw[Ys] at hs;refine fin (u:=u) (A:=[]) ?_;have el:[]++tl.map inC=l.map inC:=by rw[hltl];rfl
  rw[<-el];exact hs
end Go.VC
end
