/- TkT0 TkVcJ TkCa UkA. -/
import Derived.Test.YtnfkibjnkiojnaaGreatDoorM07
import Derived.Test.YtnfkibjnkiojnaaGreatDoorM08
import Derived.Test.YtnfkibjnkiojnaaGreatDoorM01
import Derived.Test.YtnfkibjnkiojnaaGreatDoorM02
import Derived.Test.YtnfkibjnkiojnaaGreatDoorProg
import Derived.KernelRfl
import Derived.Test.YtnfkibjnkiojnaaGreatDoorM05
import Derived.Test.YtnfkibjnkiojnaaGreatDoorM03
set_option linter.unusedVariables false
set_option linter.unusedSimpArgs false
set_option maxRecDepth 100000

section
/- Classes of states, on lists. No program here. -/
namespace Go.VC

def dedF {K:Type} [DecidableEq K] (l:List K):List K:=l.foldl (fun a k=>if k ∈ a then a else a++[k]) []
def idxF {K:Type} [DecidableEq K]:List K->K->Nat
 | [],_=>0
 | x::r,k=>if x=k then 0 else idxF r k+1
def canonL {K:Type} [DecidableEq K] (l:List K):List Nat:=l.map (idxF (dedF l))
section
variable {K K':Type} [DecidableEq K] [DecidableEq K']
theorem dedF_snoc (l:List K) (k:K):dedF (l++[k])=if k ∈ dedF l then dedF l else dedF l++[k]:=by unfold dedF; rw [List.foldl_append]; rfl
theorem dedF_take {l:List K} {i:Nat} {k:K} (h:l[i]?=some k):dedF (l.take (i+1))=if k ∈ dedF (l.take i) then dedF (l.take i) else dedF (l.take i)++[k]:=by rw [take_snoc h,dedF_snoc]
theorem dedF_mem (l:List K) (k:K):k ∈ dedF l ↔ k ∈ l:=by
 suffices h:∀ (m a:List K),k ∈ m.foldl (fun a k=>if k ∈ a then a else a++[k]) a ↔ k ∈ a\/k ∈ m by have:=h l []; simpa [dedF] using this
 intro m
 induction m with
 | nil=>intro a; simp
 | cons x r ih=>
  intro a
  rw [List.foldl_cons,ih]
  split
  ·
   rename_i hx
   rw [Yr]
   constructor
   ·
    rintro (h | h)
    ·
     exact .inl h
    ·
     exact .inr (.inr h)
   ·
    rintro (h | rfl | h)
    ·
     exact .inl h
    ·
     exact .inl hx
    ·
     exact .inr h
  ·
   rw [Yk,Ye,Yr]
   constructor
   ·
    rintro ((h | h) | h)
    ·
     exact .inl h
    ·
     exact .inr (.inl h)
    ·
     exact .inr (.inr h)
   ·
    rintro (h | h | h)
    ·
     exact .inl (.inl h)
    ·
     exact .inl (.inr h)
    ·
     exact .inr h
theorem idxF_mem {l:List K} {k:K} (h:k ∈ l) (m:List K):idxF (l++m) k=idxF l k:=by
 induction l with
 | nil=>cases h
 | cons x r ih=>
  rw [List.cons_append,idxF,idxF]
  split
  ·
   rfl
  ·
   rename_i hx
   rw [ih (by rcases Yr.1 h with h | h; exact absurd h.symm hx; exact h)]
theorem idxF_not {l:List K} {k:K} (h:k ∉ l):idxF l k=l.length:=by
 induction l with
 | nil=>rfl
 | cons x r ih=>
  rw [Yr,not_or] at h
  rw [idxF,if_neg (fun e=>h.1 e.symm),ih h.2,Yyj]
theorem idxF_lt {l:List K} {k:K} (h:k ∈ l):idxF l k<l.length:=by
 induction l with
 | nil=>cases h
 | cons x r ih=>
  rw [idxF,Yyj]
  split
  ·
   omega
  ·
   rename_i hx
   have:=ih (by rcases Yr.1 h with h | h; exact absurd h.symm hx; exact h)
   omega
theorem idxF_inj {l:List K} {a b:K} (ha:a ∈ l) (h:idxF l a=idxF l b):a=b:=by
 induction l with
 | nil=>cases ha
 | cons x r ih=>
  rw [idxF,idxF] at h
  split at h <;> split at h
  ·
   rename_i h1 h2; rw [<- h1,<- h2]
  ·
   omega
  ·
   omega
  ·
   rename_i h1 _
   exact ih (by rcases Yr.1 ha with h | h; exact absurd h.symm h1; exact h) (by omega)
theorem canon_pat {l:List K} {l':List K'} (hl:l.length=l'.length) (hp:∀ (i j:Nat) (a b:K) (a' b':K'),l[i]?=some a->l[j]?=some b->l'[i]?=some a'->l'[j]?=some b'->(a=b ↔ a'=b')) :
  ∀ n,n<=l.length->(dedF (l.take n)).length=(dedF (l'.take n)).length/\∀ (j:Nat) (a:K) (a':K'),j<n->l[j]?=some a->l'[j]?=some a'->idxF (dedF (l.take n)) a=idxF (dedF (l'.take n)) a'
 | 0,_=>⟨rfl,fun j _ _ hj=>by omega⟩
 | n+1,hn=>by
  obtain ⟨h1,h2⟩:=canon_pat hl hp n (by omega)
  obtain ⟨x,hx⟩:=get_some (l:=l) (i:=n) (by omega)
  obtain ⟨x',hx'⟩:=get_some (l:=l') (i:=n) (by omega)
  have hmem:x ∈ dedF (l.take n) ↔ x' ∈ dedF (l'.take n):=by
   rw [dedF_mem,dedF_mem]
   constructor
   ·
    intro h
    obtain ⟨j,hj⟩:=Yf.1 h
    have hjn:j<n:=by have:=(Ya.1 hj).1; rw [Yu] at this; omega
    rw [Yyf,if_pos hjn] at hj
    obtain ⟨y',hy'⟩:=get_some (l:=l') (i:=j) (by omega)
    have:=(hp j n x x y' x' hj hx hy' hx').1 rfl
    subst this
    exact Yb (i:=j) (by rw [Yyf,if_pos hjn]; exact hy')
   ·
    intro h
    obtain ⟨j,hj⟩:=Yf.1 h
    have hjn:j<n:=by have:=(Ya.1 hj).1; rw [Yu] at this; omega
    rw [Yyf,if_pos hjn] at hj
    obtain ⟨y,hy⟩:=get_some (l:=l) (i:=j) (by omega)
    have:=(hp j n y x x' x' hy hx hj hx').2 rfl
    subst this
    exact Yb (i:=j) (by rw [Yyf,if_pos hjn]; exact hy)
  rw [dedF_take hx,dedF_take hx']
  by_cases hm:x ∈ dedF (l.take n)
  ·
   rw [if_pos hm,if_pos (hmem.1 hm)]
   refine ⟨h1,fun j a a' hj ha ha'=>?_⟩
   by_cases e:j=n
   ·
    subst e
    rw [hx] at ha; cases ha
    rw [hx'] at ha'; cases ha'
    obtain ⟨i,hi⟩:=Yf.1 ((dedF_mem _ _).1 hm)
    have hin:i<j:=by have:=(Ya.1 hi).1; rw [Yu] at this; omega
    rw [Yyf,if_pos hin] at hi
    obtain ⟨y',hy'⟩:=get_some (l:=l') (i:=i) (by omega)
    have:=(hp i j x x y' x' hi hx hy' hx').1 rfl
    rw [h2 i x y' hin hi hy',this]
   ·
    exact h2 j a a' (by omega) ha ha'
  ·
   rw [if_neg hm,if_neg (fun h=>hm (hmem.2 h))]
   refine ⟨by rw [Yh,Yh,h1]; rfl,fun j a a' hj ha ha'=>?_⟩
   by_cases e:j=n
   ·
    subst e
    rw [hx] at ha; cases ha
    rw [hx'] at ha'; cases ha'
    have key:∀ {K:Type} [DecidableEq K] {l:List K} {k:K},k ∉ l->idxF (l++[k]) k=l.length:=by
     intro K _ l k h
     induction l with
     | nil=>rw [List.nil_append,idxF,if_pos rfl]; rfl
     | cons x r ih=>
      rw [Yr,not_or] at h
      rw [List.cons_append,idxF,if_neg (fun e=>h.1 e.symm),ih h.2,Yyj]
    rw [key hm,key (fun h=>hm (hmem.2 h)),h1]
   ·
    have hmj:∀ {K:Type} [DecidableEq K] {l:List K} {a:K},l[j]?=some a->a ∈ dedF (l.take n):=fun h=>(dedF_mem _ _).2 (Yb (i:=j) (by rw [Yyf,if_pos (by omega)]; exact h))
    rw [idxF_mem (hmj ha),idxF_mem (hmj ha')]
    exact h2 j a a' (by omega) ha ha'
theorem canon_eq {l:List K} {l':List K'} (hl:l.length=l'.length) (hp:∀ (i j:Nat) (a b:K) (a' b':K'),l[i]?=some a->l[j]?=some b->l'[i]?=some a'->l'[j]?=some b'->(a=b ↔ a'=b')):canonL l=canonL l'/\(dedF l).length=(dedF l').length:=by
 have h:=canon_pat hl hp l.length (Yyt _)
 rw [Yye,hl,Yye] at h
 refine ⟨?_,h.1⟩
 apply Yyr
 intro j
 unfold canonL
 rw [Yd,Yd]
 by_cases hj:j<l.length
 ·
  obtain ⟨a,ha⟩:=get_some (l:=l) (i:=j) hj
  obtain ⟨a',ha'⟩:=get_some (l:=l') (i:=j) (by omega)
  rw [ha,ha',Option.map_some,Option.map_some,h.2 j a a' (by omega) ha ha']
 ·
  rw [Yl (by omega),Yl (by omega)]; rfl
theorem canonL_len (l:List K):(canonL l).length=l.length:=Yc _
theorem canonL_get {l:List K} {i:Nat} {k:K} (h:l[i]?=some k):(canonL l)[i]?=some (idxF (dedF l) k):=by unfold canonL; rw [Yd,h]; rfl
theorem canonL_lt {l:List K} {c:Nat} (h:c ∈ canonL l):c<(dedF l).length:=by
 obtain ⟨k,hk,rfl⟩:=Yp.1 h
 exact idxF_lt ((dedF_mem _ _).2 hk)
theorem canonL_eq {l:List K} {i j:Nat} {a b:K} (ha:l[i]?=some a) (hb:l[j]?=some b):(canonL l)[i]?=(canonL l)[j]? ↔ a=b:=by
 rw [canonL_get ha,canonL_get hb]
 constructor
 ·
  intro h
  exact idxF_inj ((dedF_mem _ _).2 (Yb ha)) (Yyp h)
 ·
  intro h; rw [h]
theorem dedF_canon (l:List K):(dedF (canonL l)).length=(dedF l).length:=by
 refine (canon_eq (canonL_len l) fun i j a b a' b' h1 h2 h3 h4=>?_).2
 have:=canonL_eq h3 h4
 rw [h1,h2] at this
 rw [<- this]
 exact ⟨fun h=>by rw [h],fun h=>Yyp h⟩
theorem dedF_map_le (f:K->K') (l:List K):(dedF (l.map f)).length<=(dedF l).length:=by
 have key:∀ n,n<=l.length->(dedF ((l.map f).take n)).length<=(dedF (l.take n)).length:=by
  intro n
  induction n with
  | zero=>intro _; exact Yyt _
  | succ n ih=>
   intro hn
   obtain ⟨x,hx⟩:=get_some (l:=l) (i:=n) (by omega)
   rw [dedF_take hx,dedF_take (l:=l.map f) (k:=f x) (by rw [Yd,hx]; rfl)]
   have:=ih (by omega)
   by_cases hm:x ∈ dedF (l.take n)
   ·
    have:f x ∈ dedF ((l.map f).take n):=by
     rw [dedF_mem,<- List.map_take]
     exact Yp.2 ⟨x,(dedF_mem _ _).1 hm,rfl⟩
    rw [if_pos hm,if_pos this]; omega
   ·
    rw [if_neg hm,Yh]
    split
    ·
     omega
    ·
     rw [Yh]; simp only [Yv]; omega
 have:=key l.length (Yyt _)
 rwa [Yye,Yj (by rw [Yc]; exact Yyt _)] at this
theorem dedF_len_le (l:List K):(dedF l).length<=l.length:=by
 have key:∀ n,n<=l.length->(dedF (l.take n)).length<=n:=by
  intro n
  induction n with
  | zero=>intro _; exact Yyt _
  | succ n ih=>
   intro hn
   obtain ⟨x,hx⟩:=get_some (l:=l) (i:=n) (by omega)
   rw [dedF_take hx]
   have:=ih (by omega)
   split
   ·
    omega
   ·
    rw [Yh]; simp only [Yv]; omega
 have:=key l.length (Yyt _)
 rwa [Yye] at this
end
structure Sg where
 b:Int
 k:Int
 x:Ev
 ag:Bool
 num:Int
 deriving DecidableEq
def Sg.v (s:Sg):Value:=.agg ⟨[.int .i64 s.b,.int .i64 s.k,.bool s.x.send,.int .i64 s.x.peer,.int .i64 s.x.label,.bool s.ag,.int .i64 s.num]⟩
theorem Sg.v_inj (a b:Sg) (h:a.v=b.v):a=b:=by
 obtain ⟨a1,a2,⟨a3,a4,a5⟩,a6,a7⟩:=a
 obtain ⟨b1,b2,⟨b3,b4,b5⟩,b6,b7⟩:=b
 unfold Sg.v at h
 simp at h
 simp [h]
structure NOk (n:Int) (N:List (Sg × Int)):Prop where
 nd:(N.map Prod.fst).Nodup
 va:∀ (j:Nat) (q:Sg × Int),N[j]?=some q->q.2=(j:Int)+n+2
theorem NOk.nil (n:Int):NOk n []:=⟨List.nodup_nil,fun j q h=>by simp at h⟩
theorem NOk.push {n:Int} {N:List (Sg × Int)} (h:NOk n N) {s:Sg} (hs:∀ q ∈ N,q.1 ≠ s):NOk n (N++[(s,(N.length:Int)+n+2)]):=by
 refine ⟨?_,fun j q hq=>?_⟩
 ·
  rw [Ym,List.nodup_append]
  refine ⟨h.nd,by simp,fun a ha b hb=>?_⟩
  simp only [Yyl,List.map_nil,Ye] at hb
  subst hb
  obtain ⟨q,hq,rfl⟩:=Yp.1 ha
  exact hs q hq
 ·
  by_cases hj:j<N.length
  ·
   rw [Yyi hj] at hq; exact h.va j q hq
  ·
   have hjl:=(Ya.1 hq).1
   rw [Yh,Yv] at hjl
   have:j=N.length:=by omega
   subst this
   rw [Yyc (Yyt _),Nat.sub_self] at hq
   cases hq; rfl
theorem NOk.keyv {n:Int} {N:List (Sg × Int)} (h:NOk n N) {s s':Sg} {v:Int} (h1:(s,v) ∈ N) (h2:(s',v) ∈ N):s=s':=by
 obtain ⟨i,hi⟩:=Yf.1 h1
 obtain ⟨j,hj⟩:=Yf.1 h2
 have e1:=h.va i _ hi
 have e2:=h.va j _ hj
 have:i=j:=by simp only at e1 e2; omega
 subst this
 rw [hi] at hj; cases hj; rfl
theorem NOk.val {n:Int} {N:List (Sg × Int)} (h:NOk n N) {s:Sg} {v v':Int} (h1:(s,v) ∈ N) (h2:(s,v') ∈ N):v=v':=by
 obtain ⟨i,hi⟩:=Yf.1 h1
 obtain ⟨j,hj⟩:=Yf.1 h2
 have hi':(N.map Prod.fst)[i]?=some s:=by rw [Yd,hi]; rfl
 have hj':(N.map Prod.fst)[j]?=some s:=by rw [Yd,hj]; rfl
 have:i=j:=(List.getElem?_inj (Ya.1 hi').1 h.nd).1 (hi'.trans hj'.symm)
 subst this
 rw [hi] at hj; cases hj; rfl
inductive HsN (N:List (Sg × Int)):Int->List Sg->Prop
 | base {s:Sg} {v:Int} (hm:(s,v) ∈ N) (hk:s.k=0):HsN N v [s]
 | step {s:Sg} {v:Int} {l:List Sg} (hm:(s,v) ∈ N) (hk:s.k ≠ 0) (hh:HsN N s.b l):HsN N v ({ s with b:=0 }::l)
theorem HsN.mono {N N':List (Sg × Int)} (hsub:∀ q ∈ N,q ∈ N') {v:Int} {l:List Sg} (h:HsN N v l):HsN N' v l:=by
 induction h with
 | base hm hk=>exact .base (hsub _ hm) hk
 | step hm hk _ ih=>exact .step (hsub _ hm) hk ih
theorem HsN.ne {N:List (Sg × Int)} {v:Int} (h:HsN N v []):False:=by cases h
theorem HsN.inj {n:Int} {N:List (Sg × Int)} (hN:NOk n N):∀ {l:List Sg} {v v':Int},HsN N v l->HsN N v' l->v=v'
 | [],_,_,h,_=>h.ne.elim
 | a::l,v,v',h,h'=>by
  cases h with
  | base hm hk=>
   cases h' with
   | base hm' hk'=>exact hN.val hm hm'
   | @step s' _ _ hm' hk' hh=>exact hh.ne.elim
  | @step s _ _ hm hk hh=>
   generalize hq:({ s with b:=0 }:Sg)=q at h'
   cases h' with
   | base hm' hk'=>exact hh.ne.elim
   | @step s' _ _ hm' hk' hh'=>
    have hb:=HsN.inj hN hh hh'
    have:s=s':=by
     obtain ⟨a1,a2,a3,a4,a5⟩:=s
     obtain ⟨b1,b2,b3,b4,b5⟩:=s'
     simp only [Sg.mk.injEq] at hq ⊢
     exact ⟨hb,hq.2⟩
    subst this
    exact hN.val hm hm'
theorem HsN.func {n:Int} {N:List (Sg × Int)} (hN:NOk n N) {v:Int} {l l':List Sg} (h:HsN N v l):HsN N v l'->l=l':=by
 intro h'
 induction h generalizing l' with
 | base hm hk=>
  cases h' with
  | base hm' hk'=>rw [hN.keyv hm hm']
  | step hm' hk' hh=>have:=hN.keyv hm hm'; subst this; exact absurd hk hk'
 | step hm hk hh ih=>
  cases h' with
  | base hm' hk'=>have:=hN.keyv hm hm'; subst this; exact absurd hk' hk
  | step hm' hk' hh'=>have:=hN.keyv hm hm'; subst this; rw [ih hh']
def nextF (n:Int) (N:List (Sg × Int)) (s:Sg):Int × List (Sg × Int):=match mget N s with
 | some v=>(v,N)
 | none=>((N.length:Int)+n+2,N++[(s,(N.length:Int)+n+2)])
theorem mget_mem {α β:Type} [DecidableEq α] {a:α} {y:β}:∀ {l:List (α × β)},mget l a=some y->(a,y) ∈ l
 | [],h=>by cases h
 | (x,z)::r,h=>by
  rw [mget] at h
  split at h
  ·
   rename_i e; cases h; subst e; simp
  ·
   exact Yn _ (mget_mem h)
theorem mget_not {α β:Type} [DecidableEq α] {a:α}:∀ {l:List (α × β)},mget l a=none->∀ q ∈ l,q.1 ≠ a
 | [],_,q,hq=>by cases hq
 | (x,z)::r,h,q,hq=>by
  rw [mget] at h
  split at h
  ·
   cases h
  ·
   rename_i e
   rcases Yr.1 hq with rfl | hq
   ·
    exact e
   ·
    exact mget_not h q hq
theorem nextF_spec {n:Int} {N:List (Sg × Int)} (hN:NOk n N) (s:Sg):NOk n (nextF n N s).2/\(∀ q ∈ N,q ∈ (nextF n N s).2)/\(s,(nextF n N s).1) ∈ (nextF n N s).2/\(nextF n N s).2.length<=N.length+1/\∀ q ∈ (nextF n N s).2,q ∈ N\/q.1=s:=by
 unfold nextF
 cases h:mget N s with
 | some v=>exact ⟨hN,fun q hq=>hq,mget_mem h,by simp,fun q hq=>.inl hq⟩
 | none=>
  refine ⟨hN.push (mget_not h),fun q hq=>Yk.2 (.inl hq),Yk.2 (.inr (by simp)),by simp,fun q hq=>?_⟩
  rcases Yk.1 hq with hq | hq
  ·
   exact .inl hq
  ·
   rw [Ye] at hq; subst hq; exact .inr rfl
theorem NOk.bound {n:Int} {N:List (Sg × Int)} (h:NOk n N) {s:Sg} {v:Int} (hm:(s,v) ∈ N):n+2<=v/\v<(N.length:Int)+n+2:=by
 obtain ⟨j,hj⟩:=Yf.1 hm
 have:=h.va j _ hj
 have:=(Ya.1 hj).1
 simp only at *
 omega
def ev0:Ev:=⟨false,0,0⟩
def Mv.ev (x:Mv):Ev:=⟨x.send,x.peer,x.label⟩
def sgB (C:List Nat) (fin:List Bool) (s:Nat):Sg:=⟨(C.getD s 0:Nat),0,ev0,fin.getD s false,0⟩
def sgL (mv:List Mv) (t:To):Sg:=⟨0,1,match mv[t.e.toNat]? with | some x=>x.ev | none=>ev0,false,t.k⟩
def sgM (C:List Nat) (x:Mv):Sg:=⟨0,2,x.ev,x.ag,(C.getD x.t.toNat 0:Nat)⟩
def keyH (m:Mch) (C:List Nat) (li:List To) (mv:List Mv) (s:Nat):List Sg:=
 ((mv.filter fun x=>x.f=(s:Int)).map (sgM C)).reverse++(((li.filter fun t=>t.s=(s:Int)).map (sgL m.mv)).reverse++[sgB C m.fin s])
def keyS (m:Mch) (C:List Nat) (s:Nat):List Sg:=keyH m C m.li m.mv s
theorem keyH_li {m:Mch} {C:List Nat} {li:List To} {j:Nat} {t:To} (h:li[j]?=some t) (s:Nat):keyH m C (li.take (j+1)) [] s=if t.s=(s:Int) then sgL m.mv t::keyH m C (li.take j) [] s else keyH m C (li.take j) [] s:=by
 unfold keyH
 rw [take_snoc h,List.filter_append]
 by_cases e:t.s=(s:Int)
 ·
  rw [if_pos e,List.filter_cons_of_pos (by simpa using e)]; simp
 ·
  rw [if_neg e,List.filter_cons_of_neg (by simpa using e)]; simp
theorem keyH_mv {m:Mch} {C:List Nat} {li:List To} {mv:List Mv} {j:Nat} {x:Mv} (h:mv[j]?=some x) (s:Nat):keyH m C li (mv.take (j+1)) s=if x.f=(s:Int) then sgM C x::keyH m C li (mv.take j) s else keyH m C li (mv.take j) s:=by
 unfold keyH
 rw [take_snoc h,List.filter_append]
 by_cases e:x.f=(s:Int)
 ·
  rw [if_pos e,List.filter_cons_of_pos (by simpa using e)]; simp
 ·
  rw [if_neg e,List.filter_cons_of_neg (by simpa using e)]; simp
def clsK (m:Mch) (C:List Nat):List (List Sg):=(List.range m.n.toNat).map (keyS m C)
def clsN (m:Mch):Nat->List Nat->Nat->List Nat × Nat
 | 0,C,c=>(C,c)
 | f+1,C,c=>if (dedF (clsK m C)).length=c then (canonL (clsK m C),c) else clsN m f (canonL (clsK m C)) (dedF (clsK m C)).length
def cls (m:Mch):List Nat × Nat:=clsN m 202 (List.replicate m.n.toNat 0) 0
theorem clsK_len (m:Mch) (C:List Nat):(clsK m C).length=m.n.toNat:=by unfold clsK; rw [Yc,Yyd]
theorem clsK_ge {m:Mch} {C:List Nat} (hC:C.length=m.n.toNat):(dedF C).length<=(dedF (clsK m C)).length:=by
 have e:C=(clsK m C).map fun k=>match k.getLast? with | some s=>s.b.toNat | none=>0:=by
  apply Yyr
  intro i
  unfold clsK
  rw [List.map_map,Yd]
  by_cases hi:i<m.n.toNat
  ·
   rw [Yyb hi]
   obtain ⟨c,hc⟩:=get_some (l:=C) (i:=i) (by omega)
   rw [hc]
   show _=some (match (keyS m C i).getLast? with | some s=>s.b.toNat | none=>0)
   have:(keyS m C i).getLast?=some (sgB C m.fin i):=by
    unfold keyS keyH
    rw [<- Yz,List.getLast?_append]; rfl
   rw [this]
   unfold sgB
   simp [Yo,hc]
  ·
   rw [Yl (by omega),Yl (by rw [Yyd]; omega)]; rfl
 have:=dedF_map_le (fun k:List Sg=>match k.getLast? with | some s=>s.b.toNat | none=>0) (clsK m C)
 rwa [<- e] at this
theorem dedF_nodup {K:Type} [DecidableEq K] (l:List K):(dedF l).Nodup:=by
 suffices h:∀ (m a:List K),a.Nodup->(m.foldl (fun a k=>if k ∈ a then a else a++[k]) a).Nodup from h l [] List.nodup_nil
 intro m
 induction m with
 | nil=>intro a h; exact h
 | cons x r ih=>
  intro a h
  rw [List.foldl_cons]
  refine ih _ ?_
  split
  ·
   exact h
  ·
   rename_i hx
   rw [List.nodup_append]
   exact ⟨h,by simp,fun a ha b hb=>by rw [Ye] at hb; subst hb; exact fun e=>hx (e ▸ ha)⟩
def zipI {K:Type} (D:List K) (k:Nat):List (K × Int):=(D.zipIdx k).map fun q=>(q.1,(q.2:Int))
theorem zipI_fst {K:Type} (D:List K) (k:Nat):(zipI D k).map Prod.fst=D:=by
 unfold zipI
 rw [List.map_map]
 exact List.zipIdx_map_fst k D
theorem zipI_snoc {K:Type} (D:List K) (a:K):zipI (D++[a]) 0=zipI D 0++[(a,(D.length:Int))]:=by
 unfold zipI
 rw [List.zipIdx_append,Ym]; simp
theorem zipI_len {K:Type} (D:List K) (k:Nat):(zipI D k).length=D.length:=by unfold zipI; rw [Yc,List.length_zipIdx]
theorem mget_zipI {K:Type} [DecidableEq K] (a:K):∀ (D:List K) (k:Nat),mget (zipI D k) a=if a ∈ D then some ((idxF D a:Int)+k) else none
 | [],k=>rfl
 | x::r,k=>by
  have e:zipI (x::r) k=(x,(k:Int))::zipI r (k+1):=rfl
  rw [e,mget,idxF]
  by_cases h:x=a
  ·
   rw [if_pos h,if_pos (by simp [h]),if_pos h]; simp
  ·
   rw [if_neg h,mget_zipI a r (k+1),if_neg h]
   by_cases hm:a ∈ r
   ·
    rw [if_pos hm,if_pos (Yn _ hm)]
    congr 1; omega
   ·
    rw [if_neg hm,if_neg (fun hc=>by rcases Yr.1 hc with hc | hc; exact h hc.symm; exact hm hc)]
structure MOk (m:Mch):Prop where
 n:1<=m.n/\m.n<=200
 s:0<=m.s/\m.s<m.n
 fl:m.fin.length=m.n.toNat
 ml:m.mv.length<=400
 ll:m.li.length<=80000
 mv:∀ x ∈ m.mv,0<=x.f/\x.f<m.n/\0<=x.t/\x.t<m.n/\(-9223372036854775808<=x.peer/\x.peer<=9223372036854775807)/\(-9223372036854775808<=x.label/\x.label<=9223372036854775807)
 li:∀ t ∈ m.li,0<=t.s/\t.s<m.n/\0<=t.e/\t.e<m.mv.length/\(-9223372036854775808<=t.k/\t.k<=9223372036854775807)
def mvLt (a b:Mv):Prop:=a.f<b.f\/(a.f=b.f/\evLt a.ev b.ev)
theorem mvLt_irr (a:Mv):¬ mvLt a a:=by
 rintro (h | ⟨_,h⟩)
 ·
  omega
 ·
  exact evLt_irr _ h
theorem mvLt_trans {a b c:Mv} (h1:mvLt a b) (h2:mvLt b c):mvLt a c:=by
 rcases h1 with h1 | ⟨h1,h1'⟩ <;> rcases h2 with h2 | ⟨h2,h2'⟩
 ·
  exact .inl (by omega)
 ·
  exact .inl (by omega)
 ·
  exact .inl (by omega)
 ·
  exact .inr ⟨by omega,evLt_trans h1' h2'⟩
theorem mvSorted_same:∀ {l l':List Mv},l'.Perm l->l.Pairwise mvLt->l'.Pairwise (fun a b=>¬ mvLt b a)->l'=l
 | [],l',hp,_,_=>List.perm_nil.1 hp
 | a::l,[],hp,_,_=>by have:=hp.length_eq; simp at this
 | a::l,b::l',hp,hs,hs'=>by
  rw [List.pairwise_cons] at hs hs'
  have hb:b=a:=by
   have hbm:b ∈ a::l:=hp.subset (Yx ..)
   have ham:a ∈ b::l':=hp.symm.subset (Yx ..)
   rcases Yr.1 hbm with h | h
   ·
    exact h
   ·
    rcases Yr.1 ham with h' | h'
    ·
     exact h'.symm
    ·
     exact absurd (hs.1 b h) (hs'.1 a h')
  subst hb
  rw [mvSorted_same ((List.perm_cons b).1 hp) hs.2 hs'.2]
end Go.VC
end

section
namespace Go.VC
open Go.Proofs
variable [Mono]
namespace M

def W170 (p0:Int) (h:Heap) (R:Value->Heap->Prop):Prop:=
 R (.bool (p0 != p0)) h
theorem vc170 (p0:Int) (h:Heap) (R:Value->Heap->Prop) (H:W170 p0 h R):Fn Pz 170 #[vI p0] h R:=fnI (A:=.z) (by kernel_rfl) H

def W120 (p0 p1:Int) (h:Heap) (R:Value->Heap->Prop):Prop:=
 (Fn Pz 170 #[vI p0] h
 (fun v1 h3=>∃ x2,iB v1 x2 /\
 (Fn Pz 170 #[vI p1] h3
 (fun v4 h6=>∃ x5,iB v4 x5 /\
 (sB x2
 ((sB x5
 (R (vI 0) h6)
 (R (vI (-1)) h6)))
 ((sB x5
 (R (vI 1) h6)
 ((sB (decide (p0<p1))
 (R (vI (-1)) h6)
 ((sB (decide (p0 > p1))
 (R (vI 1) h6)
 (R (vI 0) h6))))))))))))
theorem vc120 (p0 p1:Int) (h:Heap) (R:Value->Heap->Prop) (H:W120 p0 p1 h R):Fn Pz 120 #[vI p0,vI p1] h R:=fnI (A:=.z) (by kernel_rfl) H

def W119 (p0:Sl) (h:Heap) (R:Value->Heap->Prop):Prop:=
 (QI 0 h fun I1 x_4 h5 m3=>(
 (sB (decide (x_4<(p0.n:Int)))
 ((NB p0.a fun b6 o7=>(Ib x_4 p0.n /\
 (∃ x8,rI h5 ⟨b6,o7+Int.toNat x_4*1,none⟩ x8 /\
 (sB (x8 != 0)
 (R (vI x8) h5)
 ((∃ m9,m9<m3/\I1 (IntKind.wrap .i64 (x_4+1)) h5 m9)))))))
 (R (vI 0) h5))))
theorem vc119 (p0:Sl) (h:Heap) (R:Value->Heap->Prop) (H:W119 p0 h R):Fn Pz 119 #[vS p0] h R:=fnI (A:=(.s .z (.s .z (.s (.s .z (.b (.l [(8,.one (.int .i64))] .z))) .z)))) (by kernel_rfl) H

def W265 (p0_1:Bool) (p0_2 p0_3:Int) (p1_4:Bool) (p1_5 p1_6:Int) (h:Heap) (R:Value->Heap->Prop):Prop:=
 (Wn h (L3 p0_1 p0_2 p0_3) 324 fun h7=>
 (Wn h7 (L3 p1_4 p1_5 p1_6) 324 fun h8=>
 (∃ x9,rB h8 (aS h 0) x9 /\
 (∃ x10,rB h8 (aS h7 0) x10 /\
 (sB (!(x9 == x10))
 ((∃ x11,rB h8 (aS h 0) x11 /\
 (sB x11
 (R (vI (-1)) h8)
 (R (vI 1) h8))))
 ((∃ x12,rI h8 (aS h 1) x12 /\
 (∃ x13,rI h8 (aS h7 1) x13 /\
 (∃ x14,rI h8 (aS h 2) x14 /\
 (∃ x15,rI h8 (aS h7 2) x15 /\
 (Fn Pz 120 #[vI x12,vI x13] h8
 (fun v16 h18=>∃ x17,iI v16 x17 /\
 (Sm [(aS h7 2),(aS h 2)] h8 h18 /\
 (Fn Pz 120 #[vI x14,vI x15] h18
 (fun v19 h21=>∃ x20,iI v19 x20 /\
 (Sm [(aS h7 1),(aS h 1)] h18 h21 /\
 (Wn h21 [vI x17,vI x20] 3 fun h22=>
 (Fn Pz 119 #[.slice (some (aS h21 0)) 2 2] h22
 (fun v23 h25=>∃ x24,iI v23 x24 /\
 R (vI x24) h25)))))))))))))))))))
theorem vc265 (p0_1:Bool) (p0_2 p0_3:Int) (p1_4:Bool) (p1_5 p1_6:Int) (h:Heap) (R:Value->Heap->Prop) (H:W265 p0_1 p0_2 p0_3 p1_4 p1_5 p1_6 h R):Fn Pz 265 #[.agg ⟨(L3 p0_1 p0_2 p0_3)⟩,.agg ⟨(L3 p1_4 p1_5 p1_6)⟩] h R:=fnI (A:=.z) (by kernel_rfl) H

def W223 (p0_1:Int) (p0_2:Bool) (p0_3 p0_4 p0_5:Int) (p0_6:Bool) (h:Heap) (R:Value->Heap->Prop):Prop:=
 (Wn h (L0 p0_1 p0_2 p0_3 p0_4 p0_5 p0_6) 108 fun h7=>
 (∃ x8,rB h7 (aS h 1) x8 /\
 (sB x8
 (R (vI 0) h7)
 (R (vI 1) h7))))
theorem vc223 (p0_1:Int) (p0_2:Bool) (p0_3 p0_4 p0_5:Int) (p0_6:Bool) (h:Heap) (R:Value->Heap->Prop) (H:W223 p0_1 p0_2 p0_3 p0_4 p0_5 p0_6 h R):Fn Pz 223 #[.agg ⟨(L0 p0_1 p0_2 p0_3 p0_4 p0_5 p0_6)⟩] h R:=fnI (A:=.z) (by kernel_rfl) H

def W159 (p0_1:Int) (p0_2:Bool) (p0_3 p0_4 p0_5:Int) (p0_6:Bool) (p1_7:Int) (p1_8:Bool) (p1_9 p1_10 p1_11:Int) (p1_12:Bool) (h:Heap) (R:Value->Heap->Prop):Prop:=
 (Wn h (L0 p0_1 p0_2 p0_3 p0_4 p0_5 p0_6) 108 fun h13=>
 (Wn h13 (L0 p1_7 p1_8 p1_9 p1_10 p1_11 p1_12) 108 fun h14=>
 (∃ x15,rI h14 (aS h 0) x15 /\
 (∃ x16,rI h14 (aS h13 0) x16 /\
 (∃ x17 x18 x19 x20 x21 x22,aL0 h14 (aS h 0) x17 x18 x19 x20 x21 x22 /\
 (∃ x23 x24 x25 x26 x27 x28,aL0 h14 (aS h13 0) x23 x24 x25 x26 x27 x28 /\
 (∃ x29,rI h14 (aS h 2) x29 /\
 (∃ x30,rI h14 (aS h13 2) x30 /\
 (∃ x31,rI h14 (aS h 3) x31 /\
 (∃ x32,rI h14 (aS h13 3) x32 /\
 (Fn Pz 120 #[vI x15,vI x16] h14
 (fun v33 h35=>∃ x34,iI v33 x34 /\
 (Sm [(aS h13 3),(aS h 3),(aS h13 2),(aS h 2),(aS h13 0),(aS h 0)] h14 h35 /\
 (Fn Pz 223 #[.agg ⟨(L0 x17 x18 x19 x20 x21 x22)⟩] h35
 (fun v36 h38=>∃ x37,iI v36 x37 /\
 (Sm [(aS h13 3),(aS h 3),(aS h13 2),(aS h 2),(aS h13 0),(aS h13 0),(aS h 0)] h35 h38 /\
 (Fn Pz 223 #[.agg ⟨(L0 x23 x24 x25 x26 x27 x28)⟩] h38
 (fun v39 h41=>∃ x40,iI v39 x40 /\
 (Sm [(aS h13 3),(aS h 3),(aS h13 2),(aS h 2),(aS h 0),(aS h13 0),(aS h 0)] h38 h41 /\
 (Fn Pz 120 #[vI x37,vI x40] h41
 (fun v42 h44=>∃ x43,iI v42 x43 /\
 (Sm [(aS h13 3),(aS h 3),(aS h13 2),(aS h 2),(aS h13 0),(aS h 0)] h41 h44 /\
 (Fn Pz 120 #[vI x29,vI x30] h44
 (fun v45 h47=>∃ x46,iI v45 x46 /\
 (Sm [(aS h13 3),(aS h 3),(aS h13 0),(aS h 0),(aS h13 0),(aS h 0)] h44 h47 /\
 (Fn Pz 120 #[vI x31,vI x32] h47
 (fun v48 h50=>∃ x49,iI v48 x49 /\
 (Sm [(aS h13 2),(aS h 2),(aS h13 0),(aS h 0),(aS h13 0),(aS h 0)] h47 h50 /\
 (Wn h50 [vI x34,vI x43,vI x46,vI x49] 3 fun h51=>
 (Fn Pz 119 #[.slice (some (aS h50 0)) 4 4] h51
 (fun v52 h54=>∃ x53,iI v52 x53 /\
 R (vI x53) h54)))))))))))))))))))))))))))))))
theorem vc159 (p0_1:Int) (p0_2:Bool) (p0_3 p0_4 p0_5:Int) (p0_6:Bool) (p1_7:Int) (p1_8:Bool) (p1_9 p1_10 p1_11:Int) (p1_12:Bool) (h:Heap) (R:Value->Heap->Prop) (H:W159 p0_1 p0_2 p0_3 p0_4 p0_5 p0_6 p1_7 p1_8 p1_9 p1_10 p1_11 p1_12 h R):Fn Pz 159 #[.agg ⟨(L0 p0_1 p0_2 p0_3 p0_4 p0_5 p0_6)⟩,.agg ⟨(L0 p1_7 p1_8 p1_9 p1_10 p1_11 p1_12)⟩] h R:=fnI (A:=.z) (by kernel_rfl) H

end M
end Go.VC
end

section
/- The comparisons of events and of moves, over every relation of worlds. -/
namespace Go.VC
open Go.Proofs Go.LexS
def sideM (x:Mv):Int:=if x.send then 0 else 1
def cmpM (x y:Mv):Int:=orI3 (cmpI x.f y.f) (orI3 (cmpI (sideM x) (sideM y)) (orI3 (cmpI x.peer y.peer) (cmpI x.label y.label)))
theorem cmpM_neg {x y:Mv}:cmpM x y<0 ↔ mvLt x y:=by
 unfold cmpM mvLt evLt orI3 cmpI sideM Mv.ev
 obtain ⟨f,s,p,l,t,a⟩:=x
 obtain ⟨f',s',p',l',t',a'⟩:=y
 cases s <;> cases s' <;> simp <;> (repeat' split) <;> omega
namespace M
theorem inrows (L:List Int):∀ r ∈ L.map inC,r.length=1:=fun r hr=>by obtain ⟨x,_,rfl⟩:=Yp.1 hr; rfl
end M
variable [Mono]
namespace M
theorem nan151 (x:Int) (h:Heap):Fn Pz 170 #[.int .i64 x] h fun v h'=>v=.bool false/\h'=h:=by
 apply vc170; unfold W170
 exact ⟨by rw [bne_self_eq_false],rfl⟩
theorem cmp110 (x y:Int) (h:Heap):Fn Pz 120 #[.int .i64 x,.int .i64 y] h fun v h'=>v=.int .i64 (cmpI x y)/\h'=h:=by
 apply vc120; unfold W120
 refine (nan151 x h).mono ?_
 rintro _ _ ⟨rfl,rfl⟩
 refine ⟨_,rfl,?_⟩
 refine (nan151 y _).mono ?_
 rintro _ _ ⟨rfl,rfl⟩
 refine ⟨_,rfl,?_⟩
 refine sB_f rfl (sB_f rfl ?_)
 unfold cmpI
 refine sBi (fun c=>?_) (fun c=>sBi (fun d=>?_) (fun d=>?_))
 ·
  exact ⟨by rw [if_pos c],rfl⟩
 ·
  exact ⟨by rw [if_neg c,if_pos d],rfl⟩
 ·
  exact ⟨by rw [if_neg c,if_neg d],rfl⟩
theorem or109 (l:List Int) (s:Sl) (h:Heap) (hr:Rw h 1 s (l.map inC)) (hm:l.length<=1048576) :
  Fn Pz 119 #[.slice s.a s.n s.c] h fun v h'=>v=.int .i64 (l.foldr orI3 0)/\h'=h:=by
 apply vc119; unfold W119
 have hn:=hr.ln
 refine up_loop (n:=s.n) (fun i h'=>h'=h/\l.foldr orI3 0=(l.drop i).foldr orI3 0) ⟨rfl,rfl⟩ ?_
 rintro - i h5 hi ⟨rfl,hq⟩
 refine sB_intro (fun l2=>?_) (fun l2=>?_)
 ·
  replace l2:=lt_t l2
  refine hr.nbI (by omega) (by omega) fun b o d g t=>?_
  replace g:l[i]?=some d:=g
  have hd:l.drop i=d::l.drop (i+1):=by
   obtain ⟨hl,he⟩:=Ya.1 g
   rw [List.drop_eq_getElem_cons hl,he]
  rw [hd,List.foldr_cons] at hq
  refine ⟨_,t.hd,?_⟩
  refine sBn (fun c=>?_) (fun c=>?_)
  ·
   refine ⟨?_,rfl⟩
   rw [hq]; unfold orI3; rw [if_pos c]
  ·
   refine Up.next l2 (by omega) ⟨rfl,?_⟩
   rw [hq]; unfold orI3; rw [if_neg (by omega)]
 ·
  replace l2:=lt_f l2
  rw [List.drop_eq_nil_of_le (by omega)] at hq
  exact ⟨by rw [hq]; rfl,rfl⟩
theorem compare138 (x y:Ev) (h:Heap):Fn Pz 265 #[.agg ⟨x.cs⟩,.agg ⟨y.cs⟩] h fun v h'=>v=.int .i64 (cmpE x y)/\Ext h h':=by
 apply vc265 x.send x.peer x.label y.send y.peer y.label; unfold W265
 have hs:=St.refl h
 refine hs.newb fun h7 hs=>?_
 refine hs.newb fun h8 hs=>?_
 refine ⟨_,hs.rd 1 rfl rfl,?_⟩
 refine ⟨_,hs.rd 0 rfl rfl,?_⟩
 refine sB_intro (fun c=>?_) (fun c=>?_)
 ·
  have hne:x.send ≠ y.send:=by simpa using c
  refine ⟨_,hs.rd 1 rfl rfl,?_⟩
  unfold cmpE
  rw [if_pos hne]
  refine sB_intro (fun d=>?_) (fun d=>?_)
  ·
   exact ⟨by rw [if_pos d],hs.ext⟩
  ·
   exact ⟨by rw [if_neg (by rw [d]; simp)],hs.ext⟩
 ·
  have he:x.send=y.send:=by simpa using c
  refine ⟨_,hs.rd 1 rfl rfl,_,hs.rd 0 rfl rfl,_,hs.rd 1 rfl rfl,_,hs.rd 0 rfl rfl,?_⟩
  refine (cmp110 _ _ _).mono ?_
  rintro _ _ ⟨rfl,rfl⟩
  refine ⟨_,rfl,fun _ _ _ _ hv=>hv,?_⟩
  refine (cmp110 _ _ _).mono ?_
  rintro _ _ ⟨rfl,rfl⟩
  refine ⟨_,rfl,fun _ _ _ _ hv=>hv,?_⟩
  refine hs.newb fun h22 hs=>?_
  have hs2:=hs.blkS 2 1 ([cmpI x.peer y.peer,cmpI x.label y.label].map inC) rfl (inrows _) rfl (by decide)
  refine (or109 [cmpI x.peer y.peer,cmpI x.label y.label] _ h22 (hs2.rows 0 rfl (by omega)) (show 2<=1048576 by decide)).mono ?_
  rintro _ _ ⟨rfl,rfl⟩
  refine ⟨_,rfl,?_,hs.ext⟩
  unfold cmpE
  rw [if_neg (by simpa using he)]
  show Value.int .i64 (orI3 _ (orI3 _ 0))=_
  congr 1
  unfold orI3
  split
  ·
   rfl
  ·
   split <;> omega
theorem side129 (x:Mv) (h:Heap):Fn Pz 223 #[.agg ⟨x.cs⟩] h fun v h'=>v=.int .i64 (sideM x)/\Ext h h':=by
 apply vc223 x.f x.send x.peer x.label x.t x.ag; unfold W223
 have hs:=St.refl h
 refine hs.newb fun h7 hs=>?_
 refine ⟨_,hs.rd 0 rfl rfl,?_⟩
 unfold sideM
 refine sB_intro (fun c=>?_) (fun c=>?_)
 ·
  exact ⟨by rw [if_pos c],hs.ext⟩
 ·
  exact ⟨by rw [if_neg (by rw [c]; simp)],hs.ext⟩
theorem Sm_ext {al:List Addr} {h h':Heap} (E:Ext h h'):Sm al h h':=fun _ _ _ _ hv=>hc_ext E hv
theorem order73 (x y:Mv) (h:Heap):Fn Pz 159 #[.agg ⟨x.cs⟩,.agg ⟨y.cs⟩] h fun v h'=>v=.int .i64 (cmpM x y)/\Ext h h':=by
 apply vc159 x.f x.send x.peer x.label x.t x.ag y.f y.send y.peer y.label y.t y.ag; unfold W159
 have hs:=St.refl h
 refine hs.newb fun h13 hs=>?_
 refine hs.newb fun h14 hs=>?_
 refine ⟨_,hs.rd 1 rfl rfl,_,hs.rd 0 rfl rfl,_,_,_,_,_,_,hs.at 1 rfl (o:=0) (n:=6) rfl,_,_,_,_,_,_,hs.at 0 rfl (o:=0) (n:=6) rfl,_,hs.rd 1 rfl rfl,_,hs.rd 0 rfl rfl,_,hs.rd 1 rfl rfl,_,hs.rd 0 rfl rfl,?_⟩
 refine (cmp110 _ _ _).mono ?_
 rintro _ _ ⟨rfl,rfl⟩
 refine ⟨_,rfl,fun _ _ _ _ hv=>hv,?_⟩
 refine (side129 x _).mono ?_
 rintro _ h38 ⟨rfl,E1⟩
 refine ⟨_,rfl,Sm_ext E1,?_⟩
 have hs:=hs.step E1
 refine (side129 y _).mono ?_
 rintro _ h41 ⟨rfl,E2⟩
 refine ⟨_,rfl,Sm_ext E2,?_⟩
 have hs:=hs.step E2
 refine (cmp110 _ _ _).mono ?_
 rintro _ _ ⟨rfl,rfl⟩
 refine ⟨_,rfl,fun _ _ _ _ hv=>hv,?_⟩
 refine (cmp110 _ _ _).mono ?_
 rintro _ _ ⟨rfl,rfl⟩
 refine ⟨_,rfl,fun _ _ _ _ hv=>hv,?_⟩
 refine (cmp110 _ _ _).mono ?_
 rintro _ _ ⟨rfl,rfl⟩
 refine ⟨_,rfl,fun _ _ _ _ hv=>hv,?_⟩
 refine hs.newb fun h51 hs=>?_
 have hs2:=hs.blkS 4 1 ([cmpI x.f y.f,cmpI (sideM x) (sideM y),cmpI x.peer y.peer,cmpI x.label y.label].map inC) rfl (inrows _) rfl (by decide)
 refine (or109 [cmpI x.f y.f,cmpI (sideM x) (sideM y),cmpI x.peer y.peer,cmpI x.label y.label] _ h51 (hs2.rows 0 rfl (by omega)) (show 4<=1048576 by decide)).mono ?_
 rintro _ _ ⟨rfl,rfl⟩
 refine ⟨_,rfl,?_,hs.ext⟩
 unfold cmpM
 show Value.int .i64 (orI3 _ (orI3 _ (orI3 _ (orI3 _ 0))))=_
 congr 3
 unfold orI3
 split
 ·
  rfl
 ·
  omega
end M
end Go.VC
end

section
/- Contracts: events of moves, their order, the order of a machine's moves; over every relation of worlds. (Numbers of layer 26's seat.) -/
namespace Go.VC
open Go.Proofs Go.LexS
variable [Mono]
namespace M
theorem of63 (x:Mv) (h:Heap):Fn Pz 174 #[.agg ⟨x.cs⟩] h fun v h'=>v=.agg ⟨x.ev.cs⟩/\Ext h h':=by
 apply vc174 x.f x.send x.peer x.label x.t x.ag; unfold W174
 refine (St.refl h).newb fun h7 hs=>?_
 refine hs.newb fun h8 hs=>?_
 refine ⟨_,hs.rd 1 rfl rfl,_,hs.rd 1 rfl rfl,_,hs.rd 1 rfl rfl,?_⟩
 refine hs.put 0 rfl (o:=0) (vs:=x.ev.cs) rfl (show 3<=3 by decide) fun h12 hs=>?_
 exact ⟨_,_,_,hs.at 0 rfl (o:=0) (n:=3) rfl,rfl,hs.ext⟩
theorem compare104 (x y:Ev) (h:Heap):Fn Pz 175 #[.agg ⟨x.cs⟩,.agg ⟨y.cs⟩] h fun v h'=>v=.int .i64 (cmpE x y)/\Ext h h':=by
 apply vc175 x.send x.peer x.label y.send y.peer y.label; unfold W175
 have hs:=St.refl h
 refine hs.newb fun h7 hs=>?_
 refine hs.newb fun h8 hs=>?_
 refine ⟨_,hs.rd 1 rfl rfl,?_⟩
 refine ⟨_,hs.rd 0 rfl rfl,?_⟩
 refine sB_intro (fun c=>?_) (fun c=>?_)
 ·
  have hne:x.send ≠ y.send:=by simpa using c
  refine ⟨_,hs.rd 1 rfl rfl,?_⟩
  unfold cmpE
  rw [if_pos hne]
  refine sB_intro (fun d=>?_) (fun d=>?_)
  ·
   exact ⟨by rw [if_pos d],hs.ext⟩
  ·
   exact ⟨by rw [if_neg (by rw [d]; simp)],hs.ext⟩
 ·
  have he:x.send=y.send:=by simpa using c
  refine ⟨_,hs.rd 1 rfl rfl,_,hs.rd 0 rfl rfl,_,hs.rd 1 rfl rfl,_,hs.rd 0 rfl rfl,?_⟩
  refine (cmp110 _ _ _).mono ?_
  rintro _ _ ⟨rfl,rfl⟩
  refine ⟨_,rfl,fun _ _ _ _ hv=>hv,?_⟩
  refine (cmp110 _ _ _).mono ?_
  rintro _ _ ⟨rfl,rfl⟩
  refine ⟨_,rfl,fun _ _ _ _ hv=>hv,?_⟩
  refine hs.newb fun h22 hs=>?_
  have hs2:=hs.blkS 2 1 ([cmpI x.peer y.peer,cmpI x.label y.label].map inC) rfl (inrows _) rfl (by decide)
  refine (or109 [cmpI x.peer y.peer,cmpI x.label y.label] _ h22 (hs2.rows 0 rfl (by omega)) (show 2<=1048576 by decide)).mono ?_
  rintro _ _ ⟨rfl,rfl⟩
  refine ⟨_,rfl,?_,hs.ext⟩
  unfold cmpE
  rw [if_neg (by simpa using he)]
  show Value.int .i64 (orI3 _ (orI3 _ 0))=_
  congr 1
  unfold orI3
  split
  ·
   rfl
  ·
   split <;> omega
theorem order153 (mv:List Mv) (sm:Sl) (a:Addr) (i k:Nat) (x y:Mv) (h:Heap) (ha:hc h ⟨a.block,a.off+4,none⟩=some (.slice sm.a sm.n sm.c)) (hr:Rw h 6 sm (mv.map Mv.cs)) (hx:mv[i]?=some x) (hy:mv[k]?=some y) :
  Fn Pz 173 #[.int .i64 (i:Nat),.int .i64 (k:Nat),.pointer (some a)] h fun v h'=>v=.int .i64 (cmpE x.ev y.ev)/\Ext h h':=by
 apply vc173; unfold W173
 have hn:=hr.ln
 have hxl:=(Ya.1 hx).1
 have hyl:=(Ya.1 hy).1
 refine ⟨sm,ha,?_⟩
 refine hr.nbI (by omega) (by omega) fun b o x' gx t=>?_
 replace gx:mv[i]?=some x':=gx
 rw [hx] at gx; cases gx
 refine ⟨_,_,_,_,_,_,t,sm,ha,?_⟩
 refine hr.nbI (by omega) (by omega) fun b2 o2 y' gy t2=>?_
 replace gy:mv[k]?=some y':=gy
 rw [hy] at gy; cases gy
 refine ⟨_,_,_,_,_,_,t2,?_⟩
 refine (of63 x h).mono ?_
 rintro _ h23 ⟨rfl,E⟩
 refine ⟨_,_,_,rfl,fun _ _ _ _ hv=>hc_ext E hv,?_⟩
 refine (of63 y h23).mono ?_
 rintro _ h28 ⟨rfl,E2⟩
 refine ⟨_,_,_,rfl,fun _ _ _ _ hv=>hc_ext E2 hv,?_⟩
 refine (compare104 x.ev y.ev h28).mono ?_
 rintro _ h31 ⟨rfl,E3⟩
 exact ⟨_,rfl,rfl,(E.trans E2).trans E3⟩
end M
end Go.VC
end
