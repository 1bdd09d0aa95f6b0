/- TkJ0 TkK0 TkL0 TkO0 TkQ0 TkR0. -/
import Derived.Test.YtnfkibjnkiojnaaGreatDoorM06
import Derived.Test.YtnfkibjnkiojnaaGreatDoorM05
import Derived.Test.YtnfkibjnkiojnaaGreatDoorM01
set_option linter.unusedVariables false
set_option linter.unusedSimpArgs false
set_option maxRecDepth 100000

section
/- What a role sees: lists. Nested slices of a call's own. -/
namespace Go.VC
open Go.RowKit

structure Ev where
 send:Bool
 peer:Int
 label:Int
 deriving DecidableEq
def Ev.cs (x:Ev):List Value:=[.bool x.send,.int .i64 x.peer,.int .i64 x.label]
structure Ar where
 x:Ev
 to:Int
def Ar.cs (a:Ar):List Value:=[.bool a.x.send,.int .i64 a.x.peer,.int .i64 a.x.label,.int .i64 a.to]
def slC (s:Sl):List Value:=[.slice s.a s.n s.c]
def vis1 (role:Int) (x:Ed):Option Ev:=if role=x.a then some ⟨true,x.b,x.l⟩ else if role=x.b then some ⟨false,x.a,x.l⟩ else none
def quietL (es:List Ed) (role:Int) (n:Nat):List Int:=es.filterMap fun x=>if x.f=(n:Int) then (match vis1 role x with | none=>some x.t | some _=>none) else none
def visL (es:List Ed) (role:Int) (n:Nat):List Ar:=es.filterMap fun x=>if x.f=(n:Int) then (vis1 role x).map fun e=>⟨e,x.t⟩ else none
theorem quietL_snoc (es:List Ed) (role:Int) (n:Nat) (x:Ed):quietL (es++[x]) role n=quietL es role n++(if x.f=(n:Int) then (match vis1 role x with | none=>[x.t] | some _=>[]) else []):=by
 unfold quietL
 rw [List.filterMap_append]
 congr 1
 by_cases h:x.f=(n:Int)
 ·
  simp only [List.filterMap_cons,List.filterMap_nil,if_pos h]
  cases vis1 role x <;> rfl
 ·
  simp only [List.filterMap_cons,List.filterMap_nil,if_neg h]
theorem visL_snoc (es:List Ed) (role:Int) (n:Nat) (x:Ed):visL (es++[x]) role n=visL es role n++(if x.f=(n:Int) then (match vis1 role x with | none=>[] | some e=>[⟨e,x.t⟩]) else []):=by
 unfold visL
 rw [List.filterMap_append]
 congr 1
 by_cases h:x.f=(n:Int)
 ·
  simp only [List.filterMap_cons,List.filterMap_nil,if_pos h]
  cases vis1 role x <;> rfl
 ·
  simp only [List.filterMap_cons,List.filterMap_nil,if_neg h]

def nest {α:Type} (e:TypeId) (k:Nat) (cs:α->List Value) (q:Sl × List α):It:=.sl q.1 e k (q.2.map cs)
theorem set_mid {α:Type} {P R:List α} {Q:List α} {i:Nat} (hi:i<Q.length) (x:α):(P++Q++R).set (P.length+i) x=P++Q.set i x++R:=by
 rw [Yz,List.set_append_right _ _ (by omega),Nat.add_sub_cancel_left,List.set_append_left _ _ hi,Yz]
theorem get_mid {α:Type} {P R:List α} {Q:List α} {i:Nat} (hi:i<Q.length):(P++Q++R)[P.length+i]?=Q[i]?:=by
 rw [Yz,Yyc (by omega),Nat.add_sub_cancel_left,Yyi hi]
theorem St.nestAt {α:Type} {P:Program} {h0 h:Heap} {A B:List It} {Q:List (Sl × List α)} {e:TypeId} {n:Nat} {cs:α->List Value} (hs:St h0 h (A++Q.map (nest e n cs)++B)) {i:Nat} {q:Sl × List α} (hi:Q[i]?=some q)
  {t bytes:Nat} (hT:appB P t e n bytes=true) (d:α) {a:Addr} (ha:atC h a (cs d)) (hn:(cs d).length=n) (h1:(cs d).all oneB=true) (hb:(q.1.n+1)*bytes<=140737488355328) (h63:q.1.n+1<=maxLen)
  {K:Sl->Heap->Prop} (hK:∀ (r:Sl) (h':Heap),r.n=q.1.n+1->St h0 h' (A++(Q.set i (r,q.2++[d])).map (nest e n cs)++B)->K r h') :
  App P t t (.slice q.1.a q.1.n q.1.c) (.slice (some a) 1 1) h K:=by
 have hil:i<Q.length:=(Ya.1 hi).1
 have hil':i<(Q.map (nest e n cs)).length:=by rw [Yc]; exact hil
 refine hs.appended (A.length+i) (rows:=q.2.map cs) (by rw [get_mid hil',Yd,hi]; rfl) hT (news:=[cs d]) (by simpa using ha) rfl (fun r hr=>by rw [Ye] at hr; rw [hr]; exact hn) (by simpa using h1) hb h63 fun r h' hrn h3=>hK r h' hrn ?_
 rw [set_mid hil'] at h3
 have e1:(Q.map (nest e n cs)).set i (.sl r e n (q.2.map cs++[cs d]))=(Q.set i (r,q.2++[d])).map (nest e n cs):=by
  rw [List.map_set]; congr 1; unfold nest; simp
 rw [e1] at h3
 exact h3
theorem St.newbE {h0 h:Heap} {L:List It} (hs:St h0 h L) {xs:List Value} {e:TypeId} {K:Heap->Prop} (hK:∀ h2,Ext h h2->St h0 h2 (.blk h.size xs e::L)->K h2):∀ h2:Heap,h2=h.push (.cells ⟨xs⟩ e)->K h2:=
 VC.newb fun h2 E o=>hK h2 E (hs.more E (i:=.blk h.size xs e) o fun b hb=>by cases hb; exact Yyt _)
theorem St.perm {h0 h:Heap} {L L':List It} (hs:St h0 h L) (hp:L.Perm L'):St h0 h L':=
 ⟨hs.ext,fun i hi=>hs.ok i (hp.mem_iff.2 hi),(hp.pairwise_iff (fun {a b} hab x hx hy=>hab x hy hx)).1 hs.ap⟩
theorem St.nests {α:Type} {h0 h:Heap} {A B:List It} {e:TypeId} {k:Nat} {cs:α->List Value} (hs:St h0 h (A++B)):∀ n:Nat,St h0 h (A++(List.replicate n ((⟨.none,0,0⟩,[]):Sl × List α)).map (nest e k cs)++B)
 | 0=>by simpa using hs
 | n+1=>by
  have h1:=(hs.nests (α:=α) (e:=e) (k:=k) (cs:=cs) n).nil_ e k
  refine h1.perm ?_
  rw [List.replicate_succ,Yyl,Yz,Yz]
  have:nest e k cs ((⟨.none,0,0⟩,[]):Sl × List α)=.sl ⟨.none,0,0⟩ e k []:=rfl
  rw [this]
  exact List.perm_middle.symm
theorem sm_nil {h h':Heap}:Sm [] h h':=fun a ha=>by cases ha
theorem sm_cons {h h':Heap} {a:Addr} {al:List Addr} (hb:h'[a.block]?=h[a.block]?) (hr:Sm al h h'):Sm (a::al) h h':=by
 intro x hx k v hv
 rcases Yr.1 hx with rfl | hx
 ·
  rw [hc_of_block (h:=h) (by rw [addk_block']; exact hb)]; exact hv
 ·
  exact hr x hx k v hv
theorem St.same {h0 h h':Heap} {L L':List It} (hs:St h0 h L) (hs':St h0 h' L') (k k':Nat) {b:Nat} {xs:List Value} {e:TypeId} (hk:L[k]?=some (.blk b xs e)) (hk':L'[k']?=some (.blk b xs e)):h'[b]?=h[b]?:=(hs'.get hk').trans (hs.get hk).symm
structure LkI (h:Heap) (p:Addr) (g:Gl) (role:Int):Prop where
 ex:∃ (hq hv:Sl) (qs vs:Nat->Sl),p.spot=none/\atC h p (g.cs++[.int .i64 role,.slice hq.a hq.n hq.c,.slice hv.a hv.n hv.c])/\hq.n=g.n.toNat/\hv.n=g.n.toNat /\
  Rw h 1 hq ((List.range g.n.toNat).map fun i=>slC (qs i))/\Rw h 1 hv ((List.range g.n.toNat).map fun i=>slC (vs i)) /\
  (∀ i,i<g.n.toNat->Rw h 1 (qs i) ((quietL g.es role i).map inC))/\∀ i,i<g.n.toNat->Rw h 4 (vs i) ((visL g.es role i).map Ar.cs)
theorem LkI.ext {h h':Heap} {p:Addr} {g:Gl} {role:Int} (hl:LkI h p g role) (E:Ext h h'):LkI h' p g role:=by
 obtain ⟨hq,hv,qs,vs,h0,h1,h2,h3,h4,h5,h6,h7⟩:=hl.ex
 exact ⟨hq,hv,qs,vs,h0,atC_ext E h1,h2,h3,h4.ext E,h5.ext E,fun i hi=>(h6 i hi).ext E,fun i hi=>(h7 i hi).ext E⟩
end Go.VC
end

section
/- Closures, on lists. Arrays of one-cell elements. -/
namespace Go.VC

theorem map_get {α β:Type} (f:α->β) (L:List α) (i:Nat):(L.map f)[i]?=(L[i]?).map f:=Yd
theorem map_splice {α:Type} (f:α->Value) {L:List α} {i:Nat} (hi:i<L.length) (y:α):splice (L.map f) i [f y]=(L.set i y).map f:=by
 unfold splice
 rw [List.map_set,List.set_eq_take_append_cons_drop,if_pos (by rw [Yc]; exact hi)]
 simp
inductive Qr (es:List Ed) (role:Int) (l:List Int):Int->Prop where
 | base {a:Int}:a ∈ l->Qr es role l a
 | step {a b:Int}:Qr es role l a->(∃ x ∈ es,vis1 role x=none/\x.f=a/\x.t=b)->Qr es role l b
structure CL (es:List Ed) (role:Int) (n:Nat) (l:List Int) (D:List Bool) (T:List Int):Prop where
 len:D.length=n
 cnt:T.length=D.count true
 mem:∀ v,v ∈ T ↔ 0<=v/\D[v.toNat]?=some true
 r:∀ v ∈ T,Qr es role l v
theorem CL.start (es:List Ed) (role:Int) (n:Nat) (l:List Int):CL es role n l (List.replicate n false) []:=by
 refine ⟨by rw [Yg],by rw [List.count_replicate]; rfl,fun v=>⟨fun h=>(by cases h),fun ⟨_,h⟩=>?_⟩,fun v h=>by cases h⟩
 have:=List.eq_of_mem_replicate (Yb h)
 cases this
theorem CL.push {es:List Ed} {role:Int} {n:Nat} {l:List Int} {D:List Bool} {T:List Int} (h:CL es role n l D T) {b:Int} (h0:0<=b) (hb:D[b.toNat]?=some false) (hr:Qr es role l b):CL es role n l (D.set b.toNat true) (T++[b]):=by
 have hbl:=(Ya.1 hb).1
 have hbe:=(Ya.1 hb).2
 refine ⟨by rw [Yyh]; exact h.len,?_,fun v=>?_,fun v hv=>?_⟩
 ·
  rw [List.count_set hbl,hbe,Yh,h.cnt]; rfl
 ·
  rw [Yk,Ye,h.mem]
  constructor
  ·
   rintro (⟨h1,h2⟩ | rfl)
   ·
    refine ⟨h1,?_⟩
    by_cases e:b.toNat=v.toNat
    ·
     rw [e,Yq (by omega)]
    ·
     rw [Yy e]; exact h2
   ·
    exact ⟨h0,by rw [Yq hbl]⟩
  ·
   rintro ⟨h1,h2⟩
   by_cases e:b.toNat=v.toNat
   ·
    right; omega
   ·
    left; rw [Yy e] at h2; exact ⟨h1,h2⟩
 ·
  rcases Yk.1 hv with hv | hv
  ·
   exact h.r v hv
  ·
   rw [Ye] at hv; rw [hv]; exact hr
theorem CL.le {es:List Ed} {role:Int} {n:Nat} {l:List Int} {D:List Bool} {T:List Int} (h:CL es role n l D T):T.length<=n:=by
 rw [h.cnt,<- h.len]; exact List.count_le_length
theorem quietL_mem {es:List Ed} {role:Int} {n:Nat} {b:Int}:b ∈ quietL es role n ↔ ∃ x ∈ es,vis1 role x=none/\x.f=n/\x.t=b:=by
 unfold quietL
 rw [Yym]
 constructor
 ·
  rintro ⟨x,hx,h⟩
  split at h
  ·
   rename_i hf
   cases hv:vis1 role x with
   | none=>rw [hv] at h; exact ⟨x,hx,hv,hf,Yyp h⟩
   | some e=>rw [hv] at h; cases h
  ·
   cases h
 ·
  rintro ⟨x,hx,hv,hf,rfl⟩
  exact ⟨x,hx,by rw [if_pos hf,hv]⟩
theorem CL.end_ {es:List Ed} {role:Int} {n:Nat} {l:List Int} {D:List Bool} {T:List Int} (h:CL es role n l D T) (hl:∀ x ∈ l,x ∈ T) (hc:∀ v ∈ T,∀ b ∈ quietL es role v.toNat,b ∈ T) (v:Int):v ∈ T ↔ Qr es role l v:=by
 refine ⟨h.r v,fun hq=>?_⟩
 induction hq with
 | base hm=>exact hl _ hm
 | @step a b _ hx ih=>
  obtain ⟨x,hx,hv,hf,rfl⟩:=hx
  exact hc _ ih _ (quietL_mem.2 ⟨x,hx,hv,by have:=((h.mem a).1 ih).1; omega,rfl⟩)
noncomputable def clo (es:List Ed) (role:Int) (l:List Int):Nat->Bool:=fun j=>by classical exact decide (Qr es role l (j:Int))
theorem clo_iff {es:List Ed} {role:Int} {l:List Int} {j:Nat}:clo es role l j=true ↔ Qr es role l (j:Int):=by unfold clo; simp
end Go.VC
end

section
/- Events in order; what is visible from sets. No program here. -/
namespace Go.VC

def cmpI (x y:Int):Int:=if x<y then -1 else if x > y then 1 else 0
def orI3 (x y:Int):Int:=if x ≠ 0 then x else y
def cmpE (x y:Ev):Int:=if x.send ≠ y.send then (if x.send then -1 else 1) else orI3 (cmpI x.peer y.peer) (cmpI x.label y.label)
def evLt (x y:Ev):Prop:=(x.send=true/\y.send=false)\/(x.send=y.send/\(x.peer<y.peer\/(x.peer=y.peer/\x.label<y.label)))
instance (x y:Ev):Decidable (evLt x y):=by unfold evLt; infer_instance
theorem cmpE_neg {x y:Ev}:cmpE x y<0 ↔ evLt x y:=by
 unfold cmpE evLt orI3 cmpI
 obtain ⟨s,p,l⟩:=x
 obtain ⟨t,q,m⟩:=y
 cases s <;> cases t <;> simp <;> (repeat' split) <;> omega
theorem ev_ext {x y:Ev} (h1:x.send=y.send) (h2:x.peer=y.peer) (h3:x.label=y.label):x=y:=by
 obtain ⟨s,p,l⟩:=x
 obtain ⟨t,q,m⟩:=y
 simp_all
theorem evLt_irr (x:Ev):¬ evLt x x:=by unfold evLt; intro h; rcases h with ⟨h1,h2⟩ | ⟨_,h | ⟨_,h⟩⟩ <;> first | (rw [h1] at h2; cases h2) | omega
theorem evLt_trans {x y z:Ev} (h1:evLt x y) (h2:evLt y z):evLt x z:=by
 unfold evLt at *
 obtain ⟨s,p,l⟩:=x
 obtain ⟨t,q,m⟩:=y
 obtain ⟨u,r,n⟩:=z
 cases s <;> cases t <;> cases u <;> simp_all <;> omega
theorem evLt_tri (x y:Ev):evLt x y\/x=y\/evLt y x:=by
 unfold evLt
 obtain ⟨s,p,l⟩:=x
 obtain ⟨t,q,m⟩:=y
 cases s <;> cases t <;> simp <;> omega
def compactL:List Ev->List Ev
 | []=>[]
 | x::r=>match compactL r with
  | []=>[x]
  | y::t=>if x=y then y::t else x::y::t
theorem compactL_mem:∀ (l:List Ev) (x:Ev),x ∈ compactL l ↔ x ∈ l
 | [],x=>by simp [compactL]
 | a::r,x=>by
  have ih:=compactL_mem r
  rw [compactL]
  split
  ·
   rename_i h
   rw [h] at ih
   have:=ih x
   simp_all
  ·
   rename_i y t h
   rw [h] at ih
   have h1:=ih x
   split
   ·
    rename_i e; subst e
    have h2:=(ih a).1 (by simp)
    rw [h1]; simp only [Yr]
    constructor
    ·
     exact .inr
    ·
     rintro (rfl | h)
     ·
      exact h2
     ·
      exact h
   ·
    rw [Yr,h1,Yr]
theorem compactL_sorted:∀ (l:List Ev),l.Pairwise (fun a b=>¬ evLt b a)->(compactL l).Pairwise evLt
 | [],_=>by simp [compactL]
 | a::r,h=>by
  obtain ⟨h1,h2⟩:=List.pairwise_cons.1 h
  have ih:=compactL_sorted r h2
  rw [compactL]
  split
  ·
   simp
  ·
   rename_i y t hc
   rw [hc] at ih
   split
   ·
    exact ih
   ·
    rename_i hne
    refine List.pairwise_cons.2 ⟨fun z hz=>?_,ih⟩
    have hay:evLt a y:=by
     have hy:y ∈ r:=(compactL_mem r y).1 (by rw [hc]; simp)
     rcases evLt_tri a y with h3 | h3 | h3
     ·
      exact h3
     ·
      exact absurd h3 hne
     ·
      exact absurd h3 (h1 y hy)
    rcases Yr.1 hz with rfl | hz
    ·
     exact hay
    ·
     exact evLt_trans hay ((List.pairwise_cons.1 ih).1 z hz)
theorem sorted_ext:∀ (l m:List Ev),l.Pairwise evLt->m.Pairwise evLt->(∀ x,x ∈ l ↔ x ∈ m)->l=m
 | [],[],_,_,_=>rfl
 | [],b::m,_,_,h=>absurd ((h b).2 (by simp)) (by simp)
 | a::l,[],_,_,h=>absurd ((h a).1 (by simp)) (by simp)
 | a::l,b::m,hl,hm,h=>by
  obtain ⟨h1,h2⟩:=List.pairwise_cons.1 hl
  obtain ⟨h3,h4⟩:=List.pairwise_cons.1 hm
  have hab:a=b:=by
   rcases Yr.1 ((h a).1 (by simp)) with e | ha
   ·
    exact e
   ·
    rcases Yr.1 ((h b).2 (by simp)) with e | hb
    ·
     exact e.symm
    ·
     exact absurd (evLt_trans (h1 b hb) (h3 a ha)) (evLt_irr a)
  subst hab
  congr 1
  refine sorted_ext l m h2 h4 fun x=>?_
  have hx:=h x
  rw [Yr,Yr] at hx
  constructor
  ·
   intro hm'
   rcases hx.1 (.inr hm') with rfl | h5
   ·
    exact absurd (h1 x hm') (evLt_irr x)
   ·
    exact h5
  ·
   intro hm'
   rcases hx.2 (.inr hm') with rfl | h5
   ·
    exact absurd (h3 x hm') (evLt_irr x)
   ·
    exact h5
def insE (x:Ev):List Ev->List Ev
 | []=>[x]
 | y::r=>if evLt y x then y::insE x r else if x=y then y::r else x::y::r
theorem insE_mem (x z:Ev):∀ l:List Ev,z ∈ insE x l ↔ z=x\/z ∈ l
 | []=>by simp [insE]
 | y::r=>by
  rw [insE]
  split
  ·
   rw [Yr,insE_mem x z r,Yr]
   constructor
   ·
    rintro (h | h | h)
    ·
     exact .inr (.inl h)
    ·
     exact .inl h
    ·
     exact .inr (.inr h)
   ·
    rintro (h | h | h)
    ·
     exact .inr (.inl h)
    ·
     exact .inl h
    ·
     exact .inr (.inr h)
  ·
   split
   ·
    rename_i e; subst e; simp
   ·
    simp
theorem insE_sorted (x:Ev):∀ l:List Ev,l.Pairwise evLt->(insE x l).Pairwise evLt
 | [],_=>by simp [insE]
 | y::r,h=>by
  obtain ⟨h1,h2⟩:=List.pairwise_cons.1 h
  rw [insE]
  split
  ·
   rename_i hyx
   refine List.pairwise_cons.2 ⟨fun z hz=>?_,insE_sorted x r h2⟩
   rcases (insE_mem x z r).1 hz with rfl | hz
   ·
    exact hyx
   ·
    exact h1 z hz
  ·
   split
   ·
    exact h
   ·
    rename_i hyx hne
    have hxy:evLt x y:=by
     rcases evLt_tri x y with h3 | h3 | h3
     ·
      exact h3
     ·
      exact absurd h3 hne
     ·
      exact absurd h3 hyx
    refine List.pairwise_cons.2 ⟨fun z hz=>?_,h⟩
    rcases Yr.1 hz with rfl | hz
    ·
     exact hxy
    ·
     exact evLt_trans hxy (h1 z hz)
def sortE (l:List Ev):List Ev:=l.foldr insE []
theorem sortE_mem (l:List Ev) (x:Ev):x ∈ sortE l ↔ x ∈ l:=by
 unfold sortE
 induction l with
 | nil=>simp
 | cons a l ih=>rw [List.foldr_cons,insE_mem,ih,Yr]
theorem sortE_sorted (l:List Ev):(sortE l).Pairwise evLt:=by
 unfold sortE
 induction l with
 | nil=>simp
 | cons a l ih=>exact insE_sorted a _ ih
theorem compact_sortE {l l':List Ev} (hp:l'.Perm l) (hs:l'.Pairwise fun a b=>¬ evLt b a):compactL l'=sortE l:=
 sorted_ext _ _ (compactL_sorted l' hs) (sortE_sorted l) fun x=>by rw [compactL_mem,sortE_mem,hp.mem_iff]
def elems (p:Nat->Bool):List Nat:=(List.range 4096).filter p
theorem elems_mem {p:Nat->Bool} {j:Nat}:j ∈ elems p ↔ j<4096/\p j=true:=by unfold elems; rw [List.mem_filter,List.mem_range]
def toL (es:List Ed) (role:Int) (p:Nat->Bool) (x:Ev):List Int:=(elems p).flatMap fun n=>(visL es role n).filterMap fun a=>if a.x=x then some a.to else none
def evL (es:List Ed) (role:Int) (p:Nat->Bool):List Ev:=(elems p).flatMap fun n=>(visL es role n).map (·.x)
def evs (es:List Ed) (role:Int) (p:Nat->Bool):List Ev:=sortE (evL es role p)
end Go.VC
end

section
/- The view table, on lists. No program here. -/
namespace Go.VC

structure Mv where
 f:Int
 send:Bool
 peer:Int
 label:Int
 t:Int
 ag:Bool
 deriving DecidableEq
def Mv.cs (m:Mv):List Value:=[.int .i64 m.f,.bool m.send,.int .i64 m.peer,.int .i64 m.label,.int .i64 m.t,.bool m.ag]
abbrev PSet:=Nat->Bool
open Classical in
noncomputable def rowI:List PSet->PSet->Nat
 | [],_=>0
 | q::r,p=>if q=p then 0 else rowI r p+1
open Classical in
noncomputable def rowS (S:List PSet) (p:PSet):List PSet:=if p ∈ S then S else S++[p]
theorem rowI_lt {S:List PSet} {p:PSet}:rowI S p<S.length ↔ p ∈ S:=by
 induction S with
 | nil=>simp [rowI]
 | cons q r ih=>
  rw [rowI,Yr]
  split
  ·
   rename_i h; simp [h]
  ·
   rename_i h
   rw [Yyj]
   constructor
   ·
    intro h1; exact .inr (ih.1 (by omega))
   ·
    rintro (h1 | h1)
    ·
     exact absurd h1.symm h
    ·
     have:=ih.2 h1; omega
theorem rowI_of_not {S:List PSet} {p:PSet} (h:p ∉ S):rowI S p=S.length:=by
 induction S with
 | nil=>rfl
 | cons q r ih=>
  rw [Yr,not_or] at h
  rw [rowI,if_neg (fun e=>h.1 e.symm),ih h.2,Yyj]
theorem rowI_first {S:List PSet} {p:PSet} {i:Nat} (hi:S[i]?=some p) (h:∀ (j:Nat) (q:PSet),j<i->S[j]?=some q->q ≠ p):rowI S p=i:=by
 induction S generalizing i with
 | nil=>simp at hi
 | cons q r ih=>
  cases i with
  | zero=>simp at hi; rw [rowI,if_pos hi]
  | succ i=>
   rw [rowI,if_neg (h 0 q (by omega) rfl),ih (by simpa using hi) fun j q' hj hq=>h (j+1) q' (by omega) (by simpa using hq)]
noncomputable def arcsF (es:List Ed) (role:Int) (i:Nat) (p:PSet):List Ev->List PSet->List Mv->List PSet × List Mv
 | [],S,M=>(S,M)
 | x::r,S,M=>arcsF es role i p r (rowS S (clo es role (toL es role p x))) (M++[⟨i,x.send,x.peer,x.label,rowI S (clo es role (toL es role p x)),false⟩])
noncomputable def viewsF (es:List Ed) (role:Int):Nat->Nat->List PSet->List Mv->Option (List PSet × List Mv)
 | 0,_,_,_=>none
 | f+1,i,S,M=>match S[i]? with
  | none=>some (S,M)
  | some p=>if (arcsF es role i p (evs es role p) S M).1.length > 200 then none else viewsF es role f (i+1) (arcsF es role i p (evs es role p) S M).1 (arcsF es role i p (evs es role p) S M).2
noncomputable def views (g:Gl) (role:Int):Option (List PSet × List Mv):=viewsF g.es role 202 0 [clo g.es role [g.s]] []
end Go.VC
end

section
/- What a role has to know in all states, on lists. No program here. -/
namespace Go.VC

structure Ti where
 ag:Bool
 k:Int
 x:Ev
 deriving DecidableEq
def Ti.cs (t:Ti):List Value:=[.bool t.ag,.int .i64 t.k,.bool t.x.send,.int .i64 t.x.peer,.int .i64 t.x.label]
def ti0:Ti:=⟨false,0,⟨false,0,0⟩⟩
def updT (T:List Ti) (n:Nat) (f:Ti->Ti):List Ti:=match T[n]? with | some t=>T.set n (f t) | none=>T
def own1 (role:Int) (s:List Bool × List Ti) (x:Ed):List Bool × List Ti:=
 if x.a=role then (s.1.set x.f.toNat true,updT s.2 x.f.toNat fun t=>{ t with ag:=x.ag }) else s
def own2 (es:List Ed) (O:List Bool) (T:List Ti) (t:To):List Ti:=
 match O[t.s.toNat]?,es[t.e.toNat]? with
 | some true,some x=>updT T t.s.toNat fun q=>⟨q.ag,t.k,⟨true,x.b,x.l⟩⟩
 | _,_=>T
theorem updT_len (T:List Ti) (n:Nat) (f:Ti->Ti):(updT T n f).length=T.length:=by
 unfold updT; split
 ·
  rw [Yyh]
 ·
  rfl
theorem own1_len (role:Int) (s:List Bool × List Ti) (x:Ed):(own1 role s x).1.length=s.1.length/\(own1 role s x).2.length=s.2.length:=by
 unfold own1; split
 ·
  exact ⟨Yyh,updT_len _ _ _⟩
 ·
  exact ⟨rfl,rfl⟩
theorem own2_len (es:List Ed) (O:List Bool) (T:List Ti) (t:To):(own2 es O T t).length=T.length:=by
 unfold own2; split
 ·
  exact updT_len _ _ _
 ·
  rfl
def ownE (es:List Ed) (role:Int) (n:Nat):List Bool × List Ti:=es.foldl (own1 role) (List.replicate n false,List.replicate n ti0)
def ownT (es:List Ed) (ts:List To) (role:Int) (n:Nat):List Ti:=ts.foldl (own2 es (ownE es role n).1) (ownE es role n).2
theorem ownE_len (es:List Ed) (role:Int) (n:Nat):(ownE es role n).1.length=n/\(ownE es role n).2.length=n:=by
 unfold ownE
 suffices h:∀ (l:List Ed) (s:List Bool × List Ti),(l.foldl (own1 role) s).1.length=s.1.length/\(l.foldl (own1 role) s).2.length=s.2.length by
  have:=h es (List.replicate n false,List.replicate n ti0)
  simpa using this
 intro l
 induction l with
 | nil=>intro s; exact ⟨rfl,rfl⟩
 | cons a l ih=>intro s; rw [List.foldl_cons]; have h1:=ih (own1 role s a); have h2:=own1_len role s a; exact ⟨h1.1.trans h2.1,h1.2.trans h2.2⟩
theorem ownT_len (es:List Ed) (ts:List To) (role:Int) (n:Nat):(ownT es ts role n).length=n:=by
 unfold ownT
 suffices h:∀ (l:List To) (T:List Ti),(l.foldl (own2 es (ownE es role n).1) T).length=T.length from (h ts _).trans (ownE_len es role n).2
 intro l
 induction l with
 | nil=>intro s; rfl
 | cons a l ih=>intro s; rw [List.foldl_cons,ih,own2_len]
theorem foldl_snoc {α β:Type} {f:β->α->β} {b:β} {l:List α} {i:Nat} {x:α} (h:l[i]?=some x):(l.take (i+1)).foldl f b=f ((l.take i).foldl f b) x:=by
 rw [List.take_add_one,h,List.foldl_append]; rfl
theorem St.setf {α:Type} {h0 h:Heap} {L:List It} (hs:St h0 h L) (k:Nat) {s:Sl} {e:TypeId} {n:Nat} {cs:α->List Value} {l:List α} (hk:L[k]?=some (.sl s e n (l.map cs))) (hn:0<n) {x:Int} (hx0:0<=x) (hx1:x<(s.n:Nat)) (j:Nat) {y:α} (hy:l[x.toNat]?=some y) (y':α) {vs:List Value} (hsp:splice (cs y) j vs=cs y')
  (hv:j+vs.length<=n) {m:Nat} (hm:m=vs.length) {K:Nat->Nat->Heap->Prop} (hK:∀ b o h',St h0 h' (L.set k (.sl s e n ((l.set x.toNat y').map cs)))->K b o h') :
  NB s.a fun b o=>(0<=x/\x<(s.n:Nat))/\(okAt h ⟨b,o+x.toNat*n+j,none⟩ m/\∀ h',h'=hputs h ⟨b,o+x.toNat*n+j,none⟩ 0 vs->K b o h'):=by
 refine hs.nbput k hk hn (i:=x.toNat) (row:=cs y) (by rw [Yd,hy]; rfl) j hv (fun b o h' h1=>hK b o h' ?_) hm ⟨hx0,hx1⟩
 rw [hsp] at h1
 rw [List.map_set]
 exact h1
theorem updT_get {T:List Ti} {n:Nat} {f:Ti->Ti} {t:Ti} (h:T[n]?=some t):updT T n f=T.set n (f t):=by unfold updT; rw [h]
end Go.VC
end

section
/- The timing of a view, on lists. No program here. -/
namespace Go.VC

def sndAt (L:List Ev) (i:Nat):Bool:=match L[i]? with | some x=>x.send | none=>false
def badV (F:Nat->List Ev) (en:Nat->Bool) (l:List Nat) (n:Nat):Bool:=sndAt (F n) 0 && (en n || !sndAt (F n) ((F n).length - 1) || l.any fun k=>en k || decide (F n ≠ F k))
def stepV (F:Nat->List Ev) (en:Nat->Bool) (O:List Bool) (T:List Ti) (l:List Nat) (st:Option (Bool × Ti)) (n:Nat):Option (Bool × Ti):=
 match st with
 | none=>none
 | some (k,o)=>if badV F en l n then none else match O[n]?,T[n]? with
  | some true,some t=>if k && decide (t ≠ o) then none else some (true,t)
  | _,_=>some (k,o)
def viewV (F:Nat->List Ev) (en:Nat->Bool) (O:List Bool) (T:List Ti) (l:List Nat):Option Ti:=(l.foldl (stepV F en O T l) (some (false,ti0))).map Prod.snd
theorem stepV_none (F:Nat->List Ev) (en:Nat->Bool) (O:List Bool) (T:List Ti) (l m:List Nat):m.foldl (stepV F en O T l) none=none:=by
 induction m with
 | nil=>rfl
 | cons a m ih=>rw [List.foldl_cons]; exact ih
theorem viewV_none {F:Nat->List Ev} {en:Nat->Bool} {O:List Bool} {T:List Ti} {l:List Nat} {i:Nat} {b:Option (Bool × Ti)} {n:Nat} (hb:(l.take i).foldl (stepV F en O T l) (some (false,ti0))=b) (hn:l[i]?=some n) (h:stepV F en O T l b n=none):viewV F en O T l=none:=by
 unfold viewV
 have e:l=l.take i++(n::l.drop (i+1)):=by
  have:=List.take_append_drop i l
  obtain ⟨h1,h2⟩:=Ya.1 hn
  rw [List.drop_eq_getElem_cons h1,h2] at this
  exact this.symm
 have e2:l.foldl (stepV F en O T l) (some (false,ti0))=none:=by
  have:∀ m,m=l->m.foldl (stepV F en O T l) (some (false,ti0))=none:=by
   intro m hm
   rw [hm.trans e,List.foldl_append,hb,List.foldl_cons,h,stepV_none]
  exact this l rfl
 rw [e2]; rfl
theorem ti_eqb (x y:Ti):(((x.ag == y.ag) && ((x.k == y.k) && (((x.x.send == y.x.send) && ((x.x.peer == y.x.peer) && ((x.x.label == y.x.label) && true))) && true))):Bool)=decide (x=y):=by
 obtain ⟨a,k,⟨s,p,l⟩⟩:=x
 obtain ⟨a',k',⟨s',p',l'⟩⟩:=y
 simp [Bool.beq_eq_decide_eq,<- Bool.decide_and]
theorem Rw.atI {α:Type} {h:Heap} {k:Nat} {s:Sl} {cs:α->List Value} {L:List α} (hr:Rw h k s (L.map cs)) {b o:Nat} (ha:s.a=some ⟨b,o,none⟩) {i:Nat} {y:α} (hi:L[i]?=some y):atC h ⟨b,o+i*k,none⟩ (cs y):=by
 obtain ⟨b',o',ha',hall⟩:=hr.2 (by rw [Yc]; have:=(Ya.1 hi).1; omega)
 rw [ha] at ha'
 cases ha'
 exact hall i (cs y) (by rw [Yd,hi]; rfl)
theorem St.nbw {α:Type} {h0 h:Heap} {L:List It} (hs:St h0 h L) (k:Nat) {s:Sl} {e:TypeId} {n:Nat} {cs:α->List Value} {l:List α} (hk:L[k]?=some (.sl s e n (l.map cs))) (hn:0<n) {x:Int} (hx0:0<=x) (hx1:x<(s.n:Nat)) {F:Nat->Nat->Prop}
  (hF:∀ b o y,l[x.toNat]?=some y->s.a=some ⟨b,o,none⟩->atC h ⟨b,o+x.toNat*n,none⟩ (cs y)->(∀ (j:Nat) (y':α) (vs:List Value),splice (cs y) j vs=cs y'->j+vs.length<=n->∀ {m:Nat} (_:m=vs.length) {K:Heap->Prop},(∀ h',St h0 h' (L.set k (.sl s e n ((l.set x.toNat y').map cs)))->K h') ->
   okAt h ⟨b,o+x.toNat*n+j,none⟩ m/\∀ h',h'=hputs h ⟨b,o+x.toNat*n+j,none⟩ 0 vs->K h')->F b o):NB s.a fun b o=>(0<=x/\x<(s.n:Nat))/\F b o:=by
 have hr:=hs.rows k hk hn
 have hl:=hr.ln
 have hlt:x.toNat<l.length:=by omega
 have hg:l[x.toNat]?=some l[x.toNat]:=Yi hlt
 refine hr.nb (i:=x.toNat) (row:=cs l[x.toNat]) (by rw [Yd,hg]; rfl) fun b o ha hat=>⟨⟨hx0,hx1⟩,hF b o _ hg ha hat ?_⟩
 intro j y' vs hsp hv m hm K hK
 have h1:=hs.setf k hk hn hx0 hx1 j hg y' hsp hv hm (K:=fun _ _ h'=>K h') (fun _ _ h' h2=>hK h' h2)
 rw [ha,NB_some] at h1
 exact h1.2
structure Mch where
 role:Int
 n:Int
 s:Int
 fin:List Bool
 mv:List Mv
 li:List To
def updR (n:Nat) (x:Ti) (y:Mv):Mv:=if y.f=n/\y.send=true then { y with ag:=x.ag } else y
def limC (n:Nat) (x:Ti) (q:Mv × Nat):Option To:=if q.1.f=n/\q.1.send=true/\x.k > 0/\x.x=⟨true,q.1.peer,q.1.label⟩ then some ⟨n,x.k,q.2⟩ else none
def limR (n:Nat) (x:Ti) (M:List Mv):List To:=M.zipIdx.filterMap (limC n x)
def rawL (vw:List Nat->Option Ti):Nat->List PSet->List Mv->List To->Option (List Mv × List To)
 | _,[],M,L=>some (M,L)
 | n,p::S,M,L=>match vw (elems p) with
  | none=>none
  | some x=>rawL vw (n+1) S (M.map (updR n x)) (L++limR n x M)
theorem updR_same (n:Nat) (x:Ti) (y:Mv):(updR n x y).f=y.f/\(updR n x y).send=y.send/\(updR n x y).peer=y.peer/\(updR n x y).label=y.label/\(updR n x y).t=y.t:=by
 unfold updR; split <;> exact ⟨rfl,rfl,rfl,rfl,rfl⟩
theorem limR_len (n:Nat) (x:Ti) (M:List Mv):(limR n x M).length<=M.length:=by
 unfold limR
 refine Yys (List.length_filterMap_le _ _) ?_
 rw [List.length_zipIdx]; exact Yyt _
theorem zip_snoc {α:Type} {l:List α} {i:Nat} {x:α} (h:l[i]?=some x):(l.take (i+1)).zipIdx=(l.take i).zipIdx++[(x,i)]:=by
 rw [take_snoc h,List.zipIdx_append,Yu,Nat.min_eq_left (Nat.le_of_lt (Ya.1 h).1)]
 simp
theorem set_split {α:Type} {i:Nat} {x y:α} (f:α->α) {M:List α} (h:M[i]?=some x) (hy:f x=y):((M.take i).map f++M.drop i).set i y=(M.take (i+1)).map f++M.drop (i+1):=by
 obtain ⟨h1,h2⟩:=Ya.1 h
 have hl:((M.take i).map f).length=i:=by rw [Yc,Yu]; omega
 rw [take_snoc h,Ym,List.drop_eq_getElem_cons h1,List.set_append_right _ _ (by omega),hl,Nat.sub_self,List.set_cons_zero,Yz,<- hy]
 rfl
theorem get_split {α:Type} {i:Nat} {f:α->α} {M:List α}:((M.take i).map f++M.drop i)[i]?=M[i]?:=by
 by_cases hi:i<=M.length
 ·
  have hl:((M.take i).map f).length=i:=by rw [Yc,Yu]; omega
  rw [Yyc (by omega),hl,Nat.sub_self,List.getElem?_drop,Nat.add_zero]
 ·
  rw [Yl (by rw [Yh,Yc,Yu,List.length_drop]; omega),Yl (by omega)]
end Go.VC
end
