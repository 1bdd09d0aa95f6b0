/- VcMap. -/
import Derived.Test.YtnfkibjnkiojnaaGreatDoorM06
import Derived.Maps.Keyed
import Derived.ChangeMaps5
import Derived.Carry
import Derived.Test.YtnfkibjnkiojnaaGreatDoorM01
set_option linter.unusedVariables false
set_option linter.unusedSimpArgs false
set_option maxRecDepth 100000

section
/- For every program: maps of the call's own, al lists of keys and elements. -/
namespace Go.VC
open Go.RowKit Go.Maps Go.ChangeMaps

def mget {α β:Type} [DecidableEq α]:List (α × β)->α->Option β
  | [],_=>none
  | (x,y)::r,a=>if x=a then some y else mget r a
def mset {α β:Type} [DecidableEq α]:List (α × β)->α->β->List (α × β)
  | [],a,b=>[(a,b)]
  | (x,y)::r,a,b=>if x=a then (x,b)::r else (x,y)::mset r a b
theorem mget_none {α β:Type} [DecidableEq α] {a:α}:∀ {l:List (α × β)},(∀ q ∈ l,q.1 ≠ a)->mget l a=none
  | [],_=>rfl
  | (x,y)::r,h=>by rw [mget,if_neg (h (x,y) (by simp))]; exact mget_none fun q hq=>h q (Yn _ hq)
theorem mget_some {α β:Type} [DecidableEq α] {a:α} {y:β}:∀ {l:List (α × β)} {j:Nat},(l.map Prod.fst).Nodup->l[j]?=some (a,y)->mget l a=some y
  | [],j,_,h=>by simp at h
  | (x,z)::r,0,_,h=>by simp at h; rw [mget,if_pos h.1,h.2]
  | (x,z)::r,j+1,hn,h=>by
    rw [List.getElem?_cons_succ] at h
    rw [Yyl,List.nodup_cons] at hn
    have:x ≠ a:=fun e=>hn.1 (by subst e; exact Yp.2 ⟨_,Yb h,rfl⟩)
    rw [mget,if_neg this]
    exact mget_some hn.2 h
theorem mset_none {α β:Type} [DecidableEq α] {a:α} {b:β}:∀ {l:List (α × β)},(∀ q ∈ l,q.1 ≠ a)->mset l a b=l++[(a,b)]
  | [],_=>rfl
  | (x,y)::r,h=>by rw [mset,if_neg (h (x,y) (by simp)),mset_none fun q hq=>h q (Yn _ hq)]; rfl
theorem mset_some {α β:Type} [DecidableEq α] {a:α} {y b:β}:∀ {l:List (α × β)} {j:Nat},(l.map Prod.fst).Nodup->l[j]?=some (a,y)->mset l a b=l.set j (a,b)
  | [],j,_,h=>by simp at h
  | (x,z)::r,0,_,h=>by simp at h; rw [mset,if_pos h.1,List.set_cons_zero,h.1]
  | (x,z)::r,j+1,hn,h=>by
    rw [List.getElem?_cons_succ] at h
    rw [Yyl,List.nodup_cons] at hn
    have:x ≠ a:=fun e=>hn.1 (by subst e; exact Yp.2 ⟨_,Yb h,rfl⟩)
    rw [mset,if_neg this,List.set_cons_succ,mset_some hn.2 h]
theorem mset_keys {α β:Type} [DecidableEq α] (a:α) (b:β):∀ (l:List (α × β)) (x:α),x ∈ (mset l a b).map Prod.fst ↔ x ∈ l.map Prod.fst\/x=a
  | [],x=>by simp [mset]
  | (c,y)::r,x=>by
    rw [mset]
    split
    · rename_i h; subst h
      simp only [Yyl,Yr]
      constructor
      · intro h; exact .inl h
      · rintro (h | rfl)
        · exact h
        · exact .inl rfl
    · simp only [Yyl,Yr,mset_keys a b r x]
      constructor
      · rintro (h | h | h)
        · exact .inl (.inl h)
        · exact .inl (.inr h)
        · exact .inr h
      · rintro ((h | h) | h)
        · exact .inl h
        · exact .inr (.inl h)
        · exact .inr (.inr h)
theorem mset_nodup {α β:Type} [DecidableEq α] (a:α) (b:β):∀ (l:List (α × β)),(l.map Prod.fst).Nodup->((mset l a b).map Prod.fst).Nodup
  | [],_=>by simp [mset]
  | (c,y)::r,h=>by
    rw [mset]
    split
    · exact h
    · rename_i hne
      rw [Yyl,List.nodup_cons] at h ⊢
      refine ⟨fun hm=>?_,mset_nodup a b r h.2⟩
      rcases (mset_keys a b r c).1 hm with h1 | h1
      · exact h.1 h1
      · exact hne h1
theorem St.mmake {P:Program} {h0 h:Heap} {L:List It} (hs:St h0 h L) (t:TypeId) {K:Value->Heap->Prop} (hK:∀ h',Ext h h'->St h0 h' (.mp h.size []::L)->K (.map (some h.size)) h'):RunW P (Instr.makeMap t none) h K:=by
  intro w hw
  subst hw
  have hE:Ext w.heap (w.alloc (.map #[] 0)).heap:=⟨by show _<=(w.heap.push _).size; rw [Array.size_push]; omega,fun i hi=>(MapKept.heap_alloc w _).2 i hi⟩
  refine ⟨_,_,run_makeMap t w,?_,rfl,rfl,rfl⟩
  refine hK _ hE (hs.more hE (i:=.mp w.heap.size []) ⟨#[],0,(MapKept.heap_alloc w _).1,rfl⟩ fun b hb=>?_)
  cases hb; exact Yyt _
section
variable {α β:Type} {P:Program} {t kt e:TypeId} {ck:α->Value} {cv:β->Value} {kok:α->Prop}
structure MT (P:Program) (t kt e:TypeId) (ck:α->Value) (kok:α->Prop) (z:Value):Prop where
  K:Keyed P kt
  ht:P.underlying t=some (.map kt e)
  key:∀ a,kok a->∃ l,keyOf P kt (ck a)=some l
  inj:∀ a a',ck a=ck a'->a=a'
  z:∀ w,(zeroValue e).run P w=.ok z w
theorem mp_find {z:Value} (M:MT P t kt e ck kok z) {l:List (α × β)} {es:Array MapEntry} (he:es.toList.map (fun e:MapEntry=>(e.key,e.val))=l.map fun q=>(ck q.1,cv q.2)) (hl:∀ q ∈ l,kok q.1) {a:α} (ha:kok a) (w:World) :
    ((Instr.findKey kt (ck a) es.toList).run P w=.ok none w/\∀ q ∈ l,q.1 ≠ a)\/∃ j y e0,(Instr.findKey kt (ck a) es.toList).run P w=.ok (some (j,cv y)) w/\l[j]?=some (a,y)/\es.toList[j]?=some e0/\e0.key=ck a/\e0.val=cv y:=by
  obtain ⟨lx,hlx⟩:=M.key a ha
  have hget:∀ (j:Nat) (e0:MapEntry),es.toList[j]?=some e0->∃ q,l[j]?=some q/\e0.key=ck q.1/\e0.val=cv q.2:=fun j e0 h=>by
    have h1:=congrArg (·[j]?) he
    simp only [Yd,h,Option.map_some] at h1
    obtain ⟨q,hq,h2⟩:=Yya.1 h1.symm
    exact ⟨q,hq,(Prod.mk.inj h2).1.symm,(Prod.mk.inj h2).2.symm⟩
  have hks:∀ e0 ∈ es.toList,∃ l,keyOf P kt e0.key=some l:=fun e0 hm=>by
    obtain ⟨j,hj⟩:=Yf.1 hm
    obtain ⟨q,hq,h2,_⟩:=hget j e0 hj
    rw [h2]; exact M.key _ (hl q (Yb hq))
  rcases M.K.find w hlx es.toList hks with ⟨h1,h2⟩ | ⟨j,e0,h1,h2,h3⟩
  · refine .inl ⟨h1,fun q hq hc=>?_⟩
    obtain ⟨j,hj⟩:=Yf.1 hq
    have h4:=congrArg (·[j]?) he
    simp only [Yd,hj,Option.map_some] at h4
    obtain ⟨e0,he0,h5⟩:=Yya.1 h4
    exact h2 e0 (Yb he0) (by rw [(Prod.mk.inj h5).1,hc])
  · obtain ⟨q,hq,h4,h5⟩:=hget j e0 h2
    have:q.1=a:=M.inj _ _ (by rw [<- h4,h3])
    obtain ⟨q1,q2⟩:=q
    cases this
    exact .inr ⟨j,q2,e0,by rw [h1,h5],hq,h2,h3,h5⟩
theorem St.mlook [DecidableEq α] {z:Value} (M:MT P t kt e ck kok z) {h0 h:Heap} {L:List It} (hs:St h0 h L) (k:Nat) {b:Nat} {l:List (α × β)} (hk:L[k]?=some (.mp b (l.map fun q=>(ck q.1,cv q.2)))) (hl:∀ q ∈ l,kok q.1) (hn:(l.map Prod.fst).Nodup) {a:α} (ha:kok a) (c:Bool) {R:Value->Heap->Prop}
    (hR:R (match mget l a with | none=>if c then .tuple ⟨[z,.bool false]⟩ else z | some y=>if c then .tuple ⟨[cv y,.bool true]⟩ else cv y) h):RunW P (Instr.lookup t (.map (some b)) (ck a) c) h R:=by
  intro w hw
  subst hw
  obtain ⟨es,clock,hb,he⟩:=hs.get hk
  obtain ⟨lx,hlx⟩:=M.key a ha
  rcases mp_find (cv:=cv) M he hl ha w with ⟨h1,h2⟩ | ⟨j,y,e0,h1,h2,h3,h4,h5⟩
  · rw [mget_none h2] at hR
    refine ⟨_,w,?_,hR,rfl,rfl,rfl⟩
    simp [Instr.lookup,run_underlying M.ht,MapKept.run_getObj_map hb,M.K.check w _ hlx,h1,M.z w,Result.andThen]
  · rw [mget_some hn h2] at hR
    refine ⟨_,w,?_,hR,rfl,rfl,rfl⟩
    simp [Instr.lookup,run_underlying M.ht,MapKept.run_getObj_map hb,M.K.check w _ hlx,h1,Result.andThen]
theorem St.mlookOk [DecidableEq α] {z:Value} (M:MT P t kt e ck kok z) {h0 h:Heap} {L:List It} (hs:St h0 h L) (k:Nat) {b:Nat} {l:List (α × β)} (hk:L[k]?=some (.mp b (l.map fun q=>(ck q.1,cv q.2)))) (hl:∀ q ∈ l,kok q.1) (hn:(l.map Prod.fst).Nodup) {a:α} (ha:kok a) {R:Value->Heap->Prop}
    (hR:R (.tuple ⟨[(mget l a).elim z cv,.bool (mget l a).isSome]⟩) h):RunW P (Instr.lookup t (.map (some b)) (ck a) true) h R:=by
  refine hs.mlook M k hk hl hn ha true ?_
  generalize mget l a=o at *
  cases o <;> exact hR
theorem St.mlen {z:Value} (M:MT P t kt e ck kok z) {h0 h:Heap} {L:List It} (hs:St h0 h L) (k:Nat) {b:Nat} {l:List (α × β)} (hk:L[k]?=some (.mp b (l.map fun q=>(ck q.1,cv q.2)))) {ty:TypeId} {R:Value->Heap->Prop}
    (hR:R (.int .i64 (l.length:Nat)) h):RunW P (Builtin.len_ #[t] ty #[.map (some b)]) h R:=by
  intro w hw
  subst hw
  obtain ⟨es,clock,hb,he⟩:=hs.get hk
  have e1:es.size=l.length:=by have:=congrArg List.length he; simpa using this
  refine ⟨_,w,?_,hR,rfl,rfl,rfl⟩
  rw [<- e1]
  simp [Builtin.len_,run_underlying M.ht,MapKept.run_getObj_map hb,goInt,Result.andThen]
theorem St.mput [DecidableEq α] {z:Value} (M:MT P t kt e ck kok z) {h0 h:Heap} {L:List It} (hs:St h0 h L) (k:Nat) {b:Nat} {l:List (α × β)} (hk:L[k]?=some (.mp b (l.map fun q=>(ck q.1,cv q.2)))) (hl:∀ q ∈ l,kok q.1) (hn:(l.map Prod.fst).Nodup) {a:α} (ha:kok a) (y:β) {R:Unit->Heap->Prop}
    (hR:∀ h',St h0 h' (L.set k (.mp b ((mset l a y).map fun q=>(ck q.1,cv q.2))))->R () h'):RunW P (Instr.mapUpdate t (.map (some b)) (ck a) (cv y)) h R:=by
  intro w hw
  subst hw
  obtain ⟨es,clock,hb,he⟩:=hs.get hk
  obtain ⟨lx,hlx⟩:=M.key a ha
  have fin:∀ (es':Array MapEntry) (clock':Nat),es'.toList.map (fun e:MapEntry=>(e.key,e.val))=((mset l a y).map fun q=>(ck q.1,cv q.2))->R () (setBlock w b (.map es' clock')).heap:=by
    intro es' clock' he'
    refine hR _ (hs.turn hk (j:=.mp b ((mset l a y).map fun q=>(ck q.1,cv q.2))) ?_ ⟨es',clock',heap_setBlock_same hb _,he'⟩ (fun c hc=>.inr hc) fun c _ hc=>heap_setBlock_other hb _ fun e=>hc (by rw [e]; rfl))
    show w.heap.size<=(w.heap.setIfInBounds b _).size
    rw [Array.size_setIfInBounds]; exact Yyt _
  rcases mp_find (cv:=cv) M he hl ha w with ⟨h1,h2⟩ | ⟨j,y0,e0,h1,h2,h3,h4,h5⟩
  · refine ⟨(),setBlock w b (.map (es.push ⟨ck a,cv y,clock⟩) (clock+1)),?_,fin _ _ ?_,rfl,rfl,rfl⟩
    · simp [Instr.mapUpdate,run_underlying M.ht,MapKept.run_getObj_map hb,M.K.check w false hlx,h1,MapKept.run_setObj_map _ hb,Result.andThen,setBlock]
    · rw [mset_none h2,Array.toList_push,Ym,he,Ym]; rfl
  · have hj:es[j]?=some e0:=by simpa using h3
    have hlist:(es.modify j (fun e'=>{ e' with key:=ck a,val:=cv y })).toList=es.toList.set j { e0 with key:=ck a,val:=cv y }:=by rw [Array.toList_modify,modify_eq_set _ _ _ _ h3]
    refine ⟨(),setBlock w b (.map (es.modify j (fun e'=>{ e' with key:=ck a,val:=cv y })) clock),?_,fin _ _ ?_,rfl,rfl,rfl⟩
    · simp [Instr.mapUpdate,run_underlying M.ht,MapKept.run_getObj_map hb,M.K.check w false hlx,h1,hj,h4,M.K.stays w hlx,MapKept.run_setObj_map _ hb,Result.andThen,setBlock]
    · rw [mset_some hn h2,hlist,List.map_set,he,List.map_set]
end
end Go.VC
end
