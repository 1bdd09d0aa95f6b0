/- VcSort1. -/
import Derived.Test.YtnfkibjnkiojnaaGreatDoorM10
import Derived.Shelf.SlSortCmp.Whole1
import Derived.Test.YtnfkibjnkiojnaaGreatDoorM01
set_option linter.unusedVariables false
set_option linter.unusedSimpArgs false
set_option maxRecDepth 100000

section
/- For every program: slices.SortFunc at a row of one-cell elements of the call's own, under a comparison bound to arguments that reads what lies outside the row; from the kit's contract. -/
namespace Go.VC
open Go.Proofs Go.Shelf Go.RowKit Go.Lib Go.Sort
theorem flat1 {α:Type} (f:α->Value):∀ l:List α,(l.map fun x=>[f x]).flatten=l.map f
  | []=>rfl
  | a::l=>by rw [Yyl,Yyu,flat1 f l]; rfl
theorem sort_own1 {P:Program} {ρ:Ren} {α:Type} [Inhabited α] (L:SlLaysF.n6 P ρ) (e:TypeId) (enc:α->Value) (h1:OneCell enc) (cf:α->α->Int) (hO:SWO (ltOf cf)) (g:Nat) (cb:Array Value)
    (eg:∀ args w,(callFunc g args).run P w=.ok (.enter g args) w)
    {h0 h:Heap} {Ls:List It} (hs:St h0 h Ls) (i:Nat) {s:Sl} {l:List α} (hi:Ls[i]?=some (.sl s e 1 (l.map fun x=>[enc x]))) (hm:l.length<4611686018427387904)
    (hcmp:∀ (x y:α) (h':Heap),h.size<=h'.size->(∀ c,c<h.size->s.a.map (·.block) ≠ some c->h'[c]?=h[c]?) -> @Fn monoDrawn P g (#[enc x,enc y]++cb) h' fun v h2=>v=.int .i64 (cf x y)/\Ext h' h2) :
    Fn P (ρ.f 6) #[.slice s.a s.n s.c,.func (.func g) #[] cb] h fun v h'=>v=.tuple ⟨[]⟩/\∃ l':List α,l'.Perm l/\l'.Pairwise (fun a b=>ltOf cf b a=false)/\St h0 h' (Ls.set i (.sl s e 1 (l'.map fun x=>[enc x]))):=by
  intro w hw
  subst hw
  have hget:=hs.get hi
  have hrw:=hs.rw i hi (by omega)
  have hn:s.n=l.length:=by have:=hrw.1; simpa using this
  have hset:Ls.set i (.sl s e 1 (l.map fun x=>[enc x]))=Ls:=by
    obtain ⟨a,b⟩:=Ya.1 hi
    rw [<- b]; exact List.set_getElem_self a
  rcases hget.1.2 with ⟨ha,hn0,hc0⟩ | ⟨b,cur,ha,hb0,hh,hnc,hcm,hsz,htk⟩
  · have hl0:l=[]:=List.length_eq_zero_iff.1 (by omega)
    rw [ha,hn0,hc0]
    refine (AnyF.slices_SortFunc_none { L with } none ((0:Nat):Nat) (.func (.func g) #[] cb) w).mono ?_
    rintro e' w' ⟨rfl,rfl⟩
    refine ⟨_,rfl,⟨rfl,l,List.Perm.refl _,by rw [hl0]; exact List.Pairwise.nil,?_⟩,rfl,rfl,rfl,trivial⟩
    rw [hset]; exact hs
  · have hblk:b<w.heap.size:=(Yyg.1 hh).1
    rw [flat1,Nat.mul_one] at htk
    have hcell:∀ t,t<s.n->cur[t]?=some (enc l.toArray[t]!):=by
      intro t ht
      have h2:(l.map enc)[t]?=some (enc l.toArray[t]!):=by
        have:t<l.length:=by omega
        rw [Yd,Yi this]
        simp [this]
      rw [<- htk,Yyf,if_pos ht] at h2
      simpa using h2
    have hH:Holds enc w b 0 l.toArray:=by
      intro t ht
      have ht':t<s.n:=by rw [hn]; simpa using ht
      refine ⟨?_,?_⟩
      · unfold World.cell?
        simp only [hh,Nat.zero_add]
        rw [hcell t ht']; rfl
      · unfold World.frozen?
        simp only [hh]
        simp
    have hother:∀ (n:Nat) (d':Array α) (os:Array Obj) (c:Nat),c<w.heap.size->c ≠ b->(sortWorld enc w b 0 n d' os).heap[c]?=w.heap[c]?:=by
      intro n d' os c hc hne
      unfold sortWorld Sort.grow putRow mapBlock
      show ((w.heap.modify b _)++os)[c]?=_
      rw [Array.getElem?_append_left (by simpa using hc),Array.getElem?_modify,if_neg (fun e=>hne e.symm)]
    have hsize:∀ (n:Nat) (d':Array α) (os:Array Obj),w.heap.size<=(sortWorld enc w b 0 n d' os).heap.size:=by
      intro n d' os
      unfold sortWorld Sort.grow putRow mapBlock
      show _<=((w.heap.modify b _)++os).size
      rw [Array.size_append,Array.size_modify]
      exact Nat.le_add_right _ _
    have hcon:=Any.slices_SortFunc L enc h1 cf hO g cb b 0 s.c l.toArray w eg
      (fun m os dk _ x y=>cmp_calls (P:=P) (g:=g) (args:=#[enc x,enc y]++cb) (W:=sortWorld enc w b 0 m dk os) (v:=.int .i64 (cf x y))
        (hcmp x y _ (hsize m dk os) (fun c hc hne=>hother m dk os c hc (fun e=>hne (by rw [ha,e]; rfl))))) hH hblk (by simpa using hm)
    have harg:(l.toArray.size:Nat)=s.n:=by rw [hn]; simp
    rw [harg] at hcon
    rw [ha]
    refine hcon.mono ?_
    rintro e' w' ⟨rfl,d',n,os,hp,hsd,rfl⟩
    have hsz':d'.size=s.n:=by rw [hp.1]; exact harg
    have hperm:d'.toList.Perm l:=by
      have h2:=hp.2.2
      rw [<- harg,show d'.extract 0 l.toArray.size=d' by rw [<- hp.1]; simp,show l.toArray.extract 0 l.toArray.size=l.toArray by simp] at h2
      exact h2
    have hlen':d'.toList.length=s.n:=by simpa using hsz'
    refine ⟨_,rfl,⟨rfl,d'.toList,hperm,sorted_pair (by rw [hsz']; exact hsd),?_⟩,rfl,rfl,rfl,trivial⟩
    have hb':(sortWorld enc w b 0 n d' os).heap[b]?=some (.cells (putCells enc 0 d' cur) e (0,0)):=by
      unfold sortWorld Sort.grow putRow mapBlock
      show ((w.heap.modify b _)++os)[b]?=_
      rw [Array.getElem?_append_left (by simpa using hblk),Array.getElem?_modify,if_pos rfl,hh]
      rfl
    refine hs.turn hi (hsize n d' os) (j:=.sl s e 1 (d'.toList.map fun x=>[enc x])) ?_ (fun c hc=>.inr hc) (fun c hc hne=>hother n d' os c hc fun e=>hne (by subst e; show s.a.map (·.block)=_; rw [ha]; rfl))
    refine ⟨⟨?_,.inr ⟨b,_,ha,Nat.zero_le _,hb',hnc,hcm,by rw [<- hsz]; simp [putCells],?_⟩⟩,fun r hr=>by obtain ⟨x,_,rfl⟩:=Yp.1 hr; rfl⟩
    · rw [flat1,Yc,hlen',Nat.mul_one]
    · rw [flat1,Nat.mul_one]
      apply Yyr
      intro t
      rw [Yyf]
      by_cases ht:t<s.n
      · rw [if_pos ht]
        have hc:=hcell t ht
        have htd:t<d'.size:=by omega
        simp only [putCells,Array.getElem?_toList,Array.getElem?_mapIdx,hc,Option.map_some]
        rw [if_pos ⟨Nat.zero_le _,by omega⟩,Nat.sub_zero,Yd,Array.getElem?_toList,Array.getElem?_eq_getElem htd]
        simp [htd]
      · rw [if_neg ht,Yl (by rw [Yc,hlen']; omega)]
end Go.VC
end
