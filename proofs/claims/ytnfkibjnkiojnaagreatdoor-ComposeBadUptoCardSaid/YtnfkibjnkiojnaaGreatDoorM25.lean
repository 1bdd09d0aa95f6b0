/- VcSort2. -/
import Derived.Test.YtnfkibjnkiojnaaGreatDoorM10
import Derived.Test.YtnfkibjnkiojnaaGreatDoorM01
set_option linter.unusedVariables false
set_option linter.unusedSimpArgs false
set_option maxRecDepth 100000

section
/- For every program: slices.SortFunc at a row of structs of the call's own, under a comparison bound to arguments that reads what lies outside the row; from the kit's contract. -/
namespace Go.VC
open Go.Proofs Go.Shelf Go.RowKit Go.Lib Go.Sort
theorem sort_ownC {P:Program} {ρ:Ren} {α:Type} [Inhabited α] (L:SlLaysF0.n6 P ρ) (k:Nat) (e:TypeId) (aE:∀ w,(isAgg (ρ.t 24)).run P w=.ok true w) (zE:∀ w,(Go.sizeOf (ρ.t 24)).run P w=.ok k w)
    (enc:α->List Value) (hl:∀ x,(enc x).length=k) (h1:∀ x,∀ v ∈ enc x,v.oneCell'=true) (cf:α->α->Int) (hO:SWO (ltOf cf)) (g:Nat) (cb:Array Value)
    (eg:∀ args w,(callFunc g args).run P w=.ok (.enter g args) w)
    {h0 h:Heap} {Ls:List It} (hs:St h0 h Ls) (i:Nat) {s:Sl} {l:List α} (hi:Ls[i]?=some (.sl s e k (l.map enc))) (hk0:0<k) (hm:l.length<4611686018427387904)
    (hcmp:∀ (x y:α) (h':Heap),h.size<=h'.size->(∀ c,c<h.size->s.a.map (·.block) ≠ some c->h'[c]?=h[c]?) -> @Fn monoDrawn P g (#[.agg (enc x).toArray,.agg (enc y).toArray]++cb) h' fun v h2=>v=.int .i64 (cf x y)/\Ext h' h2) :
    Fn P (ρ.f 6) #[.slice s.a s.n s.c,.func (.func g) #[] cb] h fun v h'=>v=.tuple ⟨[]⟩/\∃ l':List α,l'.Perm l/\l'.Pairwise (fun a b=>ltOf cf b a=false)/\St h0 h' (Ls.set i (.sl s e k (l'.map enc))):=by
  intro w hw
  subst hw
  have hget:=hs.get hi
  have hrw:=hs.rw i hi hk0
  have hn:s.n=l.length:=by have:=hrw.1; simpa using this
  have hset:Ls.set i (.sl s e k (l.map enc))=Ls:=by
    obtain ⟨a,b⟩:=Ya.1 hi
    rw [<- b]; exact List.set_getElem_self a
  rcases hget.1.2 with ⟨ha,hn0,hc0⟩ | ⟨b,cur,ha,hb0,hh,hnc,hcm,hsz,htk⟩
  · have hl0:l=[]:=List.length_eq_zero_iff.1 (by omega)
    rw [ha,hn0,hc0]
    refine (AnyF.slices_SortFunc_none L none ((0:Nat):Nat) (.func (.func g) #[] cb) w).mono ?_
    rintro e' w' ⟨rfl,rfl⟩
    refine ⟨_,rfl,⟨rfl,l,List.Perm.refl _,by rw [hl0]; exact List.Pairwise.nil,?_⟩,rfl,rfl,rfl,trivial⟩
    rw [hset]; exact hs
  · have hblk:b<w.heap.size:=(Yyg.1 hh).1
    have hkm:s.n*k<=s.c*k:=Nat.mul_le_mul_right _ hnc
    have hcell:∀ t,t<s.n*k->cur[t]?=some ((enc l.toArray[t / k]!)[t % k]!):=by
      intro t ht
      have h2:=rows_get (enc:=enc) (k:=k) l (t:=t) (by rw [<- hn]; exact ht) hl
      rw [<- htk,Yyf,if_pos ht] at h2
      simpa using h2
    have hH:HoldsK enc k w b 0 l.toArray:=by
      intro t ht
      rw [size_flatK] at ht
      have ht':t<s.n*k:=by rw [hn]; simpa using ht
      refine ⟨?_,?_⟩
      · rw [get_flatK _ _ _ _ ht]
        unfold World.cell?
        simp only [hh,Nat.zero_add]
        rw [hcell t ht']; rfl
      · unfold World.frozen?
        simp only [hh]
        simp
    have hother:∀ (n:Nat) (d':Array α) (os:Array Obj) (c:Nat),c<w.heap.size->c ≠ b->(sortWorldK enc k w b 0 n d' os).heap[c]?=w.heap[c]?:=by
      intro n d' os c hc hne
      unfold sortWorldK Sort.grow putRowK putRow mapBlock
      show ((w.heap.modify b _)++os)[c]?=_
      rw [Array.getElem?_append_left (by simpa using hc),Array.getElem?_modify,if_neg (fun e=>hne e.symm)]
    have hsize:∀ (n:Nat) (d':Array α) (os:Array Obj),w.heap.size<=(sortWorldK enc k w b 0 n d' os).heap.size:=by
      intro n d' os
      unfold sortWorldK Sort.grow putRowK putRow mapBlock
      show _<=((w.heap.modify b _)++os).size
      rw [Array.size_append,Array.size_modify]
      exact Nat.le_add_right _ _
    have hblkne:∀ c:Nat,s.a.map (·.block) ≠ some c->c ≠ b:=fun c hne e=>hne (by rw [ha,e]; rfl)
    have hlays:CmpLays P g cb enc k cf b 0 l.toArray.size w:=by
      intro m os dk _ x y
      have h2:=hcmp x y (sortWorldK enc k w b 0 m dk os).heap (hsize m dk os) (fun c hc hne=>hother m dk os c hc (hblkne c hne))
      exact cmp_calls (P:=P) (g:=g) (W:=sortWorldK enc k w b 0 m dk os) h2
    have hcon:=AnyQ.slices_SortFunc L k aE zE enc hl h1 cf hO g cb b 0 s.c l.toArray w eg hlays hH hblk (by simpa using hm)
    have harg:(l.toArray.size:Nat)=s.n:=by rw [hn]; simp
    rw [harg] at hcon
    rw [ha]
    refine hcon.mono ?_
    rintro e' w' ⟨rfl,d',n,os,hp,hsd,rfl⟩
    have hsz':d'.size=s.n:=by rw [hp.1]; exact harg
    have hperm:d'.toList.Perm l:=by
      have h2:=hp.2.2
      rw [<- harg,show d'.extract 0 l.toArray.size=d' by rw [<- hp.1]; simp,show l.toArray.extract 0 l.toArray.size=l.toArray by simp] at h2
      exact h2
    have hlen':d'.toList.length=s.n:=by simpa using hsz'
    refine ⟨_,rfl,⟨rfl,d'.toList,hperm,sorted_pair (by rw [hsz']; exact hsd),?_⟩,rfl,rfl,rfl,trivial⟩
    have hb':(sortWorldK enc k w b 0 n d' os).heap[b]?=some (.cells (putCells id 0 (flatK enc k d') cur) e (0,0)):=by
      unfold sortWorldK Sort.grow putRowK putRow mapBlock
      show ((w.heap.modify b _)++os)[b]?=_
      rw [Array.getElem?_append_left (by simpa using hblk),Array.getElem?_modify,if_pos rfl,hh]
      rfl
    refine hs.turn hi (hsize n d' os) (j:=.sl s e k (d'.toList.map enc)) ?_ (fun c hc=>.inr hc) (fun c hc hne=>hother n d' os c hc fun e=>hne (by subst e; show s.a.map (·.block)=_; rw [ha]; rfl))
    refine ⟨⟨?_,.inr ⟨b,_,ha,Nat.zero_le _,hb',hnc,hcm,by rw [<- hsz]; simp [putCells],?_⟩⟩,fun r hr=>by obtain ⟨x,_,rfl⟩:=Yp.1 hr; exact hl x⟩
    · rw [flatten_len (k:=k) _ (fun r hr=>by obtain ⟨x,_,rfl⟩:=Yp.1 hr; exact hl x),Yc,hlen']
    · apply Yyr
      intro t
      rw [Yyf]
      by_cases ht:t<s.n*k
      · rw [if_pos ht,rows_get d'.toList (by rw [hlen']; exact ht) hl]
        have hc:=hcell t ht
        simp only [putCells,Array.getElem?_toList,Array.getElem?_mapIdx,hc,Option.map_some]
        rw [if_pos ⟨Nat.zero_le _,by rw [size_flatK,hsz']; omega⟩,Nat.sub_zero,get_flatK _ _ _ _ (by rw [hsz']; exact ht)]
        rfl
      · rw [if_neg ht,Yl (by rw [flatten_len (k:=k) _ (fun r hr=>by obtain ⟨x,_,rfl⟩:=Yp.1 hr; exact hl x),Yc,hlen']; omega)]
end Go.VC
end
