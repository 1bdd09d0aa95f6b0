/- VcMono VcSort. -/
import Derived.Test.YtnfkibjnkiojnaaGreatDoorM02
import Derived.Test.YtnfkibjnkiojnaaGreatDoorM01
import Derived.Test.YtnfkibjnkiojnaaGreatDoorM06
import Derived.Shelf.SlSortCmp.NoneTotal
set_option linter.unusedVariables false
set_option linter.unusedSimpArgs false
set_option maxRecDepth 100000

section
/- For every program: no run takes a draw back; the sharper relation of worlds. -/
namespace Go.VC
theorem ask_drawn {α:Type}:∀ (q:Ask α) (w:World),w.drawn<=(w.ask q).2.drawn:=by
  intro q
  induction q with
  | done a=>intro w; exact Yyt _
  | ask what range k ih=>
    intro w
    unfold World.ask
    simp only
    split
    · exact ih _ w
    · exact Yys (Nat.le_succ _) (ih _ { w with drawn:=w.drawn+1 })
theorem sys_drawn (w:World) (c:Sys):w.drawn<=(w.sys c).2.drawn:=by
  have h:=ask_drawn (Kernel.perform c w.os) w
  unfold World.sys
  generalize w.ask (Kernel.perform c w.os)=r at h
  obtain ⟨⟨a,os⟩,w'⟩:=r
  split
  · exact Yyt _
  · rename_i e; cases e; exact h
theorem viewStore_drawn {p:Program} {w:World} {at_:Addr} {u:TypeId} {k:Addr} {v:Value} {b:Bool} {w':World} {l:List Addr} (h:w.viewStore p at_ u k v b=.ok (w',l)):w'.drawn=w.drawn:=by
  unfold World.viewStore at h
  simp only [bind,Except.bind,pure,Except.pure] at h
  repeat' split at h
  all_goals first | (cases h; done) | (cases h; rfl) | skip
theorem farStore_drawn {p:Program} {w:World} {a:Addr} {v:Value} {b:Bool} {w':World} {l:List Addr} (h:w.farStore p a v b=.ok (w',l)):w'.drawn=w.drawn:=by
  unfold World.farStore at h
  repeat' split at h
  all_goals first | (cases h; done) | skip
  rename_i r hr
  cases h
  exact viewStore_drawn hr
theorem run_drawn {α:Type} (s:Sem α) (P:Program):∀ (w:World) (v:α) (w':World),s.run P w=.ok v w'->w.drawn<=w'.drawn:=by
  induction s with
  | pure a=>intro w v w' h; cases h; exact Yyt _
  | load m a k ih=>
    intro w v w' h
    unfold Sem.run at h
    repeat' split at h
    all_goals first | exact ih _ w v w' h | (cases h; done)
  | store m a u k ih=>
    intro w v w' h
    cases u <;> simp only [Sem.run] at h <;> (first | (cases h; done) | skip) <;> (repeat' split at h) <;>
      first
        | (cases h; done)
        | exact ih (w.setCell a _) v w' h
        | (rename_i hf; exact (farStore_drawn hf) ▸ ih _ v w' h)
  | new o k ih=>intro w v w' h; exact ih _ { w with heap:=w.heap.push o } v w' h
  | shape r k ih=>intro w v w' h; exact ih _ w v w' h
  | freeze a n k ih=>
    intro w v w' h
    have:=ih (w.freeze a n) v w' h
    unfold World.freeze at this
    split at this <;> exact this
  | frozen a k ih=>intro w v w' h; exact ih _ w v w' h
  | getObj r k ih=>
    intro w v w' h
    unfold Sem.run at h
    repeat' split at h
    all_goals first | exact ih _ w v w' h | (cases h; done)
  | setObj r o k ih=>
    intro w v w' h
    unfold Sem.run at h
    repeat' split at h
    all_goals first | exact ih { w with heap:=w.heap.setIfInBounds r o } v w' h | (cases h; done)
  | choose q k ih=>
    intro w v w' h
    unfold Sem.run at h
    split at h
    · exact ih _ w v w' h
    · exact Yys (Nat.le_succ _) (ih _ { w with drawn:=w.drawn+1 } v w' h)
  | sys c k ih=>
    intro w v w' h
    exact Yys (sys_drawn w c) (ih _ (w.sys c).2 v w' h)
  | program k ih=>intro w v w' h; exact ih _ w v w' h
  | mark m k ih=>intro w v w' h; exact ih w v w' h
  | halt h0=>intro w v w' h; cases h
abbrev monoDrawn:Mono:=⟨fun w w'=>w.drawn<=w'.drawn,fun _=>Yyt _,Yys,fun _ _=>Yyt _,fun _=>Nat.le_succ _,fun s P w v w' h=>run_drawn s P w v w' h⟩
end Go.VC
end

section
/- For every program: slices.SortFunc at a row of structs of the call's own, from the kit's contract. -/
namespace Go.VC
open Go.Proofs Go.Shelf Go.RowKit Go.Lib Go.Sort
theorem cmp_calls {P:Program} {g:FuncId} {args:Array Value} {v:Value} {W:World}
    (hc:@Fn monoDrawn P g args W.heap fun u h'=>u=v/\Ext W.heap h') :
    Calls P g args W fun e w'=>e=.returned v/\∃ q os',w'=grow (W.drewN q) os':=by
  refine (hc W rfl).mono ?_
  rintro e w' ⟨_,rfl,⟨rfl,hE⟩,h1,h2,h3,h4⟩
  refine ⟨rfl,w'.drawn - W.drawn,w'.heap.extract W.heap.size w'.heap.size,?_⟩
  replace h4:W.drawn<=w'.drawn:=h4
  obtain ⟨hp,tp,dr,os,ou⟩:=w'
  obtain ⟨hp0,tp0,dr0,os0,ou0⟩:=W
  simp only at h1 h2 h3 h4 hE
  subst h1 h2 h3
  unfold Sort.grow World.drewN
  simp only [World.mk.injEq,and_true,true_and]
  refine ⟨?_,by omega⟩
  apply Array.ext_getElem?
  intro i
  rw [Array.getElem?_append]
  by_cases hi:i<hp0.size
  · rw [if_pos hi]; exact hE.2 i hi
  · rw [if_neg hi,Array.getElem?_extract]
    by_cases hj:i<hp.size
    · rw [if_pos (by omega)]; congr 1; omega
    · rw [if_neg (by omega)]; exact Array.getElem?_eq_none (by omega)
theorem rows_get {α:Type} [Inhabited α] {enc:α->List Value} {k:Nat} (l:List α) {t:Nat} (ht:t<l.length*k) (hl:∀ x,(enc x).length=k) :
    (l.map enc).flatten[t]?=some ((enc l.toArray[t / k]!)[t % k]!):=by
  have hk:0<k:=by rcases Nat.eq_zero_or_pos k with h | h; (subst h; simp at ht); exact h
  have hi:t / k<l.length:=Nat.div_lt_of_lt_mul (by rwa [Nat.mul_comm] at ht)
  have hm:t % k<k:=Nat.mod_lt _ hk
  have he:l.toArray[t / k]! = l[t / k]:=by simp [hi]
  have h1:=getElem?_flatten (k:=k) (l.map enc) (t / k) (t % k) (enc l[t / k]) (fun r hr=>by obtain ⟨x,_,rfl⟩:=Yp.1 hr; exact hl x) (by rw [Yd,Yi hi]; rfl) hm
  rw [show t / k*k+t % k=t by rw [Nat.mul_comm]; exact Nat.div_add_mod t k] at h1
  rw [h1,he,Yi (by rw [hl]; exact hm),getElem!_pos _ _ (by rw [hl]; exact hm)]
theorem sorted_pair {α:Type} [Inhabited α] {lt:α->α->Bool} {d:Array α} (h:SortedIn lt 0 d.size d):d.toList.Pairwise fun a b=>lt b a=false:=by
  rw [List.pairwise_iff_getElem]
  intro i j hi hj hij
  have:=h i j (Nat.zero_le _) hij (by simpa using hj)
  rw [getElem!_pos d i (by simpa using hi),getElem!_pos d j (by simpa using hj)] at this
  simpa using this
theorem sort_own {P:Program} {ρ:Ren} {α:Type} [Inhabited α] (L:SlLaysF0.n6 P ρ) (k:Nat) (e:TypeId) (aE:∀ w,(isAgg (ρ.t 24)).run P w=.ok true w) (zE:∀ w,(Go.sizeOf (ρ.t 24)).run P w=.ok k w)
    (enc:α->List Value) (hl:∀ x,(enc x).length=k) (h1:∀ x,∀ v ∈ enc x,v.oneCell'=true) (cf:α->α->Int) (hO:SWO (ltOf cf)) (g:Nat)
    (eg:∀ args w,(callFunc g args).run P w=.ok (.enter g args) w)
    (hcmp:∀ (x y:α) (h:Heap),@Fn monoDrawn P g #[.agg ⟨enc x⟩,.agg ⟨enc y⟩] h fun v h'=>v=.int .i64 (cf x y)/\Ext h h')
    {h0 h:Heap} {Ls:List It} (hs:St h0 h Ls) (i:Nat) {s:Sl} {l:List α} (hi:Ls[i]?=some (.sl s e k (l.map enc))) (hk0:0<k) (hm:l.length<4611686018427387904) :
    Fn P (ρ.f 6) #[.slice s.a s.n s.c,.func (.func g) #[] #[]] h fun v h'=>v=.tuple ⟨[]⟩/\∃ l':List α,l'.Perm l/\l'.Pairwise (fun a b=>ltOf cf b a=false)/\St h0 h' (Ls.set i (.sl s e k (l'.map enc))):=by
  intro w hw
  subst hw
  have hget:=hs.get hi
  have hrw:=hs.rw i hi hk0
  have hn:s.n=l.length:=by have:=hrw.1; simpa using this
  have hset:Ls.set i (.sl s e k (l.map enc))=Ls:=by
    obtain ⟨a,b⟩:=Ya.1 hi
    rw [<- b]; exact List.set_getElem_self a
  rcases hget.1.2 with ⟨ha,hn0,hc0⟩ | ⟨b,cur,ha,hb0,hh,hnc,hcm,hsz,htk⟩
  · have hl0:l=[]:=List.length_eq_zero_iff.1 (by omega)
    rw [ha,hn0,hc0]
    refine (AnyF.slices_SortFunc_none L none ((0:Nat):Nat) (.func (.func g) #[] #[]) w).mono ?_
    rintro e' w' ⟨rfl,rfl⟩
    refine ⟨_,rfl,⟨rfl,l,List.Perm.refl _,by rw [hl0]; exact List.Pairwise.nil,?_⟩,rfl,rfl,rfl,trivial⟩
    rw [hset]; exact hs
  · have hblk:b<w.heap.size:=(Yyg.1 hh).1
    have hkm:s.n*k<=s.c*k:=Nat.mul_le_mul_right _ hnc
    have hcell:∀ t,t<s.n*k->cur[t]?=some ((enc l.toArray[t / k]!)[t % k]!):=by
      intro t ht
      have h2:=rows_get (enc:=enc) (k:=k) l (t:=t) (by rw [<- hn]; exact ht) hl
      rw [<- htk,Yyf,if_pos ht] at h2
      simpa using h2
    have hH:HoldsK enc k w b 0 l.toArray:=by
      intro t ht
      rw [size_flatK] at ht
      have ht':t<s.n*k:=by rw [hn]; simpa using ht
      refine ⟨?_,?_⟩
      · rw [get_flatK _ _ _ _ ht]
        unfold World.cell?
        simp only [hh,Nat.zero_add]
        rw [hcell t ht']; rfl
      · unfold World.frozen?
        simp only [hh]
        simp
    have hcon:=AnyQ.slices_SortFunc L k aE zE enc hl h1 cf hO g #[] b 0 s.c l.toArray w eg
      (fun m os dk _ x y=>by
        have:=cmp_calls (P:=P) (g:=g) (args:=#[.agg (enc x).toArray,.agg (enc y).toArray] ++ #[]) (W:=sortWorldK enc k w b 0 m dk os) (v:=.int .i64 (cf x y)) (by simpa using hcmp x y _)
        exact this) hH hblk (by simpa using hm)
    have harg:(l.toArray.size:Nat)=s.n:=by rw [hn]; simp
    rw [harg] at hcon
    rw [ha]
    refine hcon.mono ?_
    rintro e' w' ⟨rfl,d',n,os,hp,hsd,rfl⟩
    have hsz':d'.size=s.n:=by rw [hp.1]; exact harg
    have hperm:d'.toList.Perm l:=by
      have h2:=hp.2.2
      rw [<- harg,show d'.extract 0 l.toArray.size=d' by rw [<- hp.1]; simp,show l.toArray.extract 0 l.toArray.size=l.toArray by simp] at h2
      exact h2
    have hlen':d'.toList.length=s.n:=by simpa using hsz'
    refine ⟨_,rfl,⟨rfl,d'.toList,hperm,sorted_pair (by rw [hsz']; exact hsd),?_⟩,rfl,rfl,rfl,trivial⟩
    have hb':(sortWorldK enc k w b 0 n d' os).heap[b]?=some (.cells (putCells id 0 (flatK enc k d') cur) e (0,0)):=by
      unfold sortWorldK Sort.grow putRowK putRow mapBlock
      show ((w.heap.modify b _)++os)[b]?=_
      rw [Array.getElem?_append_left (by simpa using hblk),Array.getElem?_modify,if_pos rfl,hh]
      rfl
    have hother:∀ c,c<w.heap.size->c ≠ b->(sortWorldK enc k w b 0 n d' os).heap[c]?=w.heap[c]?:=by
      intro c hc hne
      unfold sortWorldK Sort.grow putRowK putRow mapBlock
      show ((w.heap.modify b _)++os)[c]?=_
      rw [Array.getElem?_append_left (by simpa using hc),Array.getElem?_modify,if_neg (fun e=>hne e.symm)]
    refine hs.turn hi (by
        unfold sortWorldK Sort.grow putRowK putRow mapBlock
        show _<=((w.heap.modify b _)++os).size
        rw [Array.size_append,Array.size_modify]
        exact Nat.le_add_right _ _) (j:=.sl s e k (d'.toList.map enc)) ?_ (fun c hc=>.inr hc) (fun c hc hne=>hother c hc fun e=>hne (by subst e; show s.a.map (·.block)=_; rw [ha]; rfl))
    refine ⟨⟨?_,.inr ⟨b,_,ha,Nat.zero_le _,hb',hnc,hcm,by rw [<- hsz]; simp [putCells],?_⟩⟩,fun r hr=>by obtain ⟨x,_,rfl⟩:=Yp.1 hr; exact hl x⟩
    · rw [flatten_len (k:=k) _ (fun r hr=>by obtain ⟨x,_,rfl⟩:=Yp.1 hr; exact hl x),Yc,hlen']
    · apply Yyr
      intro t
      rw [Yyf]
      by_cases ht:t<s.n*k
      · rw [if_pos ht,rows_get d'.toList (by rw [hlen']; exact ht) hl]
        have hc:=hcell t ht
        simp only [putCells,Array.getElem?_toList,Array.getElem?_mapIdx,hc,Option.map_some]
        rw [if_pos ⟨Nat.zero_le _,by rw [size_flatK,hsz']; omega⟩,Nat.sub_zero,get_flatK _ _ _ _ (by rw [hsz']; exact ht)]
        rfl
      · rw [if_neg ht,Yl (by rw [flatten_len (k:=k) _ (fun r hr=>by obtain ⟨x,_,rfl⟩:=Yp.1 hr; exact hl x),Yc,hlen']; omega)]
end Go.VC
end
