/- VcRange. -/
import Derived.RangeFuncBox
import Derived.RangeFuncLeaves
import Derived.Shelf.Abstract
import Derived.WalkKit
import Derived.OwnWalkIn
import Derived.TacticsInMore
import Derived.LoopNIn
import Derived.LoopIn
import Derived.Test.YtnfkibjnkiojnaaGreatDoorM01
set_option linter.unusedVariables false
set_option linter.unusedSimpArgs false
set_option maxRecDepth 100000

section
/- For every program: a range over a bound method whose loop is never left early. -/
namespace Go.VC
open Go.RowKit
variable {F:Fence} {n:Nat} {P:Program}
def Yields {α:Type} (F:Fence) (n:Nat) (P:Program) (gf:Nat) (fb:Array Value) (encs:α->Array Value) (n₀:Nat) (ys:List α) (w:World):Prop:=
  ∀ (l:Nat) (J:List α->World->Prop) (W:World),Below n₀ w W ->
    (∀ pre x W1,J pre W1->pre++[x] <+: ys->YieldAt F (n - 1) P l (encs x) W1 fun e W'=>e=.returned (.bool true)/\J (pre++[x]) W'/\Below n₀ W1 W') ->
    J [] W->CallsIn F n P gf (fb ++ #[.func (.yield l) #[] #[]]) W fun e W'=>(∃ v,e=.returned v)/\J ys W'
theorem range_bound {α:Type} {g:Operand} {ps:Array Tmp} {assign body:Code} {Q:Exit->Act->World->Prop} {a:Act} {w:World}
    (hro:F.round=none) (h1:1<=n) {gf:Nat} {fb:Array Value} (hg:a.eval g=.func (.func gf) fb #[]) (hFg:F.fn gf) (eg:∀ args w,(callFunc gf args).run P w=.ok (.enter gf args) w)
    {encs:α->Array Value} {n₀:Nat} {ys:List α} (hn0:n₀<=w.heap.size) (hy:Yields F (n - 1) P gf fb encs n₀ ys w) (hps:∀ x,(encs x).size=ps.size)
    (I:List α->World->Prop) (hI:OwnFrom w.heap.size I) (h0:I [] w) (a₁:α->Act)
    (hassign:∀ (l:Nat) (x:α) (W:World) (K:Act->World->Prop),K (a₁ x) W ->
      assign.wpIn (F.inRound l) (n - 1 - 1) P (Exit.then K (fun _ _ _=>False)) { tmps:=(ps.zip (encs x)).foldl (fun t (p,v)=>t.setIfInBounds p v) a.tmps,defers:=[] } W)
    (hbody:∀ (l:Nat) (pre:List α) (x:α) (W:World),I pre W->pre++[x] <+: ys->body.wpIn (F.inRound l) (n - 1 - 1) P (fun e _ W'=>e=.normal/\KeepsOthers W W'/\Below n₀ W W'/\I (pre++[x]) W') (a₁ x) W)
    (hdone:∀ (W:World),I ys W->W.heap[w.heap.size]?=some (.deferred (some []))->Q .normal { a with defers:={ target:=.collected w.heap.size,args:=#[] }::a.defers } W) :
    (Code.rangeFunc g ps assign body).wpIn F n P Q a w:=by
  refine wpIn_rangeFunc fun fn hfn=>?_
  rw [hro]
  let rec_:LoopState->Loop:=fun st=>{ state:=st,pending:=none,fn:=fn,tmps:=a.tmps,params:=ps,assign:=assign,body:=body,defers:=w.heap.size }
  obtain ⟨V,hV⟩:∃ V,V=(w.alloc (.deferred (some []))).alloc (.loop (rec_ .ready)):=⟨_,rfl⟩
  have hs:w.heap.size+1<V.heap.size:=by rw [hV]; simp
  have hl:V.heap[w.heap.size+1]?=some (.loop (rec_ .ready)):=by
    rw [hV]; have:=World.alloc_heap_new (w.alloc (.deferred (some []))) (.loop (rec_ .ready)); rwa [World.size_alloc] at this
  have hd:V.heap[w.heap.size]?=some (.deferred (some [])):=by
    rw [hV]; exact (Below.heap_alloc _ _ _ (by simp)).trans (World.alloc_heap_new w _)
  have hBV:Below n₀ w V:=by rw [hV]; exact ((Below.refl _ w).alloc hn0 _).alloc (by simp; omega) _
  have hIV:I [] V:=by rw [hV]; exact hI.alloc _ (hI.alloc _ h0)
  have turn:∀ (A:World) (o o':Obj),A.heap[w.heap.size+1]?=some o->o.isCells=false->o.isWalk=false->Below n₀ A (A.putObj (w.heap.size+1) o'):=fun A o o' ho hc hw=>by
    exact belowK_b (w:=w) hn0 A _ o o' (by omega) ho hc hw
  refine ⟨w.heap.size+1,[{ target:=.collected w.heap.size,args:=#[] }],V,{ target:=.fn (.func gf) #[],args:=fb ++ #[.func (.yield (w.heap.size+1)) #[] #[]] },V,gf,fb ++ #[.func (.yield (w.heap.size+1)) #[] #[]],V,?_,?_,?_,?_,fun _=>h1,?_⟩
  · rw [hV]; exact run_enterLoop_outer _ _ _ _ _
  · simp only [resolve,hg]
    simp [go_sem]
  · intro f' hf'; simp [Target.leads] at hf'; subst hf'; exact hFg
  · simp [invoke,go_sem,eg]
  refine (hy (w.heap.size+1) (fun pre W=>I pre W/\W.heap[w.heap.size+1]?=some (.loop (rec_ .ready))/\W.heap[w.heap.size]?=some (.deferred (some []))) V hBV ?_ ⟨hIV,hl,hd⟩).mono ?_
  · rintro pre x W ⟨hi,hr,hk⟩ hlt
    have hlW:w.heap.size+1<W.heap.size:=(Yyg.1 hr).1
    have hyl:=run_yield (P:=P) (args:=encs x) hr (hps x)
    have hr2:(W.putObj (w.heap.size+1) (.loop (rec_ .busy))).heap[w.heap.size+1]?=some (.loop (rec_ .busy)):=World.putObj_heap_same hlW
    have hk2:(W.putObj (w.heap.size+1) (.loop (rec_ .busy))).heap[w.heap.size]?=some (.deferred (some [])):=(World.putObj_heap_other (by omega)).trans hk
    refine ⟨fn,_,assign,body,hyl,roundIn_of_wpIn hfn (hassign _ x W _ ⟨_,run_beginRound hr rfl,?_⟩)⟩
    refine wpIn_mono (hbody _ pre x _ (hI.putObj _ hi (by omega) hr rfl) hlt) ?_
    rintro e a3 W3 ⟨rfl,hk3,hb3,hi3⟩
    have hr3:W3.heap[w.heap.size+1]?=some (.loop (rec_ .busy)):=hk3.same _ _ hr2 rfl
    have hd3:W3.heap[w.heap.size]?=some (.deferred (some [])):=hk3.same _ _ hk2 rfl
    refine ⟨_,_,run_endRound (P:=P) none hr3,rfl,⟨hI.putObj _ hi3 (by omega) hr3 rfl,World.putObj_heap_same (Yyg.1 hr3).1,(World.putObj_heap_other (by omega)).trans hd3⟩,?_⟩
    exact ((turn W _ _ hr rfl rfl).trans hb3).trans (turn W3 _ _ hr3 rfl rfl)
  · rintro e W2 ⟨⟨v,rfl⟩,hi,hr,hk⟩
    exact ⟨none,_,run_endLoop (P:=P) hr (by simp [rec_]),hdone _ (hI.putObj _ hi (by omega) hr rfl) ((World.putObj_heap_other (by omega)).trans hk)⟩
end Go.VC
end
