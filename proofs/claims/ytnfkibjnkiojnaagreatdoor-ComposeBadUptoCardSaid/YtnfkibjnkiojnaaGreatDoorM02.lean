/- VcSound5 VcSound6 VcSound7 VcLib. -/
import Derived.Test.YtnfkibjnkiojnaaGreatDoorM01
import Derived.Scope
set_option linter.unusedVariables false
set_option linter.unusedSimpArgs false
set_option maxRecDepth 100000

section
/- VcCore's conditions are sound: regions, in the text's order and in a drawn one. -/
namespace Go.VC

def Sat [Mono] (n:Nat) (w0:World) (Q:Ex->Env->Heap->Prop):Exit->Act->World->Prop:=fun e a w=>
  a.defers=[]/\a.tmps.size=n/\Fr w0 w/\match e with
    | .normal=>Q .n (envOf a) w.heap
    | .exit i=>Q (.x i) (envOf a) w.heap
    | .ret=>Q .r (envOf a) w.heap
    | _=>False
theorem put_defers' {a:Act} {d:Option Nat} {v:Value}:(a.put d v).defers=a.defers:=by cases d <;> rfl

theorem does_wp [Mono] {P:Program} {o:Oper} {a:Act} {w:World} {K:Value->Heap->Prop} {next:Act->World->Prop} {Q:Exit->Act->World->Prop}
    (h:Does P w ((execOp (evl (envOf a)) o).run P w) K) (hn:∀ v w',K v w'.heap->Fr w w'->next (a.put o.dst v) w'):o.wp P a w next Q:=by
  unfold Oper.wp
  rw [eval_evl]
  rcases h with ⟨v,w',hr,hK,hf⟩ | ⟨w',hr,hK,hf⟩ | ⟨f,args,hr,hc⟩
  · rw [hr]; exact hn v w' hK hf
  · rw [hr]; exact hn undef w' hK hf
  · rw [hr]
    refine hc.mono ?_
    rintro e w' ⟨v,rfl,hK,hf⟩
    exact hn v w' hK hf

theorem gd_sound {ops:List Oper} {a:Act} {o:Oper} {go skip:Prop} (h:gdW ops (envOf a) o.guard go skip) :
    (Region.wanted o (yielded ops.toArray a.tmps)=true/\go)\/(Region.wanted o (yielded ops.toArray a.tmps)=false/\skip):=by
  unfold gdW at h
  unfold Region.wanted
  split at h
  · rename_i hg; rw [hg]; exact .inl ⟨rfl,h⟩
  · rename_i j want hg
    rw [hg]
    simp only [yielded]
    have e:ops.toArray[j]?=ops[j]?:=by simp
    rw [e]
    split at h
    · rename_i d hd
      rw [hd]
      simp only [Option.bind_some]
      have hv:envOf a d=(a.tmps[d]?).getD undef:=by simp [envOf,Array.getD_eq_getD_getElem?]
      split at h
      · rename_i b hb
        rw [hv] at hb
        cases ht:a.tmps[d]? with
        | none=>rw [ht] at hb; cases hb
        | some v=>
          rw [ht] at hb
          simp only [Option.getD_some] at hb
          subst hb
          unfold sB at h
          split at h
          · rename_i hbw; exact .inl ⟨by simpa using hbw,h⟩
          · rename_i hbw; exact .inr ⟨by simpa using hbw,h⟩
      · rename_i hb
        refine .inr ⟨?_,h⟩
        cases ht:a.tmps[d]? with
        | none=>rfl
        | some v=>
          rw [hv,ht] at hb
          simp only [Option.getD_some] at hb
          cases v <;> first | rfl | exact absurd rfl (hb _)
    · rename_i hd
      rw [hd]
      exact .inr ⟨rfl,h⟩

theorem aft_sound [Mono] {n:Nat} {used:Bool} {a:Act} {d:Option Nat} {v:Value} {K:Env->Prop} (hn:a.tmps.size=n) (h:aftW n used (envOf a) d v K) :
    K (envOf (a.put d v))/\(a.put d v).tmps.size=n:=by
  unfold aftW at h
  cases used with
  | false=>exact putD_sound hn h
  | true=>
    simp only [cond] at h
    split at h
    · rename_i b
      unfold sB at h
      cases b <;> exact putD_sound hn h
    · exact h.elim

def Keeps (D:List Nat) (ρ:Env) (a:Act):Prop:=∀ j,j ∉ D->envOf a j=ρ j
theorem Keeps.put {D:List Nat} {ρ:Env} {a:Act} (h:Keeps D ρ a) {d:Option Nat} {v:Value} (hd:∀ x,d=some x->x ∈ D):Keeps D ρ (a.put d v):=by
  intro j hj
  rw [<- h j hj]
  cases d with
  | none=>rfl
  | some x=>
    have hx:x ≠ j:=fun e=>hj (e ▸ hd x rfl)
    simp only [envOf,Act.put,Array.getD_eq_getD_getElem?]
    rw [Array.getElem?_setIfInBounds_ne hx]
theorem ops_sound [Mono] {P:Program} {n:Nat} {all:List Oper} {K:Env->Heap->Prop} {w0:World} {Q:Exit->Act->World->Prop} {D:List Nat} {ρ0:Env}
    (hQ:∀ a w,a.defers=[]->a.tmps.size=n->Fr w0 w->Keeps D ρ0 a->K (envOf a) w.heap->Q .normal a w) :
    ∀ (l:List Oper) (i:Nat) (a:Act) (w:World),(∀ o ∈ l,∀ x,o.dst=some x->x ∈ D)->a.defers=[]->a.tmps.size=n->Fr w0 w->Keeps D ρ0 a->opsW P n all l i (envOf a) w.heap K->wpList P all.toArray Q l a w
  | [],_,a,w,_,hd,hs,hf,hk,h=>hQ a w hd hs hf hk h
  | o::rest,i,a,w,hD,hd,hs,hf,hkp,h=>by
    have hDr:∀ o ∈ rest,∀ x,o.dst=some x->x ∈ D:=fun q hq=>hD q (Yn _ hq)
    have hDo:=hD o Yx
    simp only [opsW] at h
    unfold wpList
    rcases gd_sound h with ⟨hw,hgo⟩ | ⟨hw,hsk⟩
    · rw [if_pos hw]
      refine .inl (does_wp (opW_sound hgo) fun v w' hK hfr=>?_)
      obtain ⟨hk,hs'⟩:=aft_sound hs hK
      exact ops_sound hQ rest (i+1) _ w' hDr (by rw [put_defers']; exact hd) hs' (hf.trans hfr) (hkp.put hDo) hk
    · rw [if_neg (by simp [hw])]
      obtain ⟨hk,hs'⟩:=putD_sound hs hsk
      exact ops_sound hQ rest (i+1) _ w hDr (by rw [put_defers']; exact hd) hs' hf (hkp.put hDo) hk

/- drawn regions -/
section
variable {P:Program} {ops:Array Oper} {Q:Exit->Act->World->Prop} {md:Region.Mode}

def wpAnyL (P:Program) (md:Region.Mode) (ops:Array Oper) (Q:Exit->Act->World->Prop) (eff:Nat->Bool) (T:Nat->World->World->Prop):Nat->Array Bool->Act->World->Prop
  | 0,L,a,w=>Region.ready md ops L=[]/\Q .normal a w
  | f+1,L,a,w=>(Region.ready md ops L=[]->Q .normal a w) /\
    ∀ i ∈ Region.ready md ops L,wpOp P ops Q i (fun a' w'=>((eff i=false->w'=w)/\(eff i=true->T i w w'))/\wpAnyL P md ops Q eff T f (L.setIfInBounds i true) a' w') a w
variable {eff:Nat->Bool} {T:Nat->World->World->Prop}
theorem any_of_L:∀ (f:Nat) (L:Array Bool) (a:Act) (w:World),wpAnyL P md ops Q eff T f L a w->wpAny P md ops Q f L a w
  | 0,_,_,_,h=>h
  | f+1,_,_,_,h=>⟨h.1,fun i hi=>wpOp_mono (fun a' w' h'=>any_of_L f _ a' w' h'.2) (h.2 i hi)⟩
theorem L_mono {T':Nat->World->World->Prop} (hT:∀ i w w',T' i w w'->T i w w'):∀ (f:Nat) (L:Array Bool) (a:Act) (w:World),wpAnyL P md ops Q eff T' f L a w->wpAnyL P md ops Q eff T f L a w
  | 0,_,_,_,h=>h
  | f+1,_,_,_,h=>⟨h.1,fun i hi=>wpOp_mono (fun a' w' h'=>⟨⟨h'.1.1,fun he=>hT _ _ _ (h'.1.2 he)⟩,L_mono hT f _ a' w' h'.2⟩) (h.2 i hi)⟩
theorem waits_not {i j:Nat} {L:Array Bool} (hi:i ∈ Region.ready md ops L) (hj:j ∈ Region.ready md ops L) {oj:Oper} (hoj:ops[j]?=some oj) :
    ∀ e ∈ oj.after,Region.binds md e=true->e.on ≠ i:=by
  rintro e he hb rfl
  obtain ⟨_,o',ho',hw⟩:=mem_ready.1 hj
  obtain rfl:oj=o':=Yyp (hoj.symm.trans ho')
  have hyes:=hw e he hb
  have hno:=(mem_ready.1 hi).1
  rw [Array.getD_eq_getD_getElem?] at hyes hno
  cases hL:L[e.on]? with
  | none=>rw [hL] at hyes; exact Bool.noConfusion hyes
  | some b=>rw [hL] at hyes hno; simp only [Option.getD_some] at hyes hno; rw [hyes] at hno; exact Bool.noConfusion hno
inductive Path (md:Region.Mode) (ops:Array Oper) (i:Nat):Oper->Prop
  | one {o:Oper} {e:Edge}:e ∈ o.after->Region.binds md e=true->e.on=i->Path md ops i o
  | step {o o':Oper} {e:Edge}:e ∈ o.after->Region.binds md e=true->ops[e.on]?=some o'->Path md ops i o'->Path md ops i o
def Closed (md:Region.Mode) (ops:Array Oper) (L:Array Bool):Prop:=∀ j oj,ops[j]?=some oj->L.getD j false=true->∀ e ∈ oj.after,Region.binds md e=true->L.getD e.on false=true
theorem Closed.path {L:Array Bool} (hc:Closed md ops L) {i:Nat} (hi:L.getD i false=false) {o:Oper} (hp:Path md ops i o):¬ ∀ e ∈ o.after,Region.binds md e=true->L.getD e.on false=true:=by
  induction hp with
  | one he hb ho=>intro h; have:=h _ he hb; rw [ho,hi] at this; cases this
  | step he hb ho _ ih=>intro h; exact ih (hc _ _ ho (h _ he hb))
theorem Closed.set {L:Array Bool} (hc:Closed md ops L) {j:Nat} {oj:Oper} (hoj:ops[j]?=some oj) (hw:∀ e ∈ oj.after,Region.binds md e=true->L.getD e.on false=true):Closed md ops (L.setIfInBounds j true):=by
  have up:∀ k,L.getD k false=true->(L.setIfInBounds j true).getD k false=true:=fun k hk=>by
    by_cases e:j=k
    · subst e
      rw [Array.getD_eq_getD_getElem?] at hk ⊢
      rw [Array.getElem?_setIfInBounds]
      cases hL:L[j]? with
      | none=>rw [hL] at hk; cases hk
      | some b=>have:=(Yyg.1 hL).1; simp [this]
    · rw [getD_set_ne false e]; exact hk
  intro k ok hok hk e he hb
  by_cases ek:j=k
  · subst ek
    rw [hoj] at hok; cases hok
    exact up _ (hw e he hb)
  · rw [getD_set_ne false ek] at hk
    exact up _ (hc k ok hok hk e he hb)
theorem getD_false {i:Nat} {L:Array Bool} (hi:i ∈ Region.ready md ops L):L.getD i false=false:=by
  have:=(mem_ready.1 hi).1
  rw [Array.getD_eq_getD_getElem?] at this ⊢
  cases hL:L[i]? with
  | none=>rfl
  | some b=>rw [hL] at this; exact this
theorem no_path [Mono] {i j:Nat} {L:Array Bool} (hc:Closed md ops L) (hi:i ∈ Region.ready md ops L) (hj:j ∈ Region.ready md ops L) {oj:Oper} (hoj:ops[j]?=some oj):¬ Path md ops i oj:=by
  intro hp
  obtain ⟨_,o',ho',hw⟩:=mem_ready.1 hj
  obtain rfl:oj=o':=Yyp (hoj.symm.trans ho')
  exact hc.path (getD_false hi) hp hw
theorem L_first [Mono] {S:World->Prop} {i:Nat} {oi:Oper} {v:Value} (hi:ops[i]?=some oi) (hsel:∀ (j:Nat) (o:Oper) cs b,ops[j]?=some o->o.op ≠ .select cs b)
    (hQ:∀ c a w,Q (.panic c) (a.put oi.dst v) w->Q (.panic c) a w) (hei:eff i=false)
    (hS:∀ (j:Nat) (oj:Oper) (w w':World),ops[j]?=some oj->j ≠ i->¬ Path md ops i oj->S w->(eff j=false->w'=w)->(eff j=true->T j w w')->S w')
    (fuel:Nat):∀ (L:Array Bool) (a:Act) (w:World),Closed md ops L ->
      (∀ j oj,ops[j]?=some oj->j ≠ i->L.getD j true=false->(∀ e ∈ oj.after,Region.binds md e=true->e.on ≠ i)->oi.apart ops oj=true) ->
      i ∈ Region.ready md ops L->YieldsIf P ops S oi v a->S w ->
      wpAnyL P md ops Q eff T fuel (L.setIfInBounds i true) (a.put oi.dst v) w->wpAnyL P md ops Q eff T (fuel+1) L a w:=by
  induction fuel with
  | zero=>
    intro L a w hcl _ hr hy hSw H
    constructor
    · intro he; rw [he] at hr; exact absurd hr List.not_mem_nil
    · intro j hj
      rcases Nat.decEq j i with hne | rfl
      · exact absurd (H.1 ▸ ready_mono hj hne) List.not_mem_nil
      · exact hy.wpOp hi hSw ⟨⟨fun _=>rfl,fun he=>absurd (hei.symm.trans he) Bool.false_ne_true⟩,H⟩
  | succ fuel ih=>
    intro L a w hcl0 hfree hr hy hSw H
    constructor
    · intro he; rw [he] at hr; exact absurd hr List.not_mem_nil
    · intro j hj
      rcases Nat.decEq j i with hne | rfl
      · obtain ⟨hun,oj,hoj,hwj⟩:=mem_ready.1 hj
        have hnp:=no_path hcl0 hr hj hoj
        have hno:=waits_not hr hj hoj
        refine wpOp_mono (fun a' w' h3=>?_) (wpOp_putIf hoj (hfree j oj hoj hne hun hno) (fun cs b=>hsel i oi cs b hi) (fun cs b=>hsel j oj cs b hoj) hQ hy (H.2 j (ready_mono hj hne)))
        obtain ⟨hy',hcl,hrest⟩:=h3
        rw [Array.setIfInBounds_comm _ _ (Ne.symm hne)] at hrest
        refine ⟨hcl,ih _ a' w' (hcl0.set hoj hwj) (fun k ok hk hki hk'=>hfree k ok hk hki ?_) (ready_mono hr (Ne.symm hne)) hy' (hS j oj w w' hoj hne hnp hSw hcl.1 hcl.2) hrest⟩
        rcases Nat.decEq j k with hjk | rfl
        · rwa [getD_set_ne true hjk] at hk'
        · exact hun
      · exact hy.wpOp hi hSw ⟨⟨fun _=>rfl,fun he=>absurd (hei.symm.trans he) Bool.false_ne_true⟩,H⟩
end

/- the lists of VcCore against the model's arrays -/
def Rl (N:Nat) (L:Array Bool) (l:List Nat):Prop:=L.size=N/\∀ i,L.getD i false=(listedB l i && decide (i<N))
theorem Rl.nil (N:Nat):Rl N (Array.replicate N false) []:=⟨by simp,fun i=>by simp [listedB,Array.getD_eq_getD_getElem?]; cases h:(Array.replicate N false)[i]? with | none=>rfl | some b=>have:=Yyg.1 h; obtain ⟨hlt,hb⟩:=this; simp at hb; simp [hb.symm]⟩
theorem listedB_cons (l:List Nat) (i j:Nat):listedB (i::l) j=(decide (j=i) || listedB l j):=by
  simp only [listedB,List.any_cons]
  congr 1
  by_cases h:j=i
  · subst h; simp [Nat.beq_refl]
  · have:Nat.beq j i=false:=by
      cases hb:Nat.beq j i
      · rfl
      · exact absurd (Nat.eq_of_beq_eq_true hb) h
    simp [this,h]
theorem Rl.set [Mono] {N:Nat} {L:Array Bool} {l:List Nat} (h:Rl N L l) {i:Nat} (hi:i<N):Rl N (L.setIfInBounds i true) (i::l):=by
  refine ⟨by simp [h.1],fun j=>?_⟩
  by_cases hj:i=j
  · subst hj
    have:i<L.size:=by rw [h.1]; exact hi
    simp [listedB_cons,this,hi]
  · rw [getD_set_ne false hj,h.2 j,listedB_cons]
    have:¬ j=i:=fun e=>hj e.symm
    simp [this]
theorem Rl.true_ {N:Nat} {L:Array Bool} {l:List Nat} (h:Rl N L l) {i:Nat} (hi:i<N):L.getD i true=listedB l i:=by
  have:=h.2 i
  have hs:i<L.size:=by rw [h.1]; exact hi
  simp only [Array.getD_eq_getD_getElem?,Array.getElem?_eq_getElem hs,Option.getD_some,hi,decide_true,Bool.and_true] at this ⊢
  exact this
theorem bindsB_eq (e:Edge):Region.binds .any e=bindsB e:=by
  unfold Region.binds bindsB
  cases e.ground <;> rfl
theorem rdyB_iff [Mono] {N:Nat} {L:Array Bool} {l:List Nat} (h:Rl N L l) (hl:∀ i ∈ l,i<N) (o:Oper) :
    rdyB o l=true ↔ ∀ e ∈ o.after,Region.binds .any e=true->L.getD e.on false=true:=by
  unfold rdyB
  rw [List.all_eq_true]
  constructor
  · intro hh e he hb
    have:=hh e (by simpa using he)
    rw [<- bindsB_eq,hb] at this
    simp only [Bool.not_true,Bool.false_or] at this
    rw [h.2,this]
    have hm:e.on ∈ l:=by
      simp only [listedB,List.any_eq_true] at this
      obtain ⟨x,hx,hb⟩:=this
      rw [Nat.eq_of_beq_eq_true hb]; exact hx
    simp [hl _ hm]
  · intro hh e he
    rw [<- bindsB_eq]
    cases hb:Region.binds .any e with
    | false=>rfl
    | true=>
      have:=hh e (by simpa using he) hb
      rw [h.2] at this
      simp only [Yt] at this
      simp [this.1]
theorem rdyL_mem (ops:List Oper) (l:List Nat):∀ (r:List Oper) (k i:Nat),i ∈ rdyL ops l k r ↔ k<=i/\∃ o,r[i - k]?=some o/\listedB l i=false/\rdyB o l=true
  | [],k,i=>by simp [rdyL]
  | o::r,k,i=>by
    have ih:=rdyL_mem ops l r (k+1) i
    have key:i ∈ rdyL ops l (k+1) r ↔ k<i/\∃ o',(o::r)[i - k]?=some o'/\listedB l i=false/\rdyB o' l=true:=by
      rw [ih]
      constructor
      · rintro ⟨h1,o',h2,h3⟩
        refine ⟨h1,o',?_,h3⟩
        rw [show i - k=(i - (k+1))+1 by omega,List.getElem?_cons_succ]; exact h2
      · rintro ⟨h1,o',h2,h3⟩
        refine ⟨h1,o',?_,h3⟩
        rw [show i - k=(i - (k+1))+1 by omega,List.getElem?_cons_succ] at h2; exact h2
    unfold rdyL
    cases hb:(!listedB l k && rdyB o l) with
    | true=>
      simp only [cond,Yr,key]
      simp only [Yt,Bool.not_eq_true'] at hb
      constructor
      · rintro (rfl | ⟨h1,h2⟩)
        · exact ⟨Yyt _,o,by simp,hb.1,hb.2⟩
        · exact ⟨Nat.le_of_lt h1,h2⟩
      · rintro ⟨h1,h2⟩
        rcases Nat.eq_or_lt_of_le h1 with h | h
        · exact .inl h.symm
        · exact .inr ⟨h,h2⟩
    | false=>
      simp only [cond,key]
      constructor
      · rintro ⟨h1,h2⟩; exact ⟨Nat.le_of_lt h1,h2⟩
      · rintro ⟨h1,o',h2,h3,h4⟩
        refine ⟨?_,o',h2,h3,h4⟩
        rcases Nat.eq_or_lt_of_le h1 with h | h
        · subst h
          simp at h2
          subst h2
          rw [h3,h4] at hb
          cases hb
        · exact h
theorem ready_iff [Mono] {ops:List Oper} {L:Array Bool} {l:List Nat} (h:Rl ops.length L l) (hl:∀ i ∈ l,i<ops.length) (i:Nat) :
    i ∈ Region.ready .any ops.toArray L ↔ i ∈ rdyL ops l 0 ops:=by
  rw [mem_ready,rdyL_mem]
  simp only [Nat.zero_le,true_and,Nat.sub_zero,List.getElem?_toArray]
  constructor
  · rintro ⟨h0,o,ho,hall⟩
    have hlt:i<ops.length:=(Ya.1 ho).1
    exact ⟨o,ho,by rw [<- h.true_ hlt]; exact h0,(rdyB_iff h hl o).2 hall⟩
  · rintro ⟨o,ho,h1,h2⟩
    have hlt:i<ops.length:=(Ya.1 ho).1
    exact ⟨by rw [h.true_ hlt]; exact h1,o,ho,(rdyB_iff h hl o).1 h2⟩
end Go.VC
end

section
/- VcCore's conditions are sound: the drawn region put together. -/
namespace Go.VC

theorem listedB_mem {l:List Nat} {i:Nat}:listedB l i=true ↔ i ∈ l:=by
  simp only [listedB,List.any_eq_true]
  constructor
  · rintro ⟨x,hx,hb⟩; rw [Nat.eq_of_beq_eq_true hb]; exact hx
  · intro h; exact ⟨i,h,Nat.beq_refl i⟩
theorem mem_zipIdx' {α:Type} {l:List α} {i:Nat} {x:α} (h:l[i]?=some x):(x,i) ∈ l.zipIdx:=by
  rw [List.mk_mem_zipIdx_iff_getElem?]; exact h
theorem anyOn_false [Mono] {o:Oper} {i:Nat} (h:∀ e ∈ o.after,Region.binds .any e=true->e.on ≠ i):(o.after.toList.any fun e=>bindsB e && Nat.beq e.on i)=false:=by
  rw [List.any_eq_false]
  intro e he
  simp only [Yt,not_and]
  intro hb hbe
  rw [<- bindsB_eq] at hb
  exact absurd (Nat.eq_of_beq_eq_true hbe) (h e (by simpa using he) hb)
theorem listedB_contains [Mono] (l:List Nat) (d:Nat):l.contains d=listedB l d:=by
  rw [Bool.eq_iff_iff,listedB_mem,List.contains_iff_mem]
theorem eqOp_iff (a b:Option Nat):eqOp a b=(a == b):=by
  cases a <;> cases b <;> try rfl
  rename_i x y
  by_cases h:x=y
  · subst h; simp [eqOp,Nat.beq_refl]
  · have:Nat.beq x y=false:=by
      cases hb:Nat.beq x y
      · rfl
      · exact absurd (Nat.eq_of_beq_eq_true hb) h
    simp [eqOp,this,h]
theorem looksL_eq (ops:List Oper) (o:Oper):o.looksAt ops.toArray=looksL ops o:=by
  unfold Oper.looksAt looksL
  congr 1
  cases o.guard with
  | none=>rfl
  | some g=>simp
theorem apartB_sound [Mono] {ops:List Oper} {x y:Oper} (h:apartB ops x y=true):x.apart ops.toArray y=true:=by
  unfold apartB at h
  unfold Oper.apart
  rw [looksL_eq,looksL_eq]
  simp only [Yt] at h ⊢
  constructor
  · have h1:=h.1
    cases hx:x.dst with
    | none=>rfl
    | some d=>
      rw [hx] at h1
      simp only [Yt,Bool.not_eq_true'] at h1 ⊢
      refine ⟨by rw [listedB_contains]; exact h1.1,?_⟩
      have h2:=h1.2
      rw [eqOp_iff] at h2
      rw [bne,h2]; rfl
  · have h1:=h.2
    cases hy:y.dst with
    | none=>rfl
    | some d=>
      rw [hy] at h1
      simp only [Bool.not_eq_true'] at h1 ⊢
      rw [listedB_contains]; exact h1
theorem freeB_sound [Mono] {ops:List Oper} {L:Array Bool} {l:List Nat} (h:Rl ops.length L l) {i:Nat} {oi:Oper} (hf:freeB ops l i oi=true) :
    ∀ j oj,ops.toArray[j]?=some oj->j ≠ i->L.getD j true=false->(∀ e ∈ oj.after,Region.binds .any e=true->e.on ≠ i)->oi.apart ops.toArray oj=true:=by
  intro j oj hoj hne hun hno
  rw [List.getElem?_toArray] at hoj
  have hlt:j<ops.length:=(Ya.1 hoj).1
  unfold freeB at hf
  rw [List.all_eq_true] at hf
  have:=hf _ (mem_zipIdx' hoj)
  simp only [Bool.or_eq_true] at this
  rcases this with ((h1 | h1) | h1) | h1
  · exact absurd (Nat.eq_of_beq_eq_true h1) hne
  · rw [h.true_ hlt,h1] at hun; cases hun
  · rw [anyOn_false hno] at h1; cases h1
  · exact apartB_sound h1
theorem firstQ_spec {P:Program} {ops:List Oper} {l:List Nat}:∀ (rs:List Nat) {i:Nat} {o:Oper},firstQ P ops l rs=some (i,o)->i ∈ rs/\ops[i]?=some o/\opK P o.op<2/\freeB ops l i o=true
  | [],i,o,h=>by cases h
  | j::r,i,o,h=>by
    unfold firstQ at h
    split at h
    · rename_i oj hoj
      cases hb:(Nat.blt (opK P oj.op) 2 && freeB ops l j oj) with
      | true=>
        rw [hb] at h
        simp only [cond,Option.some.injEq,Prod.mk.injEq] at h
        obtain ⟨rfl,rfl⟩:=h
        simp only [Yt] at hb
        exact ⟨Yx,hoj,by simpa using hb.1,hb.2⟩
      | false=>
        rw [hb] at h
        have:=firstQ_spec r h
        exact ⟨Yn _ this.1,this.2⟩
    · have:=firstQ_spec r h
      exact ⟨Yn _ this.1,this.2⟩
theorem selB_spec {ops:List Oper} (h:selB ops=true) (j:Nat) (o:Oper) (cs:Array SelectCase) (b:Bool) (ho:ops.toArray[j]?=some o):o.op ≠ .select cs b:=by
  intro e
  rw [List.getElem?_toArray] at ho
  unfold selB at h
  rw [List.all_eq_true] at h
  have:=h o (Yb ho)
  rw [e] at this
  cases this
theorem andAll_mem {F:Nat->Prop}:∀ (l:List Nat),andAll l F->∀ i ∈ l,F i
  | [],_,i,hi=>by cases hi
  | [j],h,i,hi=>by simp at hi; subst hi; exact h
  | j::k::r,h,i,hi=>by
    rcases Yr.1 hi with rfl | hi
    · exact h.1
    · exact andAll_mem (k::r) h.2 i hi

theorem waitsB_path [Mono] {ops:List Oper} {i:Nat}:∀ (f:Nat) {o:Oper},waitsB ops i f o=true->Path .any ops.toArray i o
  | 0,o,h=>by cases h
  | f+1,o,h=>by
    unfold waitsB at h
    rw [List.any_eq_true] at h
    obtain ⟨e,he,h⟩:=h
    rw [Yt,Bool.or_eq_true,Yt] at h
    obtain ⟨hb,h⟩:=h
    have he':e ∈ o.after:=by simpa using he
    have hb':Region.binds .any e=true:=by rw [bindsB_eq]; exact hb
    rcases h with h | ⟨_,h⟩
    · exact .one he' hb' (Nat.eq_of_beq_eq_true h)
    · split at h
      · rename_i o' ho'
        exact .step he' hb' (by rw [List.getElem?_toArray]; exact ho') (waitsB_path f h)
      · cases h

def effF (P:Program) (ops:List Oper) (j:Nat):Bool:=match ops[j]? with | some o=>Nat.beq (opK P o.op) 2 | none=>false
def smT (ops:List Oper) (ad:List (Nat × Addr)) (j:Nat) (w1 w2:World):Prop:=∀ oj,ops[j]?=some oj->Sm (keepA ops oj ad) w1.heap w2.heap
theorem smW_out {al:List Addr} {h h':Heap} {K:Prop} (hk:smW al h h' K):Sm al h h'/\K:=by
  cases al with
  | nil=>exact ⟨fun a ha=>(by cases ha),hk⟩
  | cons a r=>exact hk
theorem keepA_cons {ops:List Oper} {o:Oper} {p:Nat × Addr} {ad:List (Nat × Addr)} {x:Addr} (hx:x ∈ keepA ops o ad):x ∈ keepA ops o (p::ad):=by
  obtain ⟨i,a⟩:=p
  unfold keepA
  cases waitsB ops i 9 o
  · exact Yn _ hx
  · exact hx

theorem ready_waits {md:Region.Mode} {ops:Array Oper} {L:Array Bool} {i:Nat} (hi:i ∈ Region.ready md ops L) {o:Oper} (ho:ops[i]?=some o):∀ e ∈ o.after,Region.binds md e=true->L.getD e.on false=true:=by
  obtain ⟨_,o',ho',hw⟩:=mem_ready.1 hi
  obtain rfl:o=o':=Yyp (ho.symm.trans ho')
  exact hw
theorem draw_sound [Mono] {P:Program} {n:Nat} {ops:List Oper} {K:Env->Heap->Prop} {w0:World} {Q:Exit->Act->World->Prop} {D:List Nat} {ρ0:Env} (hsel:selB ops=true) (hD:∀ o ∈ ops,∀ x,o.dst=some x->x ∈ D)
    (hQn:∀ a w,a.defers=[]->a.tmps.size=n->Fr w0 w->Keeps D ρ0 a->K (envOf a) w.heap->Q .normal a w) (hQp:∀ c a w,¬ Q (.panic c) a w) :
    ∀ (fuel:Nat) (l:List Nat) (ad:List (Nat × Addr)) (L:Array Bool) (a:Act) (w:World) (T:Nat->World->World->Prop),Rl ops.length L l->Closed .any ops.toArray L->(∀ i ∈ l,i<ops.length)->a.defers=[]->a.tmps.size=n->Fr w0 w->Keeps D ρ0 a ->
      (∀ j w1 w2,smT ops ad j w1 w2->T j w1 w2)->drawW P n ops fuel l ad (envOf a) w.heap K->wpAnyL P .any ops.toArray Q (effF P ops) T fuel L a w:=by
  intro fuel
  induction fuel with
  | zero=>
    intro l ad L a w T hR hC hl hd hs hf hkp hT h
    unfold drawW at h
    split at h
    · rename_i he
      refine ⟨?_,hQn a w hd hs hf hkp h⟩
      apply List.eq_nil_iff_forall_not_mem.2
      intro i hi
      rw [ready_iff hR hl,he] at hi
      cases hi
    · exact h.elim
  | succ fuel ih=>
    intro l ad L a w T hR hC hl hd hs hf hkp hT h
    unfold drawW at h
    split at h
    · rename_i he
      have hempty:Region.ready .any ops.toArray L=[]:=by
        apply List.eq_nil_iff_forall_not_mem.2
        intro i hi
        rw [ready_iff hR hl,he] at hi
        cases hi
      refine ⟨fun _=>hQn a w hd hs hf hkp h,fun i hi=>?_⟩
      rw [hempty] at hi; cases hi
    · split at h
      · rename_i rs hrs _ i o hfq
        obtain ⟨him,ho,hk,hfree⟩:=firstQ_spec _ hfq
        have hlt:i<ops.length:=(Ya.1 ho).1
        have hrdy:i ∈ Region.ready .any ops.toArray L:=(ready_iff hR hl i).2 him
        have ho':ops.toArray[i]?=some o:=by rw [List.getElem?_toArray]; exact ho
        have hwi:=ready_waits hrdy ho'
        have hei:effF P ops i=false:=by
          unfold effF; rw [ho]
          cases hb:Nat.beq (opK P o.op) 2
          · exact hb
          · have:=Nat.eq_of_beq_eq_true hb; omega
        have hl':∀ k ∈ i::l,k<ops.length:=fun k hk=>by
          rcases Yr.1 hk with rfl | hk
          · exact hlt
          · exact hl k hk
        have hun:i ∉ l:=by
          have:=(rdyL_mem ops l ops 0 i).1 him
          obtain ⟨_,_,_,hn,_⟩:=this
          intro hm
          rw [listedB_mem.2 hm] at hn; cases hn
        have hfr:=freeB_sound hR hfree
        rcases gd_sound h with ⟨hw,hgo⟩ | ⟨hw,hsk⟩
        · split at hgo
          · -- a pure operation
            obtain ⟨v,hK,hr⟩:=opP_sound hgo
            obtain ⟨hk',hs'⟩:=aft_sound hs hK
            refine L_first (S:=fun _=>True) ho' (selB_spec hsel) (fun c a' w' hq=>absurd hq (hQp c _ _)) hei (fun _ _ _ _ _ _ _ _ _ _=>trivial) fuel L a w hC hfr hrdy
              (.inl ⟨hw,fun w' _=>by rw [eval_evl]; exact hr w'⟩) trivial ?_
            exact ih (i::l) ad _ _ w T (hR.set hlt) (hC.set ho' hwi) hl' (by rw [put_defers']; exact hd) hs' hf (hkp.put (hD o (Yb ho))) hT hk'
          · -- a load
            obtain ⟨v,a0,hK,had,hr⟩:=opL_sound hgo
            rw [had] at hK
            obtain ⟨hk',hs'⟩:=aft_sound hs hK
            refine L_mono (T':=smT ops ((i,a0)::ad)) (fun j w1 w2 h3=>hT j w1 w2 fun oj hoj x hx=>h3 oj hoj x (keepA_cons hx)) _ _ _ _ ?_
            refine L_first (S:=fun w'=>∀ k u,hc w.heap (addk a0 k)=some u->hc w'.heap (addk a0 k)=some u) ho' (selB_spec hsel) (fun c a' w' hq=>absurd hq (hQp c _ _)) hei ?_ fuel L a w hC hfr hrdy
              (.inl ⟨hw,fun w' hE=>by rw [eval_evl]; exact hr w' hE⟩) (fun _ _ h3=>h3) ?_
            · intro j oj w1 w2 hoj hji hno hS he0 he1
              cases hej:effF P ops j with
              | false=>rw [he0 hej]; exact hS
              | true=>
                rw [List.getElem?_toArray] at hoj
                intro k u hu
                refine he1 hej oj hoj a0 ?_ k u (hS k u hu)
                unfold keepA
                cases hwt:waitsB ops i 9 oj with
                | false=>exact Yx
                | true=>exact absurd (waitsB_path _ hwt) hno
            · exact ih (i::l) ((i,a0)::ad) _ _ w _ (hR.set hlt) (hC.set ho' hwi) hl' (by rw [put_defers']; exact hd) hs' hf (hkp.put (hD o (Yb ho))) (fun _ _ _ h3=>h3) hk'
        · obtain ⟨hk',hs'⟩:=putD_sound hs hsk
          refine L_first (S:=fun _=>True) ho' (selB_spec hsel) (fun c a' w' hq=>absurd hq (hQp c _ _)) hei (fun _ _ _ _ _ _ _ _ _ _=>trivial) fuel L a w hC hfr hrdy (.inr ⟨hw,rfl⟩) trivial ?_
          exact ih (i::l) ad _ _ w T (hR.set hlt) (hC.set ho' hwi) hl' (by rw [put_defers']; exact hd) hs' hf (hkp.put (hD o (Yb ho))) hT hk'
      · rename_i rs hrs _ hnq
        refine ⟨fun he=>?_,fun i hi=>?_⟩
        · exfalso
          have:rdyL ops l 0 ops=[]:=by
            apply List.eq_nil_iff_forall_not_mem.2
            intro i hi
            rw [<- ready_iff hR hl,he] at hi
            cases hi
          exact hrs this
        · have him:=(ready_iff hR hl i).1 hi
          have hF:=andAll_mem _ h i him
          split at hF
          · rename_i o ho
            have hlt:i<ops.length:=(Ya.1 ho).1
            have ho':ops.toArray[i]?=some o:=by rw [List.getElem?_toArray]; exact ho
            have hwi:=ready_waits hi ho'
            have hl':∀ k ∈ i::l,k<ops.length:=fun k hk=>by
              rcases Yr.1 hk with rfl | hk
              · exact hlt
              · exact hl k hk
            have hun:i ∉ l:=by
              obtain ⟨_,_,_,hn,_⟩:=(rdyL_mem ops l ops 0 i).1 him
              intro hm
              rw [listedB_mem.2 hm] at hn; cases hn
            obtain ⟨hk2,hF⟩:=bif_true hF
            have hk2':opK P o.op=2:=Nat.eq_of_beq_eq_true hk2
            have hei:effF P ops i=true:=by unfold effF; rw [ho]; exact hk2
            unfold wpOp
            simp only [ho']
            rcases gd_sound hF with ⟨hw,hgo⟩ | ⟨hw,hsk⟩
            · rw [if_pos hw]
              refine .inl (does_wp (opW_sound hgo) fun v w' hK hfw=>?_)
              obtain ⟨hE,hK⟩:=smW_out hK
              obtain ⟨hk',hs'⟩:=aft_sound hs hK
              refine ⟨⟨fun he=>(by rw [hei] at he; cases he),fun _=>hT i w w' fun oj hoj=>(by rw [ho] at hoj; cases hoj; exact hE)⟩,?_⟩
              exact ih (i::l) ad _ _ w' T (hR.set hlt) (hC.set ho' hwi) hl' (by rw [put_defers']; exact hd) hs' (hf.trans hfw) (hkp.put (hD o (Yb ho))) hT hk'
            · rw [if_neg (by simp [hw])]
              obtain ⟨hk',hs'⟩:=putD_sound hs hsk
              refine ⟨⟨by intros; first | trivial | rfl,fun _=>hT i w w fun oj _ x _ k v h3=>h3⟩,?_⟩
              exact ih (i::l) ad _ _ w T (hR.set hlt) (hC.set ho' hwi) hl' (by rw [put_defers']; exact hd) hs' hf (hkp.put (hD o (Yb ho))) hT hk'
          · exact hF.elim

theorem wp_region_drawn [Mono] {P:Program} {n:Nat} {ops:Array Oper} {K:Env->Heap->Prop} {w0:World} {Q:Exit->Act->World->Prop} {id:Nat} {a:Act} {w:World} {D:List Nat} {ρ0:Env} (hm:P.follows .mixedOrders=true) (hsel:selB ops.toList=true) (hD:∀ o ∈ ops.toList,∀ x,o.dst=some x->x ∈ D)
    (hQn:∀ a w,a.defers=[]->a.tmps.size=n->Fr w0 w->Keeps D ρ0 a->K (envOf a) w.heap->Q .normal a w) (hQp:∀ c a w,¬ Q (.panic c) a w) (hd:a.defers=[]) (hs:a.tmps.size=n) (hf:Fr w0 w) (hkp:Keeps D ρ0 a)
    (h:drawW P n ops.toList ops.toList.length [] [] (envOf a) w.heap K):(Code.region id ops true).wp P Q a w:=by
  refine wp_region_any hm ?_
  have:=draw_sound (Q:=Q) (D:=D) (ρ0:=ρ0) hsel hD hQn hQp ops.toList.length [] [] (Array.replicate ops.size false) a { w with drawn:=w.drawn+1 } (fun _ _ _=>True) (by have:=Rl.nil ops.toList.length; simpa using this)
    (fun j oj _ hj=>by rw [Array.getD_eq_getD_getElem?] at hj; cases hL:(Array.replicate ops.size false)[j]? with | none=>rw [hL] at hj; cases hj | some b=>rw [hL] at hj; obtain ⟨hlt,hb⟩:=Yyg.1 hL; simp at hb; rw [hb] at hj; cases hj) (fun i hi=>by cases hi) hd hs ⟨hf.1,hf.2.1,hf.2.2.1,Mono.trans hf.2.2.2 (Mono.drew w)⟩ hkp (fun _ _ _ _=>trivial) h
  have h2:=any_of_L _ _ _ _ this
  simpa using h2
end Go.VC
end

section
/- VcCore's conditions are sound: code, functions. -/
namespace Go.VC

theorem dst_mem {ops:List Oper}:∀ o ∈ ops,∀ x,o.dst=some x->x ∈ opDsts ops:=by
  intro o ho x hx
  exact Yym.2 ⟨o,ho,hx⟩

theorem wth_out [Mono] {X:Prop}:∀ {k:Kd} {v:Value} {F:k.T->Prop},k.wth v F->∃ x:k.T,v=k.val x/\F x
  | .int k,v,F,h=>by
    cases v <;> simp only [Kd.wth] at h
    obtain ⟨hk,h1⟩:=bif_true h
    obtain rfl:=ikB_eq hk
    exact ⟨_,rfl,h1⟩
  | .bool,v,F,h=>by cases v <;> simp only [Kd.wth] at h; exact ⟨_,rfl,h⟩
  | .str,v,F,h=>by cases v <;> simp only [Kd.wth] at h; exact ⟨_,rfl,h⟩
  | .ptr,v,F,h=>by cases v <;> simp only [Kd.wth] at h; exact ⟨_,rfl,h⟩
  | .slice,v,F,h=>by cases v <;> simp only [Kd.wth] at h; exact ⟨_,rfl,h⟩
  | .map,v,F,h=>by cases v <;> simp only [Kd.wth] at h; exact ⟨_,rfl,h⟩
  | .any,v,F,h=>⟨v,rfl,h⟩
theorem upd_self (ρ:Env) (s:Nat):upd ρ s (ρ s)=ρ:=by
  funext j
  unfold upd
  cases hb:Nat.beq j s with
  | true=>rw [Nat.eq_of_beq_eq_true hb]; rfl
  | false=>rfl
theorem ks_ap [Mono] {X:Type}:∀ (ks:List Kd) (f:FnKs ks X) (vs:List Value) (F:List Value->X->Prop) (G:X->Prop),allKs ks f F->apKs ks f vs G->∃ f',F vs f'/\G f'
  | [],f,vs,F,G,h1,h2=>by cases vs <;> simp only [apKs] at h2; exact ⟨f,h1,h2⟩
  | k::r,f,vs,F,G,h1,h2=>by
    cases vs with
    | nil=>simp only [apKs] at h2
    | cons v vs=>
      obtain ⟨x,rfl,h3⟩:=wth_out (X:=True) h2
      exact ks_ap r (f x) vs _ G (h1 x) h3
theorem sl_ap [Mono] {X:Type}:∀ (sl:List (Nat × SK)) (f:FnSl sl X) (ρ:Env) (F:Env->X->Prop) (G:X->Prop),allSl sl f ρ F->apSl sl f ρ G->∃ f',F ρ f'/\G f'
  | [],f,ρ,F,G,h1,h2=>⟨f,h1,h2⟩
  | (s,.one k)::r,f,ρ,F,G,h1,h2=>by
    obtain ⟨x,hx,h3⟩:=wth_out (X:=True) h2
    have h4:=h1 x
    rw [<- hx,upd_self] at h4
    exact sl_ap r (f x) ρ F G h4 h3
  | (s,.agg ks)::r,f,ρ,F,G,h1,h2=>by
    simp only [apSl] at h2
    split at h2
    · rename_i cs hc
      obtain ⟨f',h3,h4⟩:=ks_ap ks f cs.toList _ _ h1 h2
      rw [show (Value.agg ⟨cs.toList⟩)=ρ s from hc.symm,upd_self] at h3
      exact sl_ap r f' ρ F G h3 h4
    · exact h2.elim
theorem havoc_keeps {D:List Nat} {ρ:Env} {a:Act} (h:Keeps D ρ a):havoc D ρ (envOf a)=envOf a:=by
  funext j
  unfold havoc
  cases hb:D.any (Nat.beq j) with
  | true=>rfl
  | false=>
    refine (h j fun hm=>?_).symm
    rw [List.any_eq_false] at hb
    exact hb j hm (Nat.beq_refl j)

theorem least {p:Nat->Prop} (h:∃ m,p m):∃ m,p m/\∀ k,p k->m<=k:=by
  obtain ⟨m,hm⟩:=h
  induction m using Nat.strongRecOn with
  | _ m ih=>
    by_cases h1:∃ k,k<m/\p k
    · obtain ⟨k,hk,hp⟩:=h1
      exact ih k hk hp
    · exact ⟨m,hm,fun k hk=>Nat.le_of_not_lt fun hl=>h1 ⟨k,hl,hk⟩⟩
open Classical in
theorem loop_by [Mono] {P:Program} {Q:Exit->Act->World->Prop} {c:Code} {a:Act} {w:World} (I:Nat->Act->World->Prop) (h0:∃ m,I m a w)
    (round:∀ m a w,I m a w->c.wp P (Exit.then (fun a' w'=>∃ m',m'<m/\I m' a' w') Q) a w):(Code.loop c).wp P Q a w:=by
  let μ:Act->World->Nat:=fun a w=>if h:∃ m,I m a w then Classical.choose (least h) else 0
  refine wp_loop (fun a w=>∃ m,I m a w) μ h0 fun a w hI=>?_
  have hm:=(Classical.choose_spec (least hI)).1
  refine Code.wp_mono (fun e a' w' hq=>?_) (round _ a w hm)
  cases e with
  | normal=>
    obtain ⟨m',hlt,hI'⟩:=hq
    refine ⟨⟨m',hI'⟩,?_⟩
    have h1:∃ m,I m a' w':=⟨m',hI'⟩
    have hle:=(Classical.choose_spec (least h1)).2 m' hI'
    simp only [μ,dif_pos hI,dif_pos h1]
    exact Nat.lt_of_le_of_lt hle hlt
  | _=>exact hq

theorem code_sound [Mono] {P:Program} {n:Nat} {w0:World}:∀ (c:Code) (A:Ann) (Q:Ex->Env->Heap->Prop) (a:Act) (w:World),a.defers=[]->a.tmps.size=n->Fr w0 w ->
    codeW P n c A Q (envOf a) w.heap->c.wp P (fun e a' w'=>Sat n w0 Q e a' w'/\Keeps (dsts c) (envOf a) a') a w
  | .skip,A,Q,a,w,hd,hs,hf,h=>wp_skip ⟨⟨hd,hs,hf,h⟩,fun _ _=>rfl⟩
  | .label l,A,Q,a,w,hd,hs,hf,h=>wp_label ⟨⟨hd,hs,hf,h⟩,fun _ _=>rfl⟩
  | .exit id,A,Q,a,w,hd,hs,hf,h=>wp_exit ⟨⟨hd,hs,hf,h⟩,fun _ _=>rfl⟩
  | .ret,A,Q,a,w,hd,hs,hf,h=>wp_ret ⟨⟨hd,hs,hf,h⟩,fun _ _=>rfl⟩
  | .region id ops draw,A,Q,a,w,hd,hs,hf,h=>by
    cases draw with
    | false=>
      simp only [codeW] at h
      refine wp_region_list ?_
      have:=ops_sound (Q:=fun e a' w'=>Sat n w0 Q e a' w'/\Keeps (dsts (.region id ops false)) (envOf a) a') (all:=ops.toList) (D:=opDsts ops.toList) (ρ0:=envOf a)
        (fun a' w' h1 h2 h3 h4 h5=>⟨⟨h1,h2,h3,h5⟩,h4⟩) ops.toList 0 a w dst_mem hd hs hf (fun _ _=>rfl) h
      simpa using this
    | true=>
      simp only [codeW] at h
      obtain ⟨hb,h1⟩:=bif_true h
      simp only [Yt] at hb
      exact wp_region_drawn (D:=opDsts ops.toList) (ρ0:=envOf a) hb.1 hb.2 dst_mem (fun a' w' h1 h2 h3 h4 h5=>⟨⟨h1,h2,h3,h5⟩,h4⟩) (fun c a' w' hq=>hq.1.2.2.2) hd hs hf (fun _ _=>rfl) h1
  | .cond c x y,A,Q,a,w,hd,hs,hf,h=>by
    simp only [codeW] at h
    split at h
    · rename_i b hb
      have hb':a.eval c=.bool b:=by rw [eval_evl]; exact hb
      cases b with
      | true=>exact wp_cond_true hb' (Code.wp_mono (fun e a' w' hq=>⟨hq.1,fun j hj=>hq.2 j (fun hm=>hj (List.mem_append_left _ hm))⟩) (code_sound x _ Q a w hd hs hf h))
      | false=>exact wp_cond_false hb' (Code.wp_mono (fun e a' w' hq=>⟨hq.1,fun j hj=>hq.2 j (fun hm=>hj (List.mem_append_right _ hm))⟩) (code_sound y _ Q a w hd hs hf h))
    · exact h.elim
  | .block id x,A,Q,a,w,hd,hs,hf,h=>by
    simp only [codeW] at h
    refine wp_block (Code.wp_mono (fun e a' w' hq=>?_) (code_sound x _ _ a w hd hs hf h))
    obtain ⟨⟨h1,h2,h3,h4⟩,h5⟩:=hq
    cases e with
    | exit i=>
      simp only [Exit.inBlock]
      simp only [blockQ] at h4
      by_cases hi:i=id
      · subst hi
        rw [Nat.beq_refl] at h4
        rw [if_pos rfl]
        exact ⟨⟨h1,h2,h3,h4⟩,h5⟩
      · rw [if_neg hi]
        have:Nat.beq i id=false:=by
          cases hb:Nat.beq i id
          · rfl
          · exact absurd (Nat.eq_of_beq_eq_true hb) hi
        rw [this] at h4
        exact ⟨⟨h1,h2,h3,h4⟩,h5⟩
    | _=>exact ⟨⟨h1,h2,h3,h4⟩,h5⟩
  | .seq x y,A,Q,a,w,hd,hs,hf,h=>by
    have plain:∀ (A1 A2:Ann),codeW P n x A1 (thenQ (codeW P n y A2 Q) Q) (envOf a) w.heap->(Code.seq x y).wp P (fun e a' w'=>Sat n w0 Q e a' w'/\Keeps (dsts (.seq x y)) (envOf a) a') a w:=by
      intro A1 A2 h
      refine wp_seq (Code.wp_mono (fun e a' w' hq=>?_) (code_sound x _ _ a w hd hs hf h))
      obtain ⟨⟨h1,h2,h3,h4⟩,h5⟩:=hq
      cases e with
      | normal=>
        refine Code.wp_mono (fun e a2 w2 hq=>⟨hq.1,fun j hj=>?_⟩) (code_sound y _ Q a' w' h1 h2 h3 h4)
        rw [hq.2 j (fun hm=>hj (List.mem_append_right _ hm)),h5 j (fun hm=>hj (List.mem_append_left _ hm))]
      | _=>exact ⟨⟨h1,h2,h3,h4⟩,fun j hj=>h5 j (fun hm=>hj (List.mem_append_left _ hm))⟩
    simp only [codeW] at h
    split at h
    · rename_i sl A1 A2
      obtain ⟨J,hx,hy⟩:=h
      refine wp_seq (Code.wp_mono (fun e a' w' hq=>?_) (code_sound x _ _ a w hd hs hf hx))
      obtain ⟨⟨h1,h2,h3,h4⟩,h5⟩:=hq
      cases e with
      | normal=>
        have hy':=hy (envOf a')
        rw [havoc_keeps h5] at hy'
        obtain ⟨J',h6,h7⟩:=sl_ap sl J (envOf a') _ _ hy' h4
        refine Code.wp_mono (fun e a2 w2 hq=>⟨hq.1,fun j hj=>?_⟩) (code_sound y _ Q a' w' h1 h2 h3 (h6 _ h7))
        rw [hq.2 j (fun hm=>hj (List.mem_append_right _ hm)),h5 j (fun hm=>hj (List.mem_append_left _ hm))]
      | _=>exact ⟨⟨h1,h2,h3,h4⟩,fun j hj=>h5 j (fun hm=>hj (List.mem_append_left _ hm))⟩
    · exact plain _ _ h
  | .loop x,A,Q,a,w,hd,hs,hf,h=>by
    simp only [codeW] at h
    split at h
    · rename_i sl A1
      obtain ⟨I,⟨m0,hi0⟩,hround⟩:=h
      refine loop_by (fun m a' w'=>a'.defers=[]/\a'.tmps.size=n/\Fr w0 w'/\Keeps (dsts x) (envOf a) a'/\apSl sl I (envOf a') fun I'=>I' w'.heap m)
        ⟨m0,hd,hs,hf,fun _ _=>rfl,hi0⟩ fun m a1 w1 ⟨g1,g2,g3,g4,g5⟩=>?_
      have hr:=hround (envOf a1)
      rw [havoc_keeps g4] at hr
      obtain ⟨I',h6,h7⟩:=sl_ap sl I (envOf a1) _ _ hr g5
      refine Code.wp_mono (fun e a' w' hq=>?_) (code_sound x _ _ a1 w1 g1 g2 g3 (h6 _ _ h7))
      obtain ⟨⟨h1,h2,h3,h4⟩,h5⟩:=hq
      have hk:Keeps (dsts x) (envOf a) a':=fun j hj=>(h5 j hj).trans (g4 j hj)
      cases e with
      | normal=>
        obtain ⟨m',hlt,hm'⟩:=h4
        exact ⟨m',hlt,h1,h2,h3,hk,hm'⟩
      | _=>exact ⟨⟨h1,h2,h3,h4⟩,hk⟩
    · exact h.elim
  | .rangeFunc f ps al b,A,Q,a,w,hd,hs,hf,h=>h.elim
  | .scope x,A,Q,a,w,hd,hs,hf,h=>by
    refine wp_scope_straight (Code.wp_mono (fun e a' w' hq=>?_) (code_sound x _ Q a w hd hs hf h))
    cases e with
    | goto l=>exact hq.1.2.2.2.elim
    | _=>exact hq
  | .goto l,A,Q,a,w,hd,hs,hf,h=>h.elim
  | .refuse s,A,Q,a,w,hd,hs,hf,h=>h.elim

def rvSem (ρ:Env):ResultVar->Sem Value
  | .tmp t=>pure (ρ t)
  | .cell a t=>do loadVar t (<- asAddr (ρ a))
theorem res_sound [Mono] {P:Program} {ρ:Env} {w:World}:∀ (rs:List ResultVar) (K:List Value->Prop),resW P w.heap ρ rs K ->
    ∃ vs,vs.length=rs.length/\K vs/\(rs.mapM (rvSem ρ)).run P w=.ok vs w
  | [],K,h=>⟨[],rfl,h,rfl⟩
  | .tmp t::r,K,h=>by
    obtain ⟨vs,hl,hK,hr⟩:=res_sound r _ h
    refine ⟨ρ t::vs,by simp [hl],hK,?_⟩
    simp only [List.mapM_cons,rvSem,Sem.run_bind,Sem.run_pure,Result.andThen_ok,hr]
  | .cell t ty::r,K,h=>by
    simp only [resW] at h
    split at h
    · rename_i a ha
      obtain ⟨hb,h1⟩:=bif_true h
      simp only [Yt] at hb
      obtain ⟨us,hlu,h2⟩:=exKs_out _ _ h1
      obtain ⟨hat,h3⟩:=cellsAt_out h2
      obtain ⟨vs,hl,hK,hr⟩:=res_sound r _ h3
      refine ⟨_::vs,by simp [hl],hK,?_⟩
      have hrun:=loadVar_run (P:=P) (w:=w) (t:=ty) (a:=a) (vs:=us) hb.1 (by rw [beqT hb.2,hlu]) hat (fun hag e=>by
        have:=flat_one hb.1 hag
        rw [<- hlu,e] at this
        cases this)
      simp only [List.mapM_cons,rvSem,Sem.run_bind,Sem.run_pure,Result.andThen_ok,ha,asAddr,hrun,hr]
    · exact h.elim

theorem results_run [Mono] {P:Program} {fn:Func} {a:Act} {w:World} {R:Value->Heap->Prop} (h:resW P w.heap (envOf a) fn.results.toList fun vs=>match vs with | [v]=>R v w.heap | vs=>R (.tuple ⟨vs⟩) w.heap) :
    ∃ v,(results fn a.tmps).run P w=.ok v w/\R v w.heap:=by
  obtain ⟨vs,hl,hK,hr⟩:=res_sound _ _ h
  have hm:(fn.results.mapM (rvSem (envOf a))).run P w=.ok ⟨vs⟩ w:=by
    rw [Array.mapM_eq_mapM_toList]
    simp only [Sem.run_map,hr,Result.andThen_ok]
  have he:results fn a.tmps=(do let vs <- fn.results.mapM (rvSem (envOf a)); pure (if h:vs.size=1 then vs[0] else .tuple vs)):=by
    unfold results
    congr 1
  rw [he]
  simp only [Sem.run_bind,hm,Result.andThen_ok,Sem.run_pure]
  cases vs with
  | nil=>exact ⟨_,rfl,hK⟩
  | cons v r=>
    cases r with
    | nil=>exact ⟨_,rfl,hK⟩
    | cons u r=>exact ⟨_,rfl,hK⟩

theorem env0_eq {args:Array Value} {n:Nat}:envOf { tmps:=args++Array.replicate (n - args.size) undef,defers:=[] }=env0 args:=by
  funext j
  simp only [envOf,env0,Array.getD_eq_getD_getElem?,Yo,Array.getElem?_toList]
  by_cases hj:j<args.size
  · rw [Array.getElem?_append_left hj]
  · rw [Array.getElem?_append_right (by omega),Array.getElem?_eq_none (xs:=args) (by omega)]
    cases h:(Array.replicate (n - args.size) undef)[j - args.size]? with
    | none=>rfl
    | some v=>
      obtain ⟨hlt,hv⟩:=Yyg.1 h
      simp at hv
      simp [hv.symm]

theorem fnI [Mono] {P:Program} {f:FuncId} {A:Ann} {args:Array Value} {h:Heap} {R:Value->Heap->Prop} {W:Prop} (e:W=fnW P f A args h R) (H:W):Fn P f args h R:=by
  rw [e] at H
  unfold fnW at H
  split at H
  · rename_i fn hfn
    split at H
    · rename_i c hc
      obtain ⟨hb,H⟩:=bif_true H
      have hle:args.size<=fn.ntmps:=by simpa using hb
      intro w hw
      subst hw
      refine calls_of_wp hfn hc ?_
      rw [<- env0_eq (n:=fn.ntmps)] at H
      refine Code.wp_mono (fun e a' w' hq=>?_) (code_sound (w0:=w) c A _ { tmps:=args++Array.replicate (fn.ntmps - args.size) undef,defers:=[] } w rfl (by simp; omega) (Fr.refl w) H)
      obtain ⟨⟨h1,h2,h3,h4⟩,_⟩:=hq
      cases e with
      | normal=>
        obtain ⟨v,hr,hR⟩:=results_run h4
        exact ⟨h1,v,hr,v,rfl,hR,h3⟩
      | ret=>
        obtain ⟨v,hr,hR⟩:=results_run h4
        exact ⟨h1,v,hr,v,rfl,hR,h3⟩
      | _=>exact h4.elim
    · exact H.elim
  · exact H.elim
end Go.VC
end

section
/- Lemmas for proving the conditions of VcCore by hand: branches, numbers, heaps, blocks of the call's own, append, copy. -/
namespace Go.VC
instance monoAll:Mono:=⟨fun _ _=>True,fun _=>trivial,fun _ _=>trivial,fun _ _=>trivial,fun _=>trivial,fun _ _ _ _ _ _=>trivial⟩
theorem sB_iff {b:Bool} {p q:Prop}:sB b p q ↔ (b=true->p)/\(b=false->q):=by cases b <;> simp [sB]
theorem sB_intro {b:Bool} {p q:Prop} (h1:b=true->p) (h2:b=false->q):sB b p q:=sB_iff.2 ⟨h1,h2⟩
theorem sB_t {b:Bool} {p q:Prop} (hb:b=true) (h:p):sB b p q:=by subst hb; exact h
theorem sB_f {b:Bool} {p q:Prop} (hb:b=false) (h:q):sB b p q:=by subst hb; exact h
theorem w64 {n:Int} (h0:-9223372036854775808<=n) (h1:n<=9223372036854775807):IntKind.wrap .i64 n=n:=IntWalk.i64_in n ⟨h0,h1⟩
theorem wu8 {n:Int} (h0:0<=n) (h1:n<=255):IntKind.wrap .u8 n=n:=by
  simp [IntKind.wrap,IntKind.signed,IntKind.bits]; omega
theorem NB_some {b o:Nat} {F:Nat->Nat->Prop}:NB (some ⟨b,o,none⟩) F=F b o:=rfl
theorem Fn.of_same [Mono] {P:Program} {f:FuncId} {args:Array Value} {h:Heap} {v:Value} (hc:∀ w,Calls P f args w fun e w'=>e=.returned v/\w'=w) :
    Fn P f args h fun u h'=>u=v/\h'=h:=by
  intro w hw
  refine (hc w).mono ?_
  rintro e w' ⟨he,rfl⟩
  exact ⟨v,he,⟨rfl,hw⟩,rfl,rfl,rfl,Mono.refl _⟩

/- heaps -/
theorem hc_of_block {h h':Heap} {a:Addr} (hb:h'[a.block]?=h[a.block]?):hc h' a=hc h a:=by unfold hc; rw [hb]
theorem fz_of_block {h h':Heap} {a:Addr} (hb:h'[a.block]?=h[a.block]?):fz h' a=fz h a:=by unfold fz; rw [hb]
theorem push_lt {h:Heap} {o:Obj} {k:Nat} (hk:k<h.size):(h.push o)[k]?=h[k]?:=by rw [Array.getElem?_push,if_neg (by omega)]
theorem push_eq {h:Heap} {o:Obj}:(h.push o)[h.size]?=some o:=by simp
theorem Ext.push (h:Heap) (o:Obj):Ext h (h.push o):=⟨by simp,fun _ hk=>push_lt hk⟩
theorem Ext.hc {h h':Heap} (hE:Ext h h') {a:Addr} (ha:a.block<h.size):hc h' a=VC.hc h a:=hc_of_block (hE.2 _ ha)
theorem atC_ext {h h':Heap} (hE:Ext h h') {a:Addr} {vs:List Value} (hv:atC h a vs):atC h' a vs:=fun i v hi=>hc_ext hE (hv i v hi)

def Own (h:Heap) (b:Nat) (xs:List Value) (e:TypeId):Prop:=h[b]?=some (.cells ⟨xs⟩ e (0,0))
theorem Own.lt {h:Heap} {b:Nat} {xs:List Value} {e:TypeId} (ho:Own h b xs e):b<h.size:=(Yyg.1 ho).1
theorem Own.hc {h:Heap} {b:Nat} {xs:List Value} {e:TypeId} (ho:Own h b xs e) (i:Nat):hc h ⟨b,i,none⟩=xs[i]?:=by
  unfold VC.hc; rw [ho]; simp
theorem Own.fz {h:Heap} {b:Nat} {xs:List Value} {e:TypeId} (ho:Own h b xs e) (i:Nat):fz h ⟨b,i,none⟩=false:=by
  unfold VC.fz; rw [ho]; simp
theorem Own.push {h:Heap} {xs:List Value} {e:TypeId}:Own (h.push (.cells ⟨xs⟩ e)) h.size xs e:=push_eq
theorem addk_at (b o i:Nat):addk ⟨b,o,none⟩ i=⟨b,o+i,none⟩:=by cases i <;> rfl
theorem Own.okAt {h:Heap} {b:Nat} {xs:List Value} {e:TypeId} (ho:Own h b xs e) {o n:Nat} (hn:o+n<=xs.length):okAt h ⟨b,o,none⟩ n:=by
  intro i hi
  rw [addk_at,ho.hc,ho.fz]
  have:o+i<xs.length:=by omega
  simp [this]
theorem Own.atC {h:Heap} {b:Nat} {xs:List Value} {e:TypeId} (ho:Own h b xs e) {o:Nat} {vs:List Value} (hv:∀ i v,vs[i]?=some v->xs[o+i]?=some v):atC h ⟨b,o,none⟩ vs:=by
  intro i v hi
  rw [addk_at,ho.hc]
  exact hv i v hi
def But (b:Nat) (h h':Heap):Prop:=h'.size=h.size/\∀ k,k ≠ b->h'[k]?=h[k]?
theorem But.refl (b:Nat) (h:Heap):But b h h:=⟨rfl,fun _ _=>rfl⟩
theorem But.trans {b:Nat} {h1 h2 h3:Heap} (h:But b h1 h2) (k:But b h2 h3):But b h1 h3:=⟨k.1.trans h.1,fun i hi=>(k.2 i hi).trans (h.2 i hi)⟩
theorem But.hset {h:Heap} {a:Addr} {v:Value}:But a.block h (hset h a v):=⟨by simp [VC.hset],fun k hk=>hset_other hk⟩
theorem addk_block' (a:Addr) (i:Nat):(addk a i).block=a.block:=by cases i <;> rfl
theorem But.hputs {a:Addr}:∀ (vs:List Value) (i:Nat) (h:Heap),But a.block h (hputs h a i vs)
  | [],i,h=>But.refl _ h
  | v::vs,i,h=>by
    have h1:But a.block h (VC.hset h (addk a i) v):=by have:=But.hset (h:=h) (a:=addk a i) (v:=v); rwa [addk_block'] at this
    exact h1.trans (But.hputs vs (i+1) _)
theorem Own.hset {h:Heap} {b:Nat} {xs:List Value} {e:TypeId} (ho:Own h b xs e) (i:Nat) (v:Value):Own (hset h ⟨b,i,none⟩ v) b (xs.set i v) e:=by
  unfold Own VC.hset at *
  rw [Array.getElem?_modify,if_pos rfl,ho]
  simp
theorem Own.hputs {b o:Nat} {e:TypeId}:∀ (vs:List Value) (i:Nat) (h:Heap) (xs:List Value),Own h b xs e->o+i+vs.length<=xs.length->Own (hputs h ⟨b,o,none⟩ i vs) b (splice xs (o+i) vs) e
  | [],i,h,xs,ho,hl=>by simp only [VC.hputs,splice]; simpa using ho
  | v::vs,i,h,xs,ho,hl=>by
    simp only [Yyj] at hl
    have h1:=ho.hset (o+i) v
    have h2:=Own.hputs vs (i+1) _ _ h1 (show o+(i+1)+vs.length<=(xs.set (o+i) v).length by simp; omega)
    simp only [VC.hputs,addk_at]
    have:=set_fold o (v::vs) i xs (by simp; omega)
    have h3:=set_fold o vs (i+1) (xs.set (o+i) v) (by simp; omega)
    rw [List.zipIdx_cons,List.foldl_cons] at this
    simp only [] at this
    rw [show (Array.mk xs).setIfInBounds (o+i) v=⟨xs.set (o+i) v⟩ by simp,h3] at this
    have e1:splice (xs.set (o+i) v) (o+(i+1)) vs=splice xs (o+i) (v::vs):=by simpa using this
    rw [<- e1]; exact h2
theorem Ext.of_but {b:Nat} {h h':Heap} {n:Nat} (hb:But b h h') (hn:n<=b):∀ k,k<n->h'[k]?=h[k]?:=fun k hk=>hb.2 k (by omega)
end Go.VC
end
