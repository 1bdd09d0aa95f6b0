/- VcClr. -/
import Derived.Test.YtnfkibjnkiojnaaGreatDoorM06
import Derived.Test.YtnfkibjnkiojnaaGreatDoorM01
set_option linter.unusedVariables false
set_option linter.unusedSimpArgs false
set_option maxRecDepth 100000

section
/- For every program: the rest of a slice read al a slice; clear of the rest of a slice of the call's own; a copy of cells. -/
namespace Go.VC
open Go.RowKit
theorem subA_some {b o i c k:Nat} (h:i<c):subA (some ⟨b,o,none⟩) i c k=some ⟨b,o+i*k,none⟩:=by
  unfold subA
  rw [if_neg (by omega)]
  show some ((⟨b,o,none⟩:Addr).add (i*k))=_
  rw [show (⟨b,o,none⟩:Addr).add (i*k)=⟨b,o+i*k,none⟩ from add_n _ _ _]
theorem Rw.from {h:Heap} {k:Nat} {s:Sl} {rows:List (List Value)} (hr:Rw h k s rows) {i:Nat} (hc:s.n<=s.c) (hi:i<s.n):Rw h k ⟨subA s.a i s.c k,s.n - i,s.c - i⟩ (rows.drop i):=by
  obtain ⟨h1,h2⟩:=hr
  refine ⟨by rw [List.length_drop]; show s.n - i=_; omega,fun _=>?_⟩
  obtain ⟨b,o,ha,hat⟩:=h2 (by omega)
  refine ⟨b,o+i*k,by rw [ha]; exact subA_some (by omega),fun j row hj=>?_⟩
  rw [List.getElem?_drop] at hj
  have:=hat (i+j) row hj
  rw [Nat.add_mul,<- Nat.add_assoc] at this
  exact this
theorem zeroCells_len (z:Array Value) (n:Nat):(Builtin.zeroCells z n).toList.length=n*z.size:=by
  simp [Builtin.zeroCells]
theorem zeroCells_mem {z:Array Value} {n:Nat} {v:Value} (h:v ∈ (Builtin.zeroCells z n).toList) (hz:0<z.size):v ∈ z.toList:=by
  simp only [Builtin.zeroCells] at h
  simp only [Array.mem_toList_iff,Array.mem_map] at h
  obtain ⟨i,_,rfl⟩:=h
  rw [getElem!_pos z _ (Nat.mod_lt _ hz)]
  simp
theorem St.clear {P:Program} {h0 h:Heap} {L:List It} (hs:St h0 h L) (k:Nat) {s:Sl} {e:TypeId} {n:Nat} {rows:List (List Value)} (hk:L[k]?=some (.sl s e n rows)) (hn:0<n) (i:Nat) (hi:i<=s.n) {t ty e2:TypeId} {z:Value}
    (hu:P.underlying t=some (.slice e2)) (hz:∀ w,(zeroValue e2).run P w=.ok z w) (hzn:z.cells.size=n) (hz1:z.cells.toList.all oneB=true) {K:Value->Heap->Prop}
    (hK:∀ v h',St h0 h' (L.set k (.sl ⟨s.a,i,s.c⟩ e n (rows.take i)))->K v h'):RunW P (Builtin.clear_ #[t] ty #[.slice (subA s.a i s.c n) (s.n - i) (s.c - i)]) h K:=by
  intro w hw
  subst hw
  have hget:=hs.get hk
  have hln:=(hs.rw k hk hn).1
  have hcap:=hget.1.cap
  by_cases hin:i=s.n
  · refine ⟨.tuple #[],w,?_,hK _ _ ?_,rfl,rfl,rfl⟩
    · rw [show s.n - i=0 by omega]
      cases subA s.a i s.c n <;> simp [Builtin.clear_,run_underlying hu]
    · have e1:rows.take i=rows:=Yj (by omega)
      have e2:(⟨s.a,i,s.c⟩:Sl)=s:=by rw [hin]
      rw [e1,e2]
      obtain ⟨a,b⟩:=Ya.1 hk
      rw [<- b,List.set_getElem_self a]; exact hs
  · have hlt:i<s.n:=by omega
    rcases hget.1.2 with ⟨_,hn0,_⟩ | ⟨g,cur,ha,hb0,hh,hnc,hcm,hsz,htk⟩
    · omega
    · have hm:(s.n - i)*n+i*n=s.n*n:=by rw [<- Nat.add_mul]; congr 1; omega
      have hmc:s.n*n<=s.c*n:=Nat.mul_le_mul_right _ hnc
      have hsub:subA s.a i s.c n=some ⟨g,0+i*n,none⟩:=by rw [ha]; exact subA_some (by omega)
      have hlen:=zeroCells_len z.cells (s.n - i)
      rw [hzn] at hlen
      have hone:(Builtin.zeroCells z.cells (s.n - i)).toList.all oneB=true:=by
        rw [List.all_eq_true] at hz1 ⊢
        exact fun v hv=>hz1 v (zeroCells_mem hv (by omega))
      have hown:Own w.heap g cur.toList e:=by unfold Own; rw [hh]
      have hok:=hown.okAt (o:=0+i*n) (n:=(Builtin.zeroCells z.cells (s.n - i)).toList.length) (by rw [hlen]; simp; omega)
      obtain ⟨w',hr,hh',hf⟩:=storeCells_run (P:=P) (a:=⟨g,0+i*n,none⟩) (Builtin.zeroCells z.cells (s.n - i)).toList 0 w hone (fun j hj=>by rw [show 0+j=j from Nat.zero_add j]; exact hok j hj)
      have hown':=Own.hputs (o:=0+i*n) (Builtin.zeroCells z.cells (s.n - i)).toList 0 w.heap cur.toList hown (by rw [hlen]; simp; omega)
      have hbut:=But.hputs (a:=⟨g,0+i*n,none⟩) (Builtin.zeroCells z.cells (s.n - i)).toList 0 w.heap
      rw [<- hh'] at hown' hbut
      refine ⟨.tuple #[],w',?_,hK _ _ ?_,hf.1,hf.2.1,hf.2.2.1⟩
      · rw [hsub]
        obtain ⟨m,hm⟩:∃ m,s.n - i=m+1:=⟨s.n - i - 1,by omega⟩
        rw [hm] at hr ⊢
        simp only [Nat.zero_add] at hr
        simp [Builtin.clear_,run_underlying hu,hz,hr]
      · refine hs.turn hk (by rw [hbut.1]; exact Yyt _) (j:=.sl ⟨s.a,i,s.c⟩ e n (rows.take i)) ?_ (fun b hb=>.inr hb) (fun b hb hne=>hbut.2 b fun e=>hne (by subst e; show s.a.map (·.block)=_; rw [ha]; rfl))
        have hrl:∀ r ∈ rows.take i,r.length=n:=fun r hr=>hget.2 r (List.mem_of_mem_take hr)
        refine ⟨⟨by rw [flatten_len _ hrl,Yu]; show min i rows.length*n=i*n; rw [Nat.min_eq_left (by omega)],.inr ⟨g,_,ha,Nat.zero_le _,hown',by show i<=s.c; omega,hcm,?_,?_⟩⟩,hrl⟩
        · show (splice _ _ _).length=s.c*n
          rw [<- hsz]
          have:0+i*n+0+(Builtin.zeroCells z.cells (s.n - i)).toList.length<=cur.toList.length:=by rw [hlen]; simp; omega
          unfold splice
          simp only [Yh,Yu,List.length_drop,Array.length_toList] at this ⊢
          omega
        · show (splice cur.toList (0+i*n+0) _).take (i*n)=_
          have h3:(rows.take i).flatten=rows.flatten.take (i*n):=by
            have h5:rows=rows.take i++rows.drop i:=(List.take_append_drop i rows).symm
            rw [congrArg List.flatten h5,List.flatten_append,Yyq (by rw [flatten_len _ hrl,Yu,Nat.min_eq_left (by omega)]; exact Yyt _)]
            rw [Yj (l:=(rows.take i).flatten) (by rw [flatten_len _ hrl,Yu,Nat.min_eq_left (by omega)]; exact Yyt _)]
          rw [h3,<- htk,List.take_take,Nat.min_eq_left (by omega)]
          unfold splice
          rw [Yz,Yyq (by rw [Yu,Array.length_toList]; omega),List.take_take,Nat.min_eq_left (by omega)]
theorem Cpy_row {P:Program} {t u e:TypeId} (hu:P.underlying t=some (.slice e)) (hs:(P.info? e).map (·.size)=some 1) {h:Heap} {b o dLen dCap:Nat} {xs:List Value} {ty:TypeId} (ho:Own h b xs ty)
    {g2 o2 sLen sCap:Nat} {l:List Value} (hn:l.length=min sLen dLen) (hsrc:∀ (j:Nat) (c:Value),l[j]?=some c->hc h ⟨g2,o2+j,none⟩=some c) (hfit:o+l.length<=xs.length) (h1:∀ v ∈ l,v.oneCell'=true)
    {K:Int->Heap->Prop} (hK:∀ h',But b h h'->Own h' b (splice xs o l) ty->K l.length h') :
    Cpy P t u (.slice (some ⟨b,o,none⟩) dLen dCap) (.slice (some ⟨g2,o2,none⟩) sLen sCap) h K:=by
  intro ty' w hw
  subst hw
  have hrun:=run_copy_row (P:=P) w t u ty' e b o dLen dCap ⟨g2,o2,none⟩ sLen sCap ⟨xs⟩ ty l hu hs ho hn
    (fun j v hj=>by
      have e:(⟨g2,o2,none⟩:Addr).add j=⟨g2,o2+j,none⟩:=add_n _ _ _
      rw [e]; exact hsrc j v hj)
    (by simp; omega) h1
  obtain ⟨h2,h3⟩:=setRow_own (ys:=splice xs o l) ho
  exact ⟨_,_,hrun,⟨l.length,rfl,hK _ h3 h2⟩,rfl,rfl,rfl⟩
end Go.VC
end
