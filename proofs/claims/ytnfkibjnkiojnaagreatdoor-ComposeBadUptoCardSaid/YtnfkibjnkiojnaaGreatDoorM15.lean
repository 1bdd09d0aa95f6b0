/- TkLi0 TkLi TkStub TkB TkC TkD TkE TkF TkG TkH TkRp. -/
import Derived.Test.YtnfkibjnkiojnaaGreatDoorM05
import Derived.Test.YtnfkibjnkiojnaaGreatDoorM07
import Derived.Lib.TrailingZeros
import Derived.Test.YtnfkibjnkiojnaaGreatDoorM01
import Derived.Test.YtnfkibjnkiojnaaGreatDoorM14
import Derived.Test.YtnfkibjnkiojnaaGreatDoorM11
import Derived.Maps.AppendAt
import Derived.Test.YtnfkibjnkiojnaaGreatDoorM13
import Derived.Test.YtnfkibjnkiojnaaGreatDoorM06
set_option linter.unusedVariables false
set_option linter.unusedSimpArgs false
set_option maxRecDepth 100000

section
/- The members of a set in order: word by word, bit by bit. -/
namespace Go.VC
def bitsL (w:Nat):List Nat:=(List.range 64).filter fun j=>w.testBit j
theorem filter_first {f g:Nat->Bool} {k:Nat} (h1:∀ j,j<k->f j=false/\g j=false) (h2:f k=true) (h3:g k=false) (h4:∀ j,k<j->f j=g j):∀ d:Nat,(List.range (k+1+d)).filter f=k::(List.range (k+1+d)).filter g
 | 0=>by
  have e1:(List.range k).filter f=[]:=List.filter_eq_nil_iff.2 fun j hj=>by rw [(h1 j (List.mem_range.1 hj)).1]; simp
  have e2:(List.range k).filter g=[]:=List.filter_eq_nil_iff.2 fun j hj=>by rw [(h1 j (List.mem_range.1 hj)).2]; simp
  rw [Nat.add_zero,List.range_succ,List.filter_append,List.filter_append,e1,e2]
  simp [h2,h3]
 | d+1=>by
  have ih:=filter_first h1 h2 h3 h4 d
  rw [<- Nat.add_assoc,List.range_succ,List.filter_append,List.filter_append,ih,List.cons_append]
  congr 2
  simp only [List.filter_cons,List.filter_nil,h4 (k+1+d) (by omega)]
theorem bits_step {w:Nat} (h0:w ≠ 0) (h1:w<2 ^ 64):bitsL w=Lib.ctz 64 w::bitsL (w &&& (w - 1)):=by
 obtain ⟨m,hm,hk⟩:=Lib.ctzFrom_spec 64 w (by omega) h1
 have hc:Lib.ctz 64 w=Lib.ctzFrom 64 w:=by unfold Lib.ctz; rw [if_neg h0]
 rw [hc]
 generalize Lib.ctzFrom 64 w=k at hm hk ⊢
 have hp:0<2 ^ k:=Nat.two_pow_pos k
 have hw1:w - 1=2 ^ k*(2*m)+(2 ^ k - 1):=by rw [hm,Nat.mul_add]; omega
 have tb:∀ j,w.testBit j=if j<k then false else (2*m+1).testBit (j - k):=by
  intro j
  have e:w=(2*m+1) <<< k:=by rw [Nat.shiftLeft_eq,Nat.mul_comm]; exact hm
  rw [e,Nat.testBit_shiftLeft]
  by_cases hj:j<k
  ·
   rw [if_pos hj]; simp; omega
  ·
   rw [if_neg hj]; simp; omega
 have tb1:∀ j,(w - 1).testBit j=if j<k then true else (2*m).testBit (j - k):=by
  intro j
  rw [hw1,Nat.testBit_two_pow_mul_add _ (by omega)]
  by_cases hj:j<k
  ·
   rw [if_pos hj,if_pos hj,Nat.testBit_two_pow_sub_one]; simpa using hj
  ·
   rw [if_neg hj,if_neg hj]
 have odd:∀ i,0<i->(2*m+1).testBit i=(2*m).testBit i:=by
  intro i hi
  obtain ⟨i,rfl⟩:∃ i',i=i'+1:=⟨i - 1,by omega⟩
  rw [Nat.testBit_succ,Nat.testBit_succ]
  congr 1
  omega
 have e:=filter_first (f:=fun j=>w.testBit j) (g:=fun j=>(w &&& (w - 1)).testBit j) (k:=k) (fun j hj=>by
   have h2:=tb j
   rw [if_pos hj] at h2
   exact ⟨h2,by rw [Nat.testBit_and,h2]; rfl⟩)
  (by show w.testBit k=true; rw [tb,if_neg (by omega),Nat.sub_self]; simp [Nat.testBit_zero])
  (by show (w &&& (w - 1)).testBit k=false; rw [Nat.testBit_and,tb1,if_neg (by omega),Nat.sub_self]; simp [Nat.testBit_zero])
  (fun j hj=>by
   show w.testBit j=(w &&& (w - 1)).testBit j
   rw [Nat.testBit_and,tb,tb1,if_neg (by omega),if_neg (by omega),odd _ (by omega),Bool.and_self]) (63 - k)
 rw [show k+1+(63 - k)=64 by omega] at e
 exact e
theorem and_pred_lt {w:Nat} (h0:w ≠ 0):w &&& (w - 1)<w:=Nat.lt_of_le_of_lt Nat.and_le_right (by omega)
theorem range_flat (p:Nat->Bool):∀ n:Nat,(List.range (64*n)).filter p=(List.range n).flatMap fun i=>((List.range 64).filter fun j=>p (64*i+j)).map (64*i + ·)
 | 0=>rfl
 | n+1=>by
  rw [show 64*(n+1)=64*n+64 by omega,List.range_add,List.filter_append,range_flat p n,List.range_succ (n:=n),List.flatMap_append,List.flatMap_singleton,List.filter_map]
  rfl
theorem flat_tail (f:Nat->List Nat) {n:Nat} (h:∀ i,n<=i->f i=[]):∀ d:Nat,(List.range (n+d)).flatMap f=(List.range n).flatMap f
 | 0=>rfl
 | d+1=>by rw [<- Nat.add_assoc,List.range_succ,List.flatMap_append,flat_tail f h d,List.flatMap_singleton,h _ (by omega),Yw]
def wordsL (ws:List Nat) (n:Nat):List Nat:=(List.range n).flatMap fun i=>(bitsL (ws.getD i 0)).map (64*i + ·)
theorem wordsL_succ (ws:List Nat) (n:Nat):wordsL ws (n+1)=wordsL ws n++(bitsL (ws.getD n 0)).map (64*n + ·):=by
 unfold wordsL; rw [List.range_succ,List.flatMap_append,List.flatMap_singleton]
theorem elems_words {p:Nat->Bool} {ws:List Nat} (hl:ws.length<=64) (hm:∀ k,memB ws k=p k):elems p=wordsL ws ws.length:=by
 unfold elems
 rw [show 4096=64*64 from rfl,range_flat]
 have e:∀ i,(((List.range 64).filter fun j=>p (64*i+j)).map (64*i + ·))=(bitsL (ws.getD i 0)).map (64*i + ·):=by
  intro i
  congr 1
  unfold bitsL
  apply List.filter_congr
  intro j hj
  have hj:=List.mem_range.1 hj
  rw [<- hm]
  unfold memB
  rw [show (64*i+j) / 64=i by omega,show (64*i+j) % 64=j by omega]
 simp only [e]
 have:=flat_tail (fun i=>(bitsL (ws.getD i 0)).map (64*i + ·)) (n:=ws.length) (fun i hi=>by
  rw [Yo,Yl (by omega),Option.getD_none]
  have:bitsL 0=[]:=by unfold bitsL; exact List.filter_eq_nil_iff.2 fun j _=>by simp
  rw [this]; rfl) (64 - ws.length)
 rw [show ws.length+(64 - ws.length)=64 by omega] at this
 exact this
end Go.VC
end

section
/- Contract: bits.List, a range over the method all. -/
namespace Go.VC
open Go.Proofs Go.LexS Go.Shelf Go.RowKit
attribute [local go_sem] Oper.semAt_some
theorem tz141 (x:Nat) (hx:x<18446744073709551616) (w:World) (hT:TabAt 0 Lib.deBruijn64tab w):CallsIn Fence.wide 1 Pz 268 #[.int .u64 x] w fun e w'=>e=.returned (.int .i64 (Lib.ctz 64 x))/\w'=w:=
 callsIn_wide.2 (Any7.bits_TrailingZeros64 Tryz.lays7_29 x hx w fun _=>hT)
theorem and_nat {w:Nat} (h0:w ≠ 0) (hw:w<2 ^ 64):bits BinOp.and IntKind.u64 (w:Int) ((w:Int) - 1)=((w &&& (w - 1):Nat):Int):=by
 have e1:((w:Int) - 1)=((w - 1:Nat):Int):=by omega
 rw [e1]
 show IntKind.u64.wrap ((BitVec.ofInt 64 (w:Int) &&& BitVec.ofInt 64 ((w - 1:Nat):Int)).toNat:Int)=_
 have ha:(BitVec.ofInt 64 (w:Int) &&& BitVec.ofInt 64 ((w - 1:Nat):Int)).toNat=w &&& (w - 1):=by
  rw [BitVec.toNat_and]
  congr 1
  ·
   simp [BitVec.toNat_ofInt]; omega
  ·
   simp [BitVec.toNat_ofInt]; omega
 rw [ha]
 have hlt:w &&& (w - 1)<2 ^ 64:=Nat.lt_of_le_of_lt Nat.and_le_left hw
 exact wu64 (by omega) (by omega)
theorem wordsL_pre (ws:List Nat) {k n:Nat} (h:k<=n):wordsL ws k <+: wordsL ws n:=by
 obtain ⟨d,rfl⟩:∃ d,n=k+d:=⟨n - k,by omega⟩
 unfold wordsL
 rw [List.range_add,List.flatMap_append]
 exact List.prefix_append _ _
set_option maxRecDepth 100000 in
set_option maxHeartbeats 4000000 in
theorem all90_some (b off len cap:Nat) (ws:List Nat) (hl:ws.length=len) (h64:len<=64) (hw:∀ x ∈ ws,x<2 ^ 64) (n₀:Nat) (hb:b<n₀) (hg0:0<n₀) (l:Nat) (J:List Nat->World->Prop)
  (hY:∀ pre x W1,J pre W1->pre++[x] <+: wordsL ws len->YieldAt Fence.wide 1 Pz l #[.int .i64 (x:Nat)] W1 fun e W'=>e=.returned (.bool true)/\J (pre++[x]) W'/\Below n₀ W1 W')
  (W:World) (hc:∀ j,j<len->W.cell? ⟨b,off+j,none⟩=some (.int .u64 (ws.getD j 0:Nat))) (hT:TabAt 0 Lib.deBruijn64tab W) (h0:J [] W) :
  CallsIn Fence.wide 2 Pz 219 #[.slice (some ⟨b,off,none⟩) len cap,.func (.yield l) #[] #[]] W fun e W'=>(∃ v,e=.returned v)/\J (wordsL ws len) W':=by
 refine callsIn_of_wp Tryz.func219 rfl trivial ?_ rfl
 simp only [Tryz.ntmps219,List.size_toArray,Yyj,List.length_nil,Nat.reduceAdd,Nat.reduceSub,Array.replicate_succ,Array.replicate_zero,List.push_toArray,List.append_toArray,List.nil_append,List.cons_append]
 gi_wp2
 gi_loopw [9] (fun i wr=>∃ k:Nat,k<=len/\i=.int .i64 k/\J (wordsL ws k) wr/\Below n₀ W wr)
  (fun i _=>len - (Proofs.intOf i).toNat)
 case atStart=>exact ⟨0,Nat.zero_le _,rfl,h0,Below.refl _ _⟩
 case round=>
  obtain ⟨k,hk,rfl,hJs,hnx⟩:=hrel
  by_cases hlt:k<len
  ·
   have hcx:wr.cell? ⟨b,off+k,none⟩=some (.int .u64 (ws.getD k 0:Nat)):=(hnx.cell (p:=⟨b,off+k,none⟩) hb).trans (hc k hlt)
   have hkl:k<ws.length:=by omega
   have hgd:ws.getD k 0=ws[k]:=by rw [Yo,Yi hkl,Option.getD_some]
   rw [hgd] at hcx
   have hwk:ws[k]<2 ^ 64:=hw _ (List.getElem_mem hkl)
   have hsuc:wordsL ws (k+1)=wordsL ws k++(bitsL ws[k]).map (64*k + ·):=by rw [wordsL_succ,hgd]
   have hpre:wordsL ws (k+1) <+: wordsL ws len:=wordsL_pre ws (by omega)
   generalize ws[k]=wk at hcx hwk hsuc
   gi_wp2
   have hd:decide ((k:Int)<min (len:Int) 64)=true:=decide_eq_true (by omega)
   simp only [hd]
   gi_loopw [5] (fun c wr'=>∃ (cur:Nat) (dn:List Nat),c=.int .u64 cur/\cur<2 ^ 64/\dn++bitsL cur=bitsL wk/\J (wordsL ws k++dn.map (64*k + ·)) wr'/\Below n₀ W wr') (fun c _=>(Proofs.intOf c).toNat)
   case atStart=>exact ⟨wk,[],rfl,hwk,rfl,by simpa using hJs,hnx⟩
   case round=>
    obtain ⟨cur,dn,rfl,hcw,hdn,hJc,hnc⟩:=hrel
    by_cases hz:cur=0
    ·
     subst hz
     have hdn':dn=bitsL wk:=by rw [<- hdn]; unfold bitsL; simp
     gi_wp2
     refine ⟨⟨k+1,by omega,by simp,by rw [hsuc,<- hdn']; exact hJc,hnc⟩,?_⟩
     simp [Proofs.intOf]; omega
    ·
     have hst:=bits_step hz hcw
     have hTc:TabAt 0 Lib.deBruijn64tab wr:=fun j hj=>(hnc.cell (p:=⟨0,j,none⟩) hg0).trans (hT j hj)
     obtain ⟨fn,tmps,assign,body,hy,hR⟩:=hY _ (64*k+Lib.ctz 64 cur) wr hJc (by
      refine List.IsPrefix.trans ?_ hpre
      rw [hsuc,<- hdn,hst,Ym,Yyl]
      exact ⟨(bitsL (cur &&& (cur - 1))).map (64*k + ·),by simp⟩)
     gi_wp2_with (refine ⟨trivial,?_⟩; gi_at_call 268; refine (tz141 cur (by omega) _ hTc).mono ?_; rintro e w' ⟨rfl,rfl⟩)
     have hc64:Lib.ctz 64 cur<64:=by
      unfold Lib.ctz; rw [if_neg hz]; obtain ⟨_,_,h⟩:=Lib.ctzFrom_spec 64 cur (by omega) hcw; exact h
     have hwr:wrap64 (64*(k:Int)+(Lib.ctz 64 cur:Nat))=((64*k+Lib.ctz 64 cur:Nat):Int):=by
      rw [IntWalk.wrap64_in _ (by omega)]; omega
     rw [hwr,hy]
     gi_wp2
     refine hR.mono ?_
     rintro e W999993 ⟨rfl,hJ3,hk3⟩
     gi_wp2
     go_roundw
     case rel=>
      refine ⟨cur &&& (cur - 1),dn++[Lib.ctz 64 cur],by rw [and_nat hz hcw],Nat.lt_of_le_of_lt Nat.and_le_left hcw,?_,?_,hnc.trans hk3⟩
      ·
       rw [Yz,List.singleton_append,<- hst]; exact hdn
      ·
       rw [Ym,<- Yz]; exact hJ3
     case measure=>
      rw [and_nat hz hcw]
      simp only [Proofs.intOf,Ys]
      exact and_pred_lt hz
  ·
   obtain rfl:k=len:=by omega
   gi_wp2
   go_end0
   exact ⟨⟨_,rfl⟩,hJs⟩
set_option maxRecDepth 100000 in
set_option maxHeartbeats 4000000 in
theorem all90_zero (p:Option Addr) (cap l:Nat) (J:List Nat->World->Prop) (W:World) (h0:J [] W) :
  CallsIn Fence.wide 2 Pz 219 #[.slice p 0 cap,.func (.yield l) #[] #[]] W fun e W'=>(∃ v,e=.returned v)/\J [] W':=by
 refine callsIn_of_wp Tryz.func219 rfl trivial ?_ rfl
 simp only [Tryz.ntmps219,List.size_toArray,Yyj,List.length_nil,Nat.reduceAdd,Nat.reduceSub,Array.replicate_succ,Array.replicate_zero,List.push_toArray,List.append_toArray,List.nil_append,List.cons_append]
 gi_wp2
 gi_loopw [9] (fun i wr=>i=.int .i64 0/\J [] wr) (fun _ _=>0)
 case atStart=>exact ⟨rfl,h0⟩
 case round=>
  obtain ⟨rfl,hJs⟩:=hrel
  gi_wp2
  go_end0
  exact ⟨⟨_,rfl⟩,hJs⟩
theorem all90_yields {s:Sl} {p:Nat->Bool} {w w0:World} (hs:SetV w.heap s p) (hx:Gx w.heap) (hB:Below w.heap.size w w0):Yields Fence.wide 2 Pz 219 #[.slice s.a s.n s.c] (fun x:Nat=>#[Value.int .i64 (x:Nat)]) w.heap.size (elems p) w0:=by
 intro l J W hW hY hJ
 obtain ⟨ws,hrw,h64,hw,hm⟩:=hs.ex
 rw [elems_words h64 hm] at hY ⊢
 have hn:s.n=ws.length:=hrw.ln
 have hWB:=hB.trans hW
 rcases Nat.eq_zero_or_pos ws.length with h0 | h0
 ·
  have hws:ws=[]:=List.length_eq_zero_iff.1 h0
  subst hws
  rw [hn]
  exact all90_zero s.a s.c l J W hJ
 ·
  obtain ⟨b,o,ha,hat⟩:=hrw.2 (by rw [Yc]; exact h0)
  have hcell:∀ j,j<ws.length->w.cell? ⟨b,o+j,none⟩=some (.int .u64 (ws.getD j 0:Nat)):=by
   intro j hj
   have h1:=hat j (wC (ws.getD j 0)) (by rw [Yd,Yi hj,Yo,Yi hj]; rfl)
   have h2:=h1.hd
   rw [Nat.mul_one] at h2
   exact h2
  have hb:b<w.heap.size:=by
   have h1:=hcell 0 h0
   exact World.block_lt_of_cell? _ _ h1
  have hg0:0<w.heap.size:=by omega
  rw [ha,hn]
  exact all90_some b o ws.length s.c ws rfl h64 hw w.heap.size hb hg0 l J hY W (fun j hj=>(hWB.cell (p:=⟨b,o+j,none⟩) hb).trans (hcell j hj))
   (fun j hj=>(hWB.cell (p:=⟨0,j,none⟩) hg0).trans (hx.t j hj)) hJ
theorem info3L:(Pz.info? 3).map (fun i=>(i.zero,i.size,i.bytes))=some (some (.int .i64 0),1,8):=by kernel_rfl
theorem elems_len (p:Nat->Bool):(elems p).length<=4096:=by
 unfold elems
 exact Yys (List.length_filter_le _ _) (by rw [Yyd]; exact Yyt _)
set_option maxRecDepth 100000 in
set_option maxHeartbeats 4000000 in
theorem list42_in (p:Nat->Bool) (s:Sl) (w:World) (hx:Gx w.heap) (hs:SetV w.heap s p) :
  CallsIn Fence.wide 3 Pz 156 #[.slice s.a s.n s.c] w fun e W'=>∃ v,e=.returned v/\W'.ownsRow w.heap.size 3 1 v (elems p).length ((elems p).map fun n:Nat=>Value.int .i64 (n:Nat))/\Below w.heap.size w W':=by
 obtain ⟨i0,hi,hz0,hz1,hz2⟩:=info_parts info3L
 have hlen:=elems_len p
 refine callsIn_of_wp_marks Tryz.func156 rfl trivial ?_ rfl
 simp only [Tryz.ntmps156,List.size_toArray,Yyj,List.length_nil,Nat.reduceAdd,Nat.reduceSub,Array.replicate_succ,Array.replicate_zero,List.push_toArray,List.append_toArray,List.nil_append,List.cons_append]
 gi_wp2
 have bO:=Boxed.new w 23 (.slice none 0 0)
 have hB0:Below w.heap.size w (w.alloc (.cells #[.slice none 0 0] 23)):=(Below.refl _ w).alloc (Yyt _) _
 refine range_bound (n:=3) rfl (by omega) (gf:=219) (fb:=#[.slice s.a s.n s.c]) rfl trivial (enters_of Tryz.func219 (by kernel_rfl) rfl) (n₀:=w.heap.size) (by simp)
  (all90_yields hs hx hB0) (fun _=>rfl)
  (fun pre W=>(∃ v,Boxed W w.heap.size 23 v/\W.ownsRow w.heap.size 3 1 v pre.length (pre.map fun n:Nat=>Value.int .i64 (n:Nat))/\True)/\Below w.heap.size w W)
  (OwnFrom.and (Own.from (holdsRow_own w.heap.size w.heap.size 23 3 1 (fun pre:List Nat=>pre.length) (fun pre=>pre.map fun n:Nat=>Value.int .i64 (n:Nat)) (fun _ _=>True)) _) (ownFrom_below (Yyt _) (by simp)))
  ⟨⟨_,bO,World.ownsRow_nil _ _ _ _,trivial⟩,hB0⟩
  (fun x=>{ tmps:=#[.slice s.a s.n s.c,undef,.slice none 0 0,.pointer (some ⟨w.heap.size,0,none⟩),.int .i64 (x:Nat),.slice s.a s.n s.c,.func (.func 219) #[.slice s.a s.n s.c] #[],.int .i64 (x:Nat),undef,undef,undef,undef,undef],defers:=[] }) ?assign ?body ?done
 case assign=>
  intro l x W K hK
  gi_wp2
  exact hK
 case body=>
  rintro l pre x W ⟨⟨v,hv,hrow,-⟩,hB⟩ hpre
  have hc:=hv.cell
  have hpl:pre.length<(elems p).length:=by have:=hpre.length_le; simp at this; omega
  gi_wp2_with (gi_at_builtin; refine wpListIn_append_own _ rfl _ _ 23 rfl w.heap.size 3 i0 (.int .i64 0) 1 8 Tryz.underlying23 hi hz0 hz1 hz2 rfl (by decide) _ _ _ rfl (hrow.alloc _) ⟨W.heap.size,0,none⟩ 1 1 [.int .i64 (x:Nat)] rfl rfl (cell_one_new _ _ _) (by simp [Value.oneCell']) (by have:maxLen=9223372036854775807:=rfl; omega) (by omega) (by have:=hB.size; simp; omega) ?_; intro v' w1 hown' hgrow _; obtain ⟨g',cap',rfl⟩:=ownsRow_succ hown'; obtain ⟨hv1,hv2,hr2,hk2,hb2⟩:=hv.appended (by decide) hrow hB.size (Yyt _) hown' hgrow; have hc1:=hv1.cell; have hf1:=hv1.frozen)
  exact ⟨⟨_,hv2,by simpa using hr2⟩,hB.trans hb2⟩
 case done=>
  rintro W ⟨⟨v,hv,hrow,-⟩,hB⟩ hK
  have hc:=hv.cell
  gi_wp2
  refine ⟨by simp,.inl ⟨_,_,rfl,run_takeDeferred hK,?_⟩⟩
  exact ⟨_,results_tmp rfl _ _ _,v,rfl,ownsRow_putObj hrow _ hK rfl,hB.trans (belowK_b (w:=w) (Yyt _) W _ _ _ (by simp) hK rfl rfl)⟩
theorem list42 (p:Nat->Bool) (s:Sl) (h:Heap) (hx:Gx h) (hs:SetV h s p) :
  Fn Pz 156 #[.slice s.a s.n s.c] h fun v h'=>Ext h h'/\∃ r:Sl,v=.slice r.a r.n r.c/\OwnS h' h.size 3 1 r (((elems p).map fun n:Nat=>(n:Int)).map inC).flatten:=by
 intro w hw
 subst hw
 refine (callsIn_wide.1 (list42_in p s w hx hs)).mono ?_
 rintro e w' ⟨v,rfl,hrow,hB⟩
 obtain ⟨r,hr,hn,ho⟩:=OwnS.of_row hrow
 have e1:(((elems p).map fun n:Nat=>(n:Int)).map inC).flatten=(elems p).map fun n:Nat=>Value.int .i64 (n:Nat):=by
  rw [List.map_map]
  induction elems p with
  | nil=>rfl
  | cons a l ih=>rw [Yyl,Yyu,ih]; rfl
 exact ⟨v,rfl,⟨⟨hB.size,fun k hk=>hB.block k hk⟩,r,hr,by rw [e1]; exact ho⟩,hB.os,hB.tape,hB.output,trivial⟩
end Go.VC
end

section
/- Contracts of the library, together. -/
end

section
/- Contracts: paths, declarations. -/
namespace Go.VC
open Go.Proofs Go.LexS

def isPath (l:Nm):Bool:=decide (l.length<=50) && (pieces l).all isWord
theorem fn256 (l:Nm) (h:Heap):Fn Pz 301 #[.string (bs l)] h fun v h'=>v=.bool (!isWord l)/\Ext h h':=by
 apply vc301; unfold W301
 refine (isword132 (bs l) h).mono ?_
 rintro _ h3 ⟨rfl,E⟩
 exact ⟨_,rfl,rfl,E⟩
theorem cal256:callable Pz 301=true:=by kernel_rfl
theorem idx281 (L:List Nm) (s:Sl) (h:Heap) (hr:RL h 1 s nmC L) :
  Fn Pz 333 #[.slice s.a s.n s.c,.func (.func 301) #[] #[]] h fun v h'=>(∃ k:Int,v=.int .i64 k/\decide (k >= 0)=L.any fun x=>!isWord x)/\Ext h h':=by
 apply vc333; unfold W333
 have hn:=hr.ln
 have hm:=hr.sm
 have hs:=St.refl h
 refine up_loopS (n:=s.n) hs (fun i=>∀ (j:Nat) (y:Nm),j<i->L[j]?=some y->(!isWord y)=false) (fun j y hj=>by omega) ?_
 rintro - i h5 hi ⟨hs,hd⟩
 refine sB_intro (fun l=>?_) (fun l=>?_)
 ·
  replace l:=lt_t l
  refine (hr.ext hs.ext).rw.nbI (by omega) (by omega) fun b o d g t=>?_
  replace g:L[i]?=some d:=g
  refine ⟨_,t.hd,?_⟩
  rw [cal256,cond_true]
  refine (fn256 d h5).mono ?_
  rintro _ h11 ⟨rfl,E⟩
  replace hs:=hs.step E
  refine ⟨_,rfl,sB_intro (fun c=>?_) (fun c=>?_)⟩
  ·
   exact ⟨⟨_,rfl,by rw [any_t g (p:=fun x=>!isWord x) c]; exact decide_eq_true (by omega)⟩,hs.ext⟩
  ·
   exact Up.next l (by omega) ⟨hs,scan_next (p:=fun x=>!isWord x) g c hd⟩
 ·
  replace l:=lt_f l
  refine ⟨⟨_,rfl,?_⟩,hs.ext⟩
  rw [any_f (p:=fun x=>!isWord x) fun j x hj=>hd j x (by have:=(Ya.1 hj).1; omega) hj]
  rfl
theorem any254 (L:List Nm) (s:Sl) (h:Heap) (hr:RL h 1 s nmC L) :
  Fn Pz 299 #[.slice s.a s.n s.c,.func (.func 301) #[] #[]] h fun v h'=>v=.bool (L.any fun x=>!isWord x)/\Ext h h':=by
 apply vc299; unfold W299
 refine (idx281 L s h hr).mono ?_
 rintro _ h3 ⟨⟨k,rfl,hk⟩,E⟩
 exact ⟨_,rfl,by rw [hk],E⟩
theorem any_not (L:List Nm):(!(L.any fun x=>!isWord x))=L.all isWord:=by
 induction L with
 | nil=>rfl
 | cons a L ih=>rw [List.any_cons,List.all_cons,<- ih]; cases isWord a <;> simp
theorem path224 (l:Nm) (h:Heap) (hx:Gx h):Fn Pz 252 #[.string (bs l)] h fun v h'=>v=.bool (isPath l)/\Ext h h':=by
 apply vc252; unfold W252
 rw [bs_size]
 refine sBi (fun c=>?_) (fun c=>?_)
 ·
  have hl:l.length<=50:=by omega
  refine (split255 l h hx hl).mono ?_
  rintro _ h3 ⟨E3,s,rfl,hr⟩
  refine ⟨_,rfl,?_⟩
  refine (any254 _ s h3 hr).mono ?_
  rintro _ h6 ⟨rfl,E6⟩
  refine ⟨_,rfl,?_,E3.trans E6⟩
  unfold isPath
  rw [decide_eq_true hl,any_not]; rfl
 ·
  refine ⟨?_,(St.refl h).ext⟩
  unfold isPath
  rw [decide_eq_false (by omega)]; rfl
def allF (L:List Dc):List Fld:=L.flatMap (·.fs)
theorem app130:appB Pz 141 260 4 40=true:=by kernel_rfl
theorem allF_le:∀ (L:List Dc),(∀ d ∈ L,d.fs.length<=1048576)->(allF L).length<=L.length*1048576
 | [],_=>by simp [allF]
 | d::L,h=>by
  have h1:=allF_le L fun x hx=>h x (Yn _ hx)
  have h2:=h d (by simp)
  unfold allF at *
  rw [List.flatMap_cons,Yh,Yyj,Nat.succ_mul]; omega
theorem allF_snoc (L:List Dc) (d:Dc):allF (L++[d])=allF L++d.fs:=by unfold allF; rw [List.flatMap_append,List.flatMap_singleton]
theorem fldrows (L:List Fld):∀ r ∈ L.map Fld.cs,r.length=4:=fun r hr=>by obtain ⟨x,_,rfl⟩:=Yp.1 hr; rfl
theorem one_of {α:Type} {cs:α->List Value} (h:∀ x,(cs x).all oneB=true) (L:List α):(L.map cs).flatten.all oneB=true:=by
 induction L with
 | nil=>rfl
 | cons a L ih=>rw [Yyl,Yyu,List.all_append,h a,ih]; rfl
theorem fields223 (L:List Dc) (s:Sl) (h:Heap) (hL:DL h s L) (h40:L.length<=40) :
  Fn Pz 251 #[.slice s.a s.n s.c] h fun v h'=>Ext h h'/\∃ r:Sl,v=.slice r.a r.n r.c/\OwnS h' h.size 260 4 r ((allF L).map Fld.cs).flatten:=by
 apply vc251; unfold W251
 have hn:=hL.r.ln
 have hs:=(St.refl h).nil_ 260 4
 refine up_loopA (n:=s.n) hs (fun i rows=>rows=(allF (L.take i)).map Fld.cs) rfl ?_
 rintro - i out h6 rows hi hs q
 refine sB_intro (fun l=>?_) (fun l=>?_)
 ·
  replace l:=lt_t l
  refine (hL.ext hs.ext).r.rw.nbI (by omega) (by omega) fun b o d g t=>?_
  replace g:L[i]?=some d:=g
  refine ⟨_,_,_,_,_,t,?_⟩
  refine hs.newput (vs:=d.cs) rfl rfl fun h15 hs=>?_
  refine ⟨_,hs.rd 0 rfl rfl,?_⟩
  have hd:=(hL.i d (Yb g)).pf.ext hs.ext
  have hlen:=(hs.len 1 rfl (by omega)).1
  have h1:=allF_le (L.take i) fun x hx=>(hL.i x (List.mem_of_mem_take hx)).pf.sm
  have h2:=hd.sm
  have h3:=hd.ln
  have h4:(L.take i).length*1048576<=40*1048576:=Nat.mul_le_mul_right _ (by rw [Yu]; omega)
  rw [q,Yc] at hlen
  refine hs.appRw 1 rfl app130 hd.rw (fldrows _) hd.nil (one_of (fun _=>rfl) _) (by omega) (by simp only [maxLen]; omega) fun r h18 hr hs=>?_
  refine UpA.next l (by omega) ⟨_,hs.drop 1,?_⟩
  rw [q,take_snoc g,allF_snoc,Ym]
 ·
  replace l:=lt_f l
  rw [Yj (by omega)] at q
  have:=hs.give 0 rfl
  rw [q] at this
  exact ⟨hs.ext,out,rfl,this⟩
end Go.VC
end

section
/- Contracts: declarations, guards. -/
namespace Go.VC
open Go.Proofs Go.LexS

theorem cal226:callable Pz 254=true:=by kernel_rfl
theorem cal229:callable Pz 257=true:=by kernel_rfl
theorem bsEq (a b:Nm):(ByteArray.toList (bs a) == ByteArray.toList (bs b))=decide (a=b):=strEq _ _
theorem fn226 (d:Dc) (n:Nm) (c:Addr) (h:Heap) (hc0:hc h c=some (.string (bs n))):Fn Pz 254 #[.agg ⟨d.cs⟩,.pointer (some c)] h fun v h'=>v=.bool (decide (d.nm=n))/\Ext h h':=by
 apply vc254 (bs d.nm) d.hf d.first d.hd d.he c; unfold W254
 have hs:=St.refl h
 refine hs.newb fun h6 hs=>?_
 refine ⟨_,hs.rd 0 rfl rfl,_,hc_ext hs.ext hc0,?_⟩
 rw [bsEq]
 exact ⟨rfl,hs.ext⟩
theorem fn229 (d:Fld) (n:Nm) (c:Addr) (h:Heap) (hc0:hc h c=some (.string (bs n))):Fn Pz 257 #[.agg ⟨d.cs⟩,.pointer (some c)] h fun v h'=>v=.bool (decide (d.nm=n))/\Ext h h':=by
 apply vc257 (bs d.nm) d.k d.lo d.hi c; unfold W257
 have hs:=St.refl h
 refine hs.newb fun h6 hs=>?_
 refine ⟨_,hs.rd 0 rfl rfl,_,hc_ext hs.ext hc0,?_⟩
 rw [bsEq]
 exact ⟨rfl,hs.ext⟩
theorem has225 (L:List Dc) (n:Nm) (c:Addr) (s:Sl) (h:Heap) (hr:RL h 5 s Dc.cs L) (hc0:hc h c=some (.string (bs n))) :
  Fn Pz 253 #[.slice s.a s.n s.c,.func (.func 254) #[] #[.pointer (some c)]] h fun v h'=>v=.bool (L.any fun d=>decide (d.nm=n))/\Ext h h':=by
 apply vc253; unfold W253
 have key:Fn Pz 302 #[.slice s.a s.n s.c,.func (.func 254) #[] #[.pointer (some c)]] h fun v h'=>(∃ k:Int,v=.int .i64 k/\decide (k >= 0)=L.any fun d=>decide (d.nm=n))/\Ext h h':=by
  apply vc302; unfold W302
  have hn:=hr.ln
  have hm:=hr.sm
  have hs:=St.refl h
  refine up_loopS (n:=s.n) hs (fun i=>∀ (j:Nat) (y:Dc),j<i->L[j]?=some y->decide (y.nm=n)=false) (fun j y hj=>by omega) ?_
  rintro - i h5 hi ⟨hs,hd⟩
  refine sB_intro (fun l=>?_) (fun l=>?_)
  ·
   replace l:=lt_t l
   refine (hr.ext hs.ext).rw.nbI (by omega) (by omega) fun b o d g t=>?_
   replace g:L[i]?=some d:=g
   refine ⟨_,_,_,_,_,t,?_⟩
   rw [cal226,cond_true]
   refine (fn226 d n c h5 (hc_ext hs.ext hc0)).mono ?_
   rintro _ h11 ⟨rfl,E⟩
   replace hs:=hs.step E
   refine ⟨_,rfl,sB_intro (fun c=>?_) (fun c=>?_)⟩
   ·
    exact ⟨⟨_,rfl,by rw [any_t g (p:=fun d=>decide (d.nm=n)) c]; exact decide_eq_true (by omega)⟩,hs.ext⟩
   ·
    exact Up.next l (by omega) ⟨hs,scan_next (p:=fun d=>decide (d.nm=n)) g c hd⟩
  ·
   replace l:=lt_f l
   refine ⟨⟨_,rfl,?_⟩,hs.ext⟩
   rw [any_f (p:=fun d:Dc=>decide (d.nm=n)) fun j x hj=>hd j x (by have:=(Ya.1 hj).1; omega) hj]
   rfl
 refine key.mono ?_
 rintro _ h3 ⟨⟨k,rfl,hk⟩,E⟩
 exact ⟨_,rfl,by rw [hk],E⟩
theorem has228 (L:List Fld) (n:Nm) (c:Addr) (s:Sl) (h:Heap) (hr:RL h 4 s Fld.cs L) (hc0:hc h c=some (.string (bs n))) :
  Fn Pz 256 #[.slice s.a s.n s.c,.func (.func 257) #[] #[.pointer (some c)]] h fun v h'=>v=.bool (L.any fun d=>decide (d.nm=n))/\Ext h h':=by
 apply vc256; unfold W256
 have key:Fn Pz 303 #[.slice s.a s.n s.c,.func (.func 257) #[] #[.pointer (some c)]] h fun v h'=>(∃ k:Int,v=.int .i64 k/\decide (k >= 0)=L.any fun d=>decide (d.nm=n))/\Ext h h':=by
  apply vc303; unfold W303
  have hn:=hr.ln
  have hm:=hr.sm
  have hs:=St.refl h
  refine up_loopS (n:=s.n) hs (fun i=>∀ (j:Nat) (y:Fld),j<i->L[j]?=some y->decide (y.nm=n)=false) (fun j y hj=>by omega) ?_
  rintro - i h5 hi ⟨hs,hd⟩
  refine sB_intro (fun l=>?_) (fun l=>?_)
  ·
   replace l:=lt_t l
   refine (hr.ext hs.ext).rw.nbI (by omega) (by omega) fun b o d g t=>?_
   replace g:L[i]?=some d:=g
   refine ⟨_,_,_,_,t,?_⟩
   rw [cal229,cond_true]
   refine (fn229 d n c h5 (hc_ext hs.ext hc0)).mono ?_
   rintro _ h11 ⟨rfl,E⟩
   replace hs:=hs.step E
   refine ⟨_,rfl,sB_intro (fun c=>?_) (fun c=>?_)⟩
   ·
    exact ⟨⟨_,rfl,by rw [any_t g (p:=fun d=>decide (d.nm=n)) c]; exact decide_eq_true (by omega)⟩,hs.ext⟩
   ·
    exact Up.next l (by omega) ⟨hs,scan_next (p:=fun d=>decide (d.nm=n)) g c hd⟩
  ·
   replace l:=lt_f l
   refine ⟨⟨_,rfl,?_⟩,hs.ext⟩
   rw [any_f (p:=fun d:Fld=>decide (d.nm=n)) fun j x hj=>hd j x (by have:=(Ya.1 hj).1; omega) hj]
   rfl
 refine key.mono ?_
 rintro _ h3 ⟨⟨k,rfl,hk⟩,E⟩
 exact ⟨_,rfl,by rw [hk],E⟩
def SortS (k lo hi:Int):Prop:=k=1 /\ -1000<=lo/\lo<=hi/\hi<=1000\/k=2/\0<=lo/\lo<=hi/\hi<=40
instance (k lo hi:Int):Decidable (SortS k lo hi):=by unfold SortS; infer_instance
theorem sorted227 (k lo hi:Int) (h:Heap):Fn Pz 255 #[.agg ⟨[.int .i64 k,.int .i64 lo,.int .i64 hi]⟩] h fun v h'=>v=.bool (decide (SortS k lo hi))/\Ext h h':=by
 apply vc255 k lo hi; unfold W255
 have hs:=St.refl h
 refine hs.newb fun h4 hs=>?_
 have E:=hs.ext
 have r0:=hs.rd 0 rfl (i:=0) rfl
 have r1:=hs.rd 0 rfl (i:=1) rfl
 have r2:=hs.rd 0 rfl (i:=2) rfl
 clear hs
 repeat' first
  | refine Exists.intro k (And.intro r0 ?_)
  | refine Exists.intro lo (And.intro r1 ?_)
  | refine Exists.intro hi (And.intro r2 ?_)
  | refine sBi (fun _=>?_) (fun _=>?_)
  | refine sBe (fun _=>?_) (fun _=>?_)
 all_goals
  refine ⟨?_,E⟩
  clear r0 r1 r2 E
  congr 1
  rw [Bool.eq_iff_iff]
  simp only [decide_eq_true_eq,Bool.false_eq_true,false_iff]
  unfold SortS
  omega
def TextS (all:List Fld) (x:Int):Prop:=0<=x/\∃ f,all[x.toNat]?=some f/\f.k=2
structure GuardS (all:List Fld) (ds:List Df) (es:List Eqs):Prop where
 nd:ds.length<=20
 ne:es.length<=20
 d:∀ x ∈ ds,-1<=min x.x x.y/\max x.x x.y<all.length /\ -20000<=x.c/\x.c<=20000
 e:∀ x ∈ es,TextS all x.x/\TextS all x.y
noncomputable instance (all:List Fld) (ds:List Df) (es:List Eqs):Decidable (GuardS all ds es):=Classical.propDecidable _
theorem two_at {x y:Int} {i:Nat} (hi:i<2):List.take 1 (List.drop (Int.toNat (i:Int)*1) ([.int .i64 x,.int .i64 y]:List Value))=[.int .i64 (if i=0 then x else y)]:=by
 rcases i with _ | _ | i
 ·
  rfl
 ·
  rfl
 ·
  omega
theorem guarded230 (all:List Fld) (ds:List Df) (es:List Eqs) (sd se sa:Sl) (h:Heap) (hd:RL h 3 sd Df.cs ds) (he:RL h 2 se Eqs.cs es) (ha:Rw h 4 sa (all.map Fld.cs)) :
  Fn Pz 258 #[.agg ⟨[.slice sd.a sd.n sd.c,.slice se.a se.n se.c]⟩,.slice sa.a sa.n sa.c] h fun v h'=>v=.bool (decide (GuardS all ds es))/\Ext h h':=by
 apply vc258 sd se sa; unfold W258
 have hs:=St.refl h
 have hnd:=hd.ln
 have hne:=he.ln
 have hna:=ha.ln
 refine hs.newb fun h3 hs=>?_
 refine ⟨_,hs.rd 0 rfl rfl,?_⟩
 refine sBi (fun c1=>?_) (fun c1=>?_)
 ·
  exact ⟨dF fun hG=>by have:=hG.nd; omega,hs.ext⟩
 ·
  refine ⟨_,hs.rd 0 rfl rfl,?_⟩
  refine sBi (fun c2=>?_) (fun c2=>?_)
  ·
   exact ⟨dF fun hG=>by have:=hG.ne; omega,hs.ext⟩
  ·
   refine ⟨_,hs.rd 0 rfl rfl,?_⟩
   refine up_loopS (n:=sd.n) hs (fun i=>∀ (j:Nat) (x:Df),j<i->ds[j]?=some x -> -1<=min x.x x.y/\max x.x x.y<all.length /\ -20000<=x.c/\x.c<=20000) (fun j x hj=>by omega) ?_
   rintro - i7 h11 k7 ⟨hs,q7⟩
   refine sB_intro (fun l7=>?_) (fun l7=>?_)
   ·
    have l7:=lt_t l7
    refine (hd.ext hs.ext).rw.nbI (by omega) (by omega) fun b12 o13 d12 g12 t12=>?_
    replace g12:_[i7]?=some d12:=g12
    have hm:=Yb g12
    refine ⟨_,_,_,t12,?_⟩
    refine hs.newput (vs:=d12.cs) rfl rfl fun h18 hs=>?_
    refine ⟨_,hs.rd 0 rfl rfl,?_⟩
    refine ⟨_,hs.rd 0 rfl rfl,?_⟩
    rw [imin_min]
    refine sBi (fun c3=>?_) (fun c3=>?_)
    ·
     exact ⟨dF fun hG=>by have:=hG.d _ hm; omega,hs.ext⟩
    ·
     refine ⟨_,hs.rd 0 rfl rfl,?_⟩
     refine ⟨_,hs.rd 0 rfl rfl,?_⟩
     rw [imax_max]
     refine sBi (fun c4=>?_) (fun c4=>?_)
     ·
      exact ⟨dF fun hG=>by have:=hG.d _ hm; omega,hs.ext⟩
     ·
      refine ⟨_,hs.rd 0 rfl rfl,?_⟩
      refine sBi (fun c5=>?_) (fun c5=>?_)
      ·
       exact ⟨dF fun hG=>by have:=hG.d _ hm; omega,hs.ext⟩
      ·
       refine ⟨_,hs.rd 0 rfl rfl,?_⟩
       refine sBi (fun c6=>?_) (fun c6=>?_)
       ·
        exact ⟨dF fun hG=>by have:=hG.d _ hm; omega,hs.ext⟩
       ·
        refine Up.next l7 (by omega) ⟨hs.drop 1,fun j x hj hx=>?_⟩
        by_cases e:j=i7
        ·
         subst e; rw [g12] at hx; cases hx
         refine ⟨?_,?_,?_,?_⟩ <;> omega
        ·
         exact q7 j x (by omega) hx
   ·
    have l7:=lt_f l7
    have Q7:∀ x ∈ ds,-1<=min x.x x.y/\max x.x x.y<all.length /\ -20000<=x.c/\x.c<=20000:=fun x hx=>by
     obtain ⟨j,hj⟩:=Yf.1 hx
     exact q7 j x (by have:=(Ya.1 hj).1; omega) hj
    clear q7
    refine ⟨_,hs.rd 0 rfl rfl,?_⟩
    refine up_loopS (n:=se.n) hs (fun i=>∀ (j:Nat) (x:Eqs),j<i->es[j]?=some x->TextS all x.x/\TextS all x.y) (fun j x hj=>by omega) ?_
    rintro - i27 h31 k27 ⟨hs,q27⟩
    refine sB_intro (fun l27=>?_) (fun l27=>?_)
    ·
     have l27:=lt_t l27
     refine (he.ext hs.ext).rw.nbI (by omega) (by omega) fun b32 o33 d32 g32 t32=>?_
     replace g32:_[i27]?=some d32:=g32
     have hm:=Yb g32
     refine ⟨_,_,t32,?_⟩
     refine hs.newput (vs:=d32.cs) rfl rfl fun h37 hs=>?_
     refine ⟨_,_,hs.at 0 rfl (n:=2) rfl,?_⟩
     refine up_loopS (n:=2) hs (fun i=>∀ j,j<i->TextS all (if j=0 then d32.x else d32.y)) (fun j hj=>by omega) ?_
     rintro - i40 h44 k40 ⟨hs,q40⟩
     refine sBi (fun c7=>?_) (fun c7=>?_)
     ·
      have l40:i40<2:=by omega
      refine ⟨⟨by omega,by omega⟩,_,two_at l40,?_⟩
      have hx:GuardS all ds es->TextS all (if i40=0 then d32.x else d32.y):=fun hG=>by
       have:=hG.e _ hm
       split
       ·
        exact this.1
       ·
        exact this.2
      generalize hxe:(if i40=0 then d32.x else d32.y)=x at *
      refine sBi (fun c8=>?_) (fun c8=>?_)
      ·
       exact ⟨dF fun hG=>by have:=(hx hG).1; omega,hs.ext⟩
      ·
       refine sBi (fun c9=>?_) (fun c9=>?_)
       ·
        exact ⟨dF fun hG=>by obtain ⟨f,hf,_⟩:=(hx hG).2; have:=(Ya.1 hf).1; omega,hs.ext⟩
       ·
        refine (ha.ext hs.ext).nbI (by omega) (by omega) fun b46 o47 d46 g46 t46=>?_
        refine ⟨_,t46.nth 1 rfl,?_⟩
        refine sBn (fun c10=>?_) (fun c10=>?_)
        ·
         exact ⟨dF fun hG=>by obtain ⟨f,hf,hk⟩:=(hx hG).2; rw [g46] at hf; cases hf; exact c10 hk,hs.ext⟩
        ·
         refine Up.next l40 (by omega) ⟨hs,fun j hj=>?_⟩
         by_cases e:j=i40
         ·
          subst e; rw [hxe]; exact ⟨by omega,d46,g46,c10⟩
         ·
          exact q40 j (by omega)
     ·
      have h0:=q40 0 (by omega)
      have h1:=q40 1 (by omega)
      refine Up.next l27 (by omega) ⟨hs.drop 1,fun j x hj hx=>?_⟩
      by_cases e:j=i27
      ·
       subst e; rw [g32] at hx; cases hx
       exact ⟨h0,h1⟩
      ·
       exact q27 j x (by omega) hx
    ·
     have l27:=lt_f l27
     have Q27:∀ x ∈ es,TextS all x.x/\TextS all x.y:=fun x hx=>by
      obtain ⟨j,hj⟩:=Yf.1 hx
      exact q27 j x (by have:=(Ya.1 hj).1; omega) hj
     exact ⟨dT ⟨by omega,by omega,Q7,Q27⟩,hs.ext⟩
end Go.VC
end

section
/- Contracts: valid declarations. -/
namespace Go.VC
open Go.Proofs Go.LexS

structure FldS (fs:List Fld) (i:Nat) (f:Fld):Prop where
 pw:isWord f.nm=true
 ps:SortS f.k f.lo f.hi
 pd:((fs.take i).any fun x=>decide (x.nm=f.nm))=false
structure DcS (L:List Dc) (i:Nat) (d:Dc):Prop where
 pp:isPath d.nm=true
 pn:d.fs.length<=4
 pf:d.first=((allF (L.take i)).length:Nat)
 pd:((L.take i).any fun x=>decide (x.nm=d.nm))=false
 pfs:∀ k f,d.fs[k]?=some f->FldS d.fs k f
 pg:GuardS (allF L) d.ds d.es
structure DeclS (L:List Dc):Prop where
 pn:L.length<=40
 pv:(allF L).length<=24
 pd:∀ i d,L[i]?=some d->DcS L i d
noncomputable instance (L:List Dc):Decidable (DeclS L):=Classical.propDecidable _
theorem allF_take (L:List Dc) (i:Nat):(allF (L.take i)).length<=(allF L).length:=by
 have:allF L=allF (L.take i)++allF (L.drop i):=by unfold allF; rw [<- List.flatMap_append,List.take_append_drop]
 rw [this,Yh]; omega
theorem bF {b:Bool} (h:(!b)=true):b=false:=by cases b <;> simp_all
theorem bT {b:Bool} (h:(!b)=false):b=true:=by cases b <;> simp_all
theorem valid191 (L:List Dc) (s:Sl) (h:Heap) (hL:DL h s L) (hx:Gx h) :
  Fn Pz 205 #[.slice s.a s.n s.c] h fun v h'=>v=.bool (decide (DeclS L))/\Ext h h':=by
 apply vc205; unfold W205
 have hs:=St.refl h
 have hn:=hL.r.ln
 have hsm:=hL.r.sm
 refine sBi (fun c1=>?_) (fun c1=>?_)
 ·
  exact ⟨dF fun hG=>by have:=hG.pn; omega,hs.ext⟩
 ·
  refine (fields223 L s h hL (by omega)).mono ?_
  rintro _ h3 ⟨E3,x2,rfl,hall⟩
  replace hs:=hs.gift E3 hall (fldrows _)
  have hxn:x2.n=(allF L).length:=(hs.rows 0 rfl (by omega)).ln
  refine ⟨_,rfl,?_⟩
  refine sBi (fun c2=>?_) (fun c2=>?_)
  ·
   exact ⟨dF fun hG=>by have:=hG.pv; omega,hs.ext⟩
  ·
   refine ⟨fun at_7 x_8 h' m=>∃ i:Nat,x_8=i/\m=s.n - i/\i<=s.n/\St h h' [.sl x2 260 4 ((allF L).map Fld.cs)]/\(at_7=((allF (L.take i)).length:Nat))/\∀ j d,j<i->L[j]?=some d->DcS L j d,⟨_,0,rfl,rfl,by omega,hs,rfl,fun j d hj=>by omega⟩,?_⟩
   rintro - _ _ h9 m ⟨i,rfl,rfl,hi,hs,rfl,q⟩
   refine sBi (fun c3=>?_) (fun c3=>?_)
   ·
    have l3:i<s.n:=by omega
    refine (hL.ext hs.ext).r.rw.nbI (by omega) (by omega) fun b10 o11 d10 g10 t10=>?_
    replace g10:_[i]?=some d10:=g10
    have hle:=allF_take L i
    have hd:=hL.i d10 (Yb g10)
    refine ⟨_,_,_,_,_,t10,?_⟩
    refine hs.newput (vs:=d10.cs) rfl rfl fun h18 hs=>?_
    refine ⟨_,hs.rd 0 rfl rfl,?_⟩
    refine (path224 d10.nm h18 (hx.ext hs.ext)).mono ?_
    rintro _ h22 ⟨rfl,Eh22⟩
    replace hs:=hs.step Eh22
    refine ⟨_,rfl,?_⟩
    refine sB_intro (fun c4=>?_) (fun c4=>?_)
    ·
     exact ⟨dF fun hG=>(by have:=(hG.pd i _ g10).pp; rw [bF c4] at this; cases this),hs.ext⟩
    ·
     refine ⟨_,hs.rd 0 rfl rfl,?_⟩
     have hfl:=hd.pf.ln
     refine sBi (fun c5=>?_) (fun c5=>?_)
     ·
      exact ⟨dF fun hG=>by have:=(hG.pd i _ g10).pn; omega,hs.ext⟩
     ·
      refine ⟨_,hs.rd 0 rfl rfl,?_⟩
      refine sBn (fun c6=>?_) (fun c6=>?_)
      ·
       exact ⟨dF fun hG=>c6 (hG.pd i _ g10).pf,hs.ext⟩
      ·
       have hcap:=hL.r.cap
       refine ⟨by omega,?_⟩
       refine (has225 (L.take i) d10.nm _ _ h22 ((hL.r.ext hs.ext).take (by omega)) (hs.rd 0 rfl rfl)).mono ?_
       rintro _ h27 ⟨rfl,Eh27⟩
       replace hs:=hs.step Eh27
       refine ⟨_,rfl,?_⟩
       refine sB_intro (fun c7=>?_) (fun c7=>?_)
       ·
        exact ⟨dF fun hG=>(by have:=(hG.pd i _ g10).pd; rw [c7] at this; cases this),hs.ext⟩
       ·
        refine ⟨_,hs.rd 0 rfl rfl,?_⟩
        refine ⟨_,hs.rd 0 rfl rfl,?_⟩
        refine up_loopS (n:=d10.hf.n) hs (fun k=>∀ (j:Nat) (f:Fld),j<k->d10.fs[j]?=some f->FldS d10.fs j f) (fun j x hj=>by omega) ?_
        rintro - i30 h34 k30 ⟨hs,q30⟩
        refine sB_intro (fun l30=>?_) (fun l30=>?_)
        ·
         have l30:=lt_t l30
         refine (hd.pf.ext hs.ext).rw.nbI (by omega) (by omega) fun b35 o36 d35 g35 t35=>?_
         replace g35:_[i30]?=some d35:=g35
         refine ⟨_,_,_,_,t35,?_⟩
         refine hs.newput (vs:=d35.cs) rfl rfl fun h42 hs=>?_
         refine ⟨_,hs.rd 0 rfl rfl,?_⟩
         refine (isword132 (bs d35.nm) h42).mono ?_
         rintro _ h46 ⟨rfl,Eh46⟩
         replace hs:=hs.step Eh46
         refine ⟨_,rfl,?_⟩
         rw [bs_list]
         refine sB_intro (fun c8=>?_) (fun c8=>?_)
         ·
          exact ⟨dF fun hG=>(by have:=((hG.pd i _ g10).pfs _ _ g35).pw; rw [bF c8] at this; cases this),hs.ext⟩
         ·
          refine ⟨_,_,_,hs.at 0 rfl (n:=3) rfl,?_⟩
          refine (sorted227 d35.k d35.lo d35.hi h46).mono ?_
          rintro _ h52 ⟨rfl,Eh52⟩
          replace hs:=hs.step Eh52
          refine ⟨_,rfl,?_⟩
          refine sB_intro (fun c9=>?_) (fun c9=>?_)
          ·
           exact ⟨dF fun hG=>Yyo (bF c9) ((hG.pd i _ g10).pfs _ _ g35).ps,hs.ext⟩
          ·
           refine ⟨_,hs.rd 1 rfl rfl,?_⟩
           have hcap:=hd.pf.cap
           refine ⟨⟨by omega,by omega,by omega⟩,?_⟩
           refine (has228 (d10.fs.take i30) d35.nm _ _ h52 ((hd.pf.ext hs.ext).take (by omega)) (hs.rd 0 rfl rfl)).mono ?_
           rintro _ h56 ⟨rfl,Eh56⟩
           replace hs:=hs.step Eh56
           refine ⟨_,rfl,?_⟩
           refine sB_intro (fun c10=>?_) (fun c10=>?_)
           ·
            exact ⟨dF fun hG=>(by have:=((hG.pd i _ g10).pfs _ _ g35).pd; rw [c10] at this; cases this),hs.ext⟩
           ·
            refine Up.next l30 (by omega) ⟨hs.drop 1,fun j f hj hf=>?_⟩
            by_cases e:j=i30
            ·
             subst e; rw [g35] at hf; cases hf
             exact ⟨bT c8,Yyn (bT c9),c10⟩
            ·
             exact q30 j f (by omega) hf
        ·
         have l30:=lt_f l30
         have Q30:∀ k f,d10.fs[k]?=some f->FldS d10.fs k f:=fun k f hf=>q30 k f (by have:=(Ya.1 hf).1; omega) hf
         refine ⟨_,_,hs.at 0 rfl (n:=2) rfl,?_⟩
         refine (guarded230 (allF L) d10.ds d10.es d10.hd d10.he x2 h34 (hd.pd.ext hs.ext) (hd.pe.ext hs.ext) (hs.rows 1 rfl (by omega))).mono ?_
         rintro _ h62 ⟨rfl,Eh62⟩
         replace hs:=hs.step Eh62
         refine ⟨_,rfl,?_⟩
         refine sB_intro (fun c11=>?_) (fun c11=>?_)
         ·
          exact ⟨dF fun hG=>Yyo (bF c11) (hG.pd i _ g10).pg,hs.ext⟩
         ·
          refine ⟨_,by omega,i+1,?_,rfl,by omega,hs.drop 1,?_,fun j d hj hd'=>?_⟩
          ·
           rw [w64 (by omega) (by omega)]; omega
          ·
           rw [take_snoc g10,allF_snoc,Yh,w64 (by omega) (by omega)]; omega
          ·
           by_cases e:j=i
           ·
            subst e; rw [g10] at hd'; cases hd'
            exact ⟨bT c4,by omega,c6,c7,Q30,Yyn (bT c11)⟩
           ·
            exact q j d (by omega) hd'
   ·
    exact ⟨dT ⟨by omega,by omega,fun i' d hd=>q i' d (by have:=(Ya.1 hd).1; omega) hd⟩,hs.ext⟩
end Go.VC
end

section
/- Contracts: what an automaton's names, numbers and edges must be. -/
namespace Go.VC
open Go.Proofs Go.LexS

theorem app131:appB Pz 142 351 3 24=true:=by kernel_rfl
theorem dfrows (L:List Df):∀ r ∈ L.map Df.cs,r.length=3:=fun r hr=>by obtain ⟨x,_,rfl⟩:=Yp.1 hr; rfl
theorem bounds192 (d:Dc) (h:Heap) (hd:DI h d) (h4:d.fs.length<=4) (h5:d.ds.length<=20) (h6:d.es.length<=20) :
  Fn Pz 206 #[.agg ⟨d.cs⟩] h fun v h'=>Ext h h'/\∃ s:Sl,v=.slice s.a s.n s.c:=by
 apply vc206 (bs d.nm) d.hf d.first d.hd d.he; unfold W206
 have hs:=St.refl h
 have n1:=hd.pf.ln
 have n2:=hd.pd.ln
 have n3:=hd.pe.ln
 refine hs.newb fun h6 hs=>?_
 refine ⟨_,hs.rd 0 rfl rfl,?_⟩
 refine up_loopA (n:=d.hf.n) (hs.nil_ 351 3) (fun i rows=>rows.length=2*i) rfl ?_
 rintro - i out_11 h13 rows hi hs q
 refine sB_intro (fun l=>?_) (fun l=>?_)
 ·
  replace l:=lt_t l
  refine (hd.pf.ext hs.ext).rw.nbI (by omega) (by omega) fun b14 o15 d14 g14 t14=>?_
  refine ⟨_,_,_,_,t14,?_⟩
  refine hs.newput (vs:=d14.cs) rfl rfl fun h21 hs=>?_
  refine ⟨_,hs.rd 2 rfl rfl,?_⟩
  refine ⟨_,hs.rd 0 rfl rfl,?_⟩
  refine ⟨_,hs.rd 2 rfl rfl,?_⟩
  refine ⟨_,hs.rd 0 rfl rfl,?_⟩
  have hl:=(hs.len 1 rfl (by omega)).1
  refine hs.app 1 rfl app131 (m:=2) [[_,_,_],[_,_,_]] rfl rfl (by simp) rfl (by omega) (by simp only [maxLen]; omega) fun s27 h28 ns27 hs=>?_
  exact UpA.next l (by omega) ⟨_,hs.drop 1,by rw [Yh,q]; rfl⟩
 ·
  replace l:=lt_f l
  refine ⟨_,hs.rd 1 rfl rfl,?_⟩
  have hl:=(hs.len 0 rfl (by omega)).1
  refine hs.appRw 0 rfl app131 (hd.pd.ext hs.ext).rw (dfrows _) hd.pd.nil (one_of (fun _=>rfl) _) (by omega) (by simp only [maxLen]; omega) fun s31 h32 ns31 hs=>?_
  refine ⟨_,hs.rd 1 rfl rfl,?_⟩
  refine up_loopA (n:=d.he.n) hs (fun i rows=>rows.length<=28+2*i) (by rw [Yh,Yc]; omega) ?_
  rintro - i out_37 h39 rows hi hs q
  refine sB_intro (fun l=>?_) (fun l=>?_)
  ·
   replace l:=lt_t l
   refine (hd.pe.ext hs.ext).rw.nbI (by omega) (by omega) fun b40 o41 d40 g40 t40=>?_
   refine ⟨_,_,t40,?_⟩
   refine hs.newput (vs:=d40.cs) rfl rfl fun h45 hs=>?_
   refine ⟨by omega,_,hs.rd 0 rfl (i:=0) rfl,by omega,_,hs.rd 0 rfl (i:=1) rfl,by omega,_,hs.rd 0 rfl (i:=1) rfl,by omega,_,hs.rd 0 rfl (i:=0) rfl,?_⟩
   have hl:=(hs.len 1 rfl (by omega)).1
   refine hs.app 1 rfl app131 (m:=2) [[_,_,_],[_,_,_]] rfl rfl (by simp) rfl (by omega) (by simp only [maxLen]; omega) fun s51 h52 ns51 hs=>?_
   exact UpA.next l (by omega) ⟨_,hs.drop 1,by rw [Yh]; show _+2<=_; omega⟩
  ·
   exact ⟨hs.ext,out_37,rfl⟩
theorem bounds134 (L:List Dc) (s:Sl) (h:Heap) (hL:DL h s L) (hx:Gx h) (hne:L ≠ []) :
  Fn Pz 150 #[.slice s.a s.n s.c,.int .i64 0] h fun v h'=>Ext h h'/\∃ s:Sl,v=.tuple ⟨[.slice s.a s.n s.c,.int .i64 (if DeclS L then 0 else 1)]⟩:=by
 apply vc150; unfold W150
 have hn:=hL.r.ln
 have hpos:0<L.length:=List.length_pos_iff.2 hne
 have hs:=St.refl h
 refine sBi (fun c1=>by omega) (fun c1=>?_)
 refine sBi (fun c2=>by omega) (fun c2=>?_)
 refine (valid191 L s h hL hx).mono ?_
 rintro _ h3 ⟨rfl,Eh3⟩
 replace hs:=hs.step Eh3
 refine ⟨_,rfl,?_⟩
 refine sB_intro (fun c3=>?_) (fun c3=>?_)
 ·
  rw [if_neg (Yyo (bF c3))]
  exact ⟨hs.ext,⟨none,0,0⟩,rfl⟩
 ·
  have hD:=Yyn (bT c3)
  rw [if_pos hD]
  refine (hL.ext hs.ext).r.rw.nbI (by omega) (by omega) fun b4 o5 d4 g4 t4=>?_
  refine ⟨_,_,_,_,_,t4,?_⟩
  have hd:=hD.pd _ _ g4
  refine (bounds192 d4 h3 ((hL.i d4 (Yb g4)).ext hs.ext) hd.pn hd.pg.nd hd.pg.ne).mono ?_
  rintro _ h13 ⟨Eh13,r,rfl⟩
  exact ⟨_,rfl,(hs.step Eh13).ext,r,rfl⟩
theorem declared78 (L:List Dc) (s:Sl) (h:Heap) (hL:DL h s L) (hx:Gx h):Fn Pz 109 #[.slice s.a s.n s.c] h fun v h'=>v=.bool (decide (DeclS L))/\Ext h h':=by
 apply vc109; unfold W109
 have hn:=hL.r.ln
 refine sBe (fun c1=>?_) (fun c1=>?_)
 ·
  have:L=[]:=List.length_eq_zero_iff.1 (by omega)
  subst this
  exact ⟨dT ⟨by simp,by simp [allF],fun i d hd=>by simp at hd⟩,(St.refl h).ext⟩
 ·
  refine (bounds134 L s h hL hx (fun e=>by subst e; simp at hn; omega)).mono ?_
  rintro _ h4 ⟨E,r,rfl⟩
  refine ⟨_,_,rfl,?_,E⟩
  by_cases hD:DeclS L
  ·
   rw [if_pos hD,decide_eq_true hD]; rfl
  ·
   rw [if_neg hD,decide_eq_false hD]; rfl

structure NamedS (g:Gl):Prop where
 w:isWord g.nm=true
 n1:1<=g.rs.length
 n6:g.rs.length<=6
 r:∀ i s,g.rs[i]?=some s->isWord s=true/\s ∉ g.rs.take i
noncomputable instance (g:Gl):Decidable (NamedS g):=Classical.propDecidable _
theorem named76 (g:Gl) (h:Heap) (hg:GI h g):Fn Pz 107 #[g.v] h fun v h'=>v=.bool (decide (NamedS g))/\Ext h h':=by
 apply vc107 (bs g.nm) g.hr g.hd g.n g.s g.e g.he g.ht; unfold W107
 have hs:=St.refl h
 have hn:=hg.r.ln
 have hcap:=hg.r.cap
 refine hs.newb fun h9 hs=>?_
 refine ⟨_,hs.rd 0 rfl rfl,?_⟩
 refine (isword132 _ _).mono ?_
 rintro _ h13 ⟨rfl,Eh13⟩
 replace hs:=hs.step Eh13
 refine ⟨_,rfl,?_⟩
 refine sB_intro (fun c1=>?_) (fun c1=>?_)
 ·
  skip
  exact ⟨dF fun hG=>(by have:=hG.w; rw [show isWord g.nm=false from bF c1] at this; cases this),hs.ext⟩
 ·
  skip
  refine ⟨_,hs.rd 0 rfl rfl,?_⟩
  refine sBi (fun c2=>?_) (fun c2=>?_)
  ·
   skip
   exact ⟨dF fun hG=>(by have:=hG.n1; omega),hs.ext⟩
  ·
   skip
   refine ⟨_,hs.rd 0 rfl rfl,?_⟩
   refine sBi (fun c3=>?_) (fun c3=>?_)
   ·
    skip
    exact ⟨dF fun hG=>(by have:=hG.n6; omega),hs.ext⟩
   ·
    skip
    refine ⟨_,hs.rd 0 rfl rfl,?_⟩
    refine up_loopS (n:=g.hr.n) hs (fun i17=>∀ (j:Nat) (s:Nm),j<i17->g.rs[j]?=some s->isWord s=true/\s ∉ g.rs.take j) (fun j s hj=>by omega) ?_
    rintro - i17 h21 k17 ⟨hs,q17⟩
    refine sB_intro (fun l17=>?_) (fun l17=>?_)
    ·
     have l17:=lt_t l17
     refine ((hg.r.ext hs.ext).rw).nbI (by omega) (by omega) fun b22 o23 d22 g22 t22=>?_
     replace g22:_[i17]?=some d22:=g22
     refine ⟨_,t22.hd,?_⟩
     refine (isword132 _ _).mono ?_
     rintro _ h27 ⟨rfl,Eh27⟩
     replace hs:=hs.step Eh27
     refine ⟨_,rfl,?_⟩
     refine sB_intro (fun c4=>?_) (fun c4=>?_)
     ·
      skip
      exact ⟨dF fun hG=>(by have:=(hG.r _ _ g22).1; rw [show isWord d22=false from bF c4] at this; cases this),hs.ext⟩
     ·
      skip
      refine ⟨_,hs.rd 0 rfl rfl,?_⟩
      refine ⟨by omega,?_⟩
      refine (has133 (g.rs.take i17) (bs d22) ⟨subA g.hr.a (Int.toNat 0) g.hr.c 1,Int.toNat (i17:Int) - Int.toNat 0,g.hr.c - Int.toNat 0⟩ _ ((hg.r.ext hs.ext).take (by omega))).mono ?_
      rintro _ h31 ⟨rfl,rfl⟩
      refine ⟨_,rfl,?_⟩
      refine sB_intro (fun c5=>?_) (fun c5=>?_)
      ·
       skip
       exact ⟨dF fun hG=>(hG.r _ _ g22).2 (Yyn c5),hs.ext⟩
      ·
       skip
       exact Up.next l17 (by omega) ⟨hs,fun j s hj hx=>by by_cases e:j=i17; (subst e; rw [g22] at hx; cases hx; exact ⟨bT c4,Yyo c5⟩); exact q17 j s (by omega) hx⟩
    ·
     have l17:=lt_f l17
     exact ⟨dT ⟨bT c1,by omega,by omega,fun j s hx=>q17 j s (by have:=(Ya.1 hx).1; omega) hx⟩,hs.ext⟩
def EdS (g:Gl) (x:Ed):Prop:=0<=x.f/\0<=x.t/\0<=x.a/\0<=x.b/\0<=x.l/\x.f<g.n/\x.t<g.n/\x.a<g.rs.length/\x.b<g.rs.length/\x.a ≠ x.b/\x.l<g.ds.length
structure NumS (g:Gl):Prop where
 n:1<=g.n/\g.n<=200/\0<=g.s/\0<=g.e/\g.s<g.n/\g.e<g.n
 m:g.es.length<=400
 e:∀ x ∈ g.es,EdS g x
noncomputable instance (g:Gl):Decidable (NumS g):=Classical.propDecidable _
theorem numbered77 (g:Gl) (h:Heap) (hg:GI h g):Fn Pz 108 #[g.v] h fun v h'=>v=.bool (decide (NumS g))/\Ext h h':=by
 apply vc108 (bs g.nm) g.hr g.hd g.n g.s g.e g.he g.ht; unfold W108
 have hs:=St.refl h
 have hn:=hg.e.ln
 have hnr:=hg.r.ln
 have hnd:=hg.d.r.ln
 simp only [imin_min,imax_max]
 refine hs.newb fun h9 hs=>?_
 refine ⟨_,hs.rd 0 rfl rfl,?_⟩
 refine sBi (fun c1=>?_) (fun c1=>?_)
 ·
  skip
  exact ⟨dF fun hG=>(by have:=hG.n; have:=hG.m; first | omega | (have:=hG.e _ (Yb g24); unfold EdS at this; omega)),hs.ext⟩
 ·
  skip
  refine ⟨_,hs.rd 0 rfl rfl,?_⟩
  refine sBi (fun c2=>?_) (fun c2=>?_)
  ·
   skip
   exact ⟨dF fun hG=>(by have:=hG.n; have:=hG.m; first | omega | (have:=hG.e _ (Yb g24); unfold EdS at this; omega)),hs.ext⟩
  ·
   skip
   refine ⟨_,hs.rd 0 rfl rfl,?_⟩
   refine ⟨_,hs.rd 0 rfl rfl,?_⟩
   refine sBi (fun c3=>?_) (fun c3=>?_)
   ·
    skip
    exact ⟨dF fun hG=>(by have:=hG.n; have:=hG.m; first | omega | (have:=hG.e _ (Yb g24); unfold EdS at this; omega)),hs.ext⟩
   ·
    skip
    refine ⟨_,hs.rd 0 rfl rfl,?_⟩
    refine ⟨_,hs.rd 0 rfl rfl,?_⟩
    refine ⟨_,hs.rd 0 rfl rfl,?_⟩
    refine sBi (fun c4=>?_) (fun c4=>?_)
    ·
     skip
     exact ⟨dF fun hG=>(by have:=hG.n; have:=hG.m; first | omega | (have:=hG.e _ (Yb g24); unfold EdS at this; omega)),hs.ext⟩
    ·
     skip
     refine ⟨_,hs.rd 0 rfl rfl,?_⟩
     refine sBi (fun c5=>?_) (fun c5=>?_)
     ·
      skip
      exact ⟨dF fun hG=>(by have:=hG.n; have:=hG.m; first | omega | (have:=hG.e _ (Yb g24); unfold EdS at this; omega)),hs.ext⟩
     ·
      skip
      refine ⟨_,hs.rd 0 rfl rfl,?_⟩
      refine up_loopS (n:=g.he.n) hs (fun i19=>∀ (j:Nat) (x:Ed),j<i19->g.es[j]?=some x->EdS g x) (fun j s hj=>by omega) ?_
      rintro - i19 h23 k19 ⟨hs,q19⟩
      refine sB_intro (fun l19=>?_) (fun l19=>?_)
      ·
       have l19:=lt_t l19
       refine ((hg.e.ext hs.ext).rw).nbI (by omega) (by omega) fun b24 o25 d24 g24 t24=>?_
       replace g24:_[i19]?=some d24:=g24
       refine ⟨_,_,_,_,_,_,t24,?_⟩
       refine hs.newput rfl rfl fun h33 hs=>?_
       refine ⟨_,_,_,hs.at 0 rfl (n:=3) rfl,?_⟩
       refine hs.newput rfl rfl fun h38 hs=>?_
       refine ⟨_,hs.rd 1 rfl rfl,?_⟩
       refine ⟨_,hs.rd 1 rfl rfl,?_⟩
       refine ⟨_,hs.rd 0 rfl rfl,?_⟩
       refine ⟨_,hs.rd 0 rfl rfl,?_⟩
       refine ⟨_,hs.rd 0 rfl rfl,?_⟩
       refine sBi (fun c6=>?_) (fun c6=>?_)
       ·
        skip
        exact ⟨dF fun hG=>(by have:=hG.n; have:=hG.m; first | omega | (have:=hG.e _ (Yb g24); unfold EdS at this; omega)),hs.ext⟩
       ·
        skip
        refine ⟨_,hs.rd 1 rfl rfl,?_⟩
        refine ⟨_,hs.rd 1 rfl rfl,?_⟩
        refine ⟨_,hs.rd 2 rfl rfl,?_⟩
        refine sBi (fun c7=>?_) (fun c7=>?_)
        ·
         skip
         exact ⟨dF fun hG=>(by have:=hG.n; have:=hG.m; first | omega | (have:=hG.e _ (Yb g24); unfold EdS at this; omega)),hs.ext⟩
        ·
         skip
         refine ⟨_,hs.rd 0 rfl rfl,?_⟩
         refine ⟨_,hs.rd 0 rfl rfl,?_⟩
         refine ⟨_,hs.rd 2 rfl rfl,?_⟩
         refine sBi (fun c8=>?_) (fun c8=>?_)
         ·
          skip
          exact ⟨dF fun hG=>(by have:=hG.n; have:=hG.m; first | omega | (have:=hG.e _ (Yb g24); unfold EdS at this; omega)),hs.ext⟩
         ·
          skip
          refine ⟨_,hs.rd 0 rfl rfl,?_⟩
          refine ⟨_,hs.rd 0 rfl rfl,?_⟩
          refine sBe (fun c9=>?_) (fun c9=>?_)
          ·
           skip
           exact ⟨dF fun hG=>(by have:=hG.n; have:=hG.m; first | omega | (have:=hG.e _ (Yb g24); unfold EdS at this; omega)),hs.ext⟩
          ·
           skip
           refine ⟨_,hs.rd 0 rfl rfl,?_⟩
           refine ⟨_,hs.rd 2 rfl rfl,?_⟩
           refine sBi (fun c10=>?_) (fun c10=>?_)
           ·
            skip
            exact ⟨dF fun hG=>(by have:=hG.n; have:=hG.m; first | omega | (have:=hG.e _ (Yb g24); unfold EdS at this; omega)),hs.ext⟩
           ·
            skip
            exact Up.next l19 (by omega) ⟨hs.drop 2,fun j x hj hx=>by by_cases e:j=i19; (subst e; rw [g24] at hx; cases hx; unfold EdS; omega); exact q19 j x (by omega) hx⟩
      ·
       have l19:=lt_f l19
       exact ⟨dT ⟨by omega,by omega,fun x hx=>by obtain ⟨j,hj⟩:=Yf.1 hx; exact q19 j x (by have:=(Ya.1 hj).1; omega) hj⟩,hs.ext⟩
end Go.VC
end

section
/- Contracts: the order of edges, timeouts. -/
namespace Go.VC
open Go.Proofs Go.LexS

def PairBad (i k:Nat) (x y:Ed):Prop:=(i ≠ k/\x.f=y.f/\((x.a=y.a/\x.b=y.b/\x.l=y.l)\/x.a ≠ y.a\/x.ag=true))\/(x.ag=true/\y.t=x.f/\(x.a ≠ y.a\/x.l ≠ y.l))
structure OrdS (g:Gl):Prop where
 e:∀ x ∈ g.es,x.f ≠ g.e
 s:∀ x ∈ g.es,x.ag=true->x.f ≠ g.s
 p:∀ i x,g.es[i]?=some x->∀ k y,g.es[k]?=some y->¬ PairBad i k x y
noncomputable instance (g:Gl):Decidable (OrdS g):=Classical.propDecidable _
set_option maxHeartbeats 1600000 in
theorem ordered79 (g:Gl) (h:Heap) (hg:GI h g):Fn Pz 110 #[g.v] h fun v h'=>v=.bool (decide (OrdS g))/\Ext h h':=by
 apply vc110 (bs g.nm) g.hr g.hd g.n g.s g.e g.he g.ht; unfold W110
 have hs:=St.refl h
 have hn:=hg.e.ln
 have hsm:=hg.e.sm
 refine hs.newb fun h9 hs=>?_
 refine ⟨_,hs.rd 0 rfl rfl,?_⟩
 refine up_loopS (n:=g.he.n) hs (fun i11=>∀ (j:Nat) (x:Ed),j<i11->g.es[j]?=some x->x.f ≠ g.e/\(x.ag=true->x.f ≠ g.s)/\∀ k y,g.es[k]?=some y->¬ PairBad j k x y) (fun j s hj=>by omega) ?_
 rintro - i11 h15 k11 ⟨hs,q11⟩
 refine sB_intro (fun l11=>?_) (fun l11=>?_)
 ·
  have l11:=lt_t l11
  refine ((hg.e.ext hs.ext).rw).nbI (by omega) (by omega) fun b16 o17 d16 g16 t16=>?_
  replace g16:_[i11]?=some d16:=g16
  refine ⟨_,_,_,_,_,_,t16,?_⟩
  refine hs.newput rfl rfl fun h25 hs=>?_
  refine ⟨_,hs.rd 0 rfl rfl,?_⟩
  refine ⟨_,hs.rd 1 rfl rfl,?_⟩
  refine sBe (fun c1=>?_) (fun c1=>?_)
  ·
   skip
   exact ⟨dF fun hG=>(by first | exact hG.e _ (Yb g16) c1 | exact hG.s _ (Yb g16) c2 c3 | (refine hG.p _ _ g16 _ _ g37 ?_; clear hG q11 q32 t37 t16 hs hg; unfold PairBad; grind) | (refine hG.p _ _ g16 _ _ g95 ?_; clear hG q11 q90 t95 t16 hs hg; unfold PairBad; grind)),hs.ext⟩
  ·
   skip
   refine ⟨_,hs.rd 0 rfl rfl,?_⟩
   refine sB_intro (fun c2=>?_) (fun c2=>?_)
   ·
    skip
    refine ⟨_,hs.rd 0 rfl rfl,?_⟩
    refine ⟨_,hs.rd 1 rfl rfl,?_⟩
    refine sBe (fun c3=>?_) (fun c3=>?_)
    ·
     skip
     exact ⟨dF fun hG=>(by first | exact hG.e _ (Yb g16) c1 | exact hG.s _ (Yb g16) c2 c3 | (refine hG.p _ _ g16 _ _ g37 ?_; clear hG q11 q32 t37 t16 hs hg; unfold PairBad; grind) | (refine hG.p _ _ g16 _ _ g95 ?_; clear hG q11 q90 t95 t16 hs hg; unfold PairBad; grind)),hs.ext⟩
    ·
     skip
     refine ⟨_,hs.rd 1 rfl rfl,?_⟩
     refine up_loopS (n:=g.he.n) hs (fun i32=>∀ (k:Nat) (y:Ed),k<i32->g.es[k]?=some y->¬ PairBad i11 k d16 y) (fun j s hj=>by omega) ?_
     rintro - i32 h36 k32 ⟨hs,q32⟩
     refine sB_intro (fun l32=>?_) (fun l32=>?_)
     ·
      have l32:=lt_t l32
      refine ((hg.e.ext hs.ext).rw).nbI (by omega) (by omega) fun b37 o38 d37 g37 t37=>?_
      replace g37:_[i32]?=some d37:=g37
      refine ⟨_,_,_,_,_,_,t37,?_⟩
      refine hs.newput rfl rfl fun h46 hs=>?_
      refine sBn (fun c4=>?_) (fun c4=>?_)
      ·
       skip
       refine ⟨_,hs.rd 1 rfl rfl,?_⟩
       refine ⟨_,hs.rd 0 rfl rfl,?_⟩
       refine sBe (fun c5=>?_) (fun c5=>?_)
       ·
        skip
        refine ⟨_,_,_,hs.at 1 rfl (n:=3) rfl,?_⟩
        refine ⟨_,_,_,hs.at 0 rfl (n:=3) rfl,?_⟩
        refine sB_intro (fun c6=>?_) (fun c6=>?_)
        ·
         skip
         exact ⟨dF fun hG=>(by first | exact hG.e _ (Yb g16) c1 | exact hG.s _ (Yb g16) c2 c3 | (refine hG.p _ _ g16 _ _ g37 ?_; clear hG q11 q32 t37 t16 hs hg; unfold PairBad; grind) | (refine hG.p _ _ g16 _ _ g95 ?_; clear hG q11 q90 t95 t16 hs hg; unfold PairBad; grind)),hs.ext⟩
        ·
         skip
         refine ⟨_,hs.rd 1 rfl rfl,?_⟩
         refine ⟨_,hs.rd 0 rfl rfl,?_⟩
         refine sBn (fun c7=>?_) (fun c7=>?_)
         ·
          skip
          exact ⟨dF fun hG=>(by first | exact hG.e _ (Yb g16) c1 | exact hG.s _ (Yb g16) c2 c3 | (refine hG.p _ _ g16 _ _ g37 ?_; clear hG q11 q32 t37 t16 hs hg; unfold PairBad; grind) | (refine hG.p _ _ g16 _ _ g95 ?_; clear hG q11 q90 t95 t16 hs hg; unfold PairBad; grind)),hs.ext⟩
         ·
          skip
          refine ⟨_,hs.rd 1 rfl rfl,?_⟩
          refine sB_intro (fun c8=>?_) (fun c8=>?_)
          ·
           skip
           exact ⟨dF fun hG=>(by first | exact hG.e _ (Yb g16) c1 | exact hG.s _ (Yb g16) c2 c3 | (refine hG.p _ _ g16 _ _ g37 ?_; clear hG q11 q32 t37 t16 hs hg; unfold PairBad; grind) | (refine hG.p _ _ g16 _ _ g95 ?_; clear hG q11 q90 t95 t16 hs hg; unfold PairBad; grind)),hs.ext⟩
          ·
           skip
           refine ⟨_,hs.rd 1 rfl rfl,?_⟩
           refine sB_intro (fun c9=>?_) (fun c9=>?_)
           ·
            skip
            refine ⟨_,hs.rd 0 rfl rfl,?_⟩
            refine ⟨_,hs.rd 1 rfl rfl,?_⟩
            refine sBe (fun c10=>?_) (fun c10=>?_)
            ·
             skip
             refine ⟨_,hs.rd 1 rfl rfl,?_⟩
             refine ⟨_,hs.rd 0 rfl rfl,?_⟩
             refine sBn (fun c11=>?_) (fun c11=>?_)
             ·
              skip
              exact ⟨dF fun hG=>(by first | exact hG.e _ (Yb g16) c1 | exact hG.s _ (Yb g16) c2 c3 | (refine hG.p _ _ g16 _ _ g37 ?_; clear hG q11 q32 t37 t16 hs hg; unfold PairBad; grind) | (refine hG.p _ _ g16 _ _ g95 ?_; clear hG q11 q90 t95 t16 hs hg; unfold PairBad; grind)),hs.ext⟩
             ·
              skip
              refine ⟨_,hs.rd 1 rfl rfl,?_⟩
              refine ⟨_,hs.rd 0 rfl rfl,?_⟩
              refine sBn (fun c12=>?_) (fun c12=>?_)
              ·
               skip
               exact ⟨dF fun hG=>(by first | exact hG.e _ (Yb g16) c1 | exact hG.s _ (Yb g16) c2 c3 | (refine hG.p _ _ g16 _ _ g37 ?_; clear hG q11 q32 t37 t16 hs hg; unfold PairBad; grind) | (refine hG.p _ _ g16 _ _ g95 ?_; clear hG q11 q90 t95 t16 hs hg; unfold PairBad; grind)),hs.ext⟩
              ·
               skip
               exact Up.next l32 (by omega) ⟨hs.drop 1,fun k y hk hy=>by by_cases e:k=i32; (subst e; rw [g37] at hy; cases hy; clear q11 q32 t37 t16 hs hg; unfold PairBad; grind); exact q32 k y (by omega) hy⟩
            ·
             skip
             exact Up.next l32 (by omega) ⟨hs.drop 1,fun k y hk hy=>by by_cases e:k=i32; (subst e; rw [g37] at hy; cases hy; clear q11 q32 t37 t16 hs hg; unfold PairBad; grind); exact q32 k y (by omega) hy⟩
           ·
            skip
            exact Up.next l32 (by omega) ⟨hs.drop 1,fun k y hk hy=>by by_cases e:k=i32; (subst e; rw [g37] at hy; cases hy; clear q11 q32 t37 t16 hs hg; unfold PairBad; grind); exact q32 k y (by omega) hy⟩
       ·
        skip
        refine ⟨_,hs.rd 1 rfl rfl,?_⟩
        refine sB_intro (fun c13=>?_) (fun c13=>?_)
        ·
         skip
         refine ⟨_,hs.rd 0 rfl rfl,?_⟩
         refine ⟨_,hs.rd 1 rfl rfl,?_⟩
         refine sBe (fun c14=>?_) (fun c14=>?_)
         ·
          skip
          refine ⟨_,hs.rd 1 rfl rfl,?_⟩
          refine ⟨_,hs.rd 0 rfl rfl,?_⟩
          refine sBn (fun c15=>?_) (fun c15=>?_)
          ·
           skip
           exact ⟨dF fun hG=>(by first | exact hG.e _ (Yb g16) c1 | exact hG.s _ (Yb g16) c2 c3 | (refine hG.p _ _ g16 _ _ g37 ?_; clear hG q11 q32 t37 t16 hs hg; unfold PairBad; grind) | (refine hG.p _ _ g16 _ _ g95 ?_; clear hG q11 q90 t95 t16 hs hg; unfold PairBad; grind)),hs.ext⟩
          ·
           skip
           refine ⟨_,hs.rd 1 rfl rfl,?_⟩
           refine ⟨_,hs.rd 0 rfl rfl,?_⟩
           refine sBn (fun c16=>?_) (fun c16=>?_)
           ·
            skip
            exact ⟨dF fun hG=>(by first | exact hG.e _ (Yb g16) c1 | exact hG.s _ (Yb g16) c2 c3 | (refine hG.p _ _ g16 _ _ g37 ?_; clear hG q11 q32 t37 t16 hs hg; unfold PairBad; grind) | (refine hG.p _ _ g16 _ _ g95 ?_; clear hG q11 q90 t95 t16 hs hg; unfold PairBad; grind)),hs.ext⟩
           ·
            skip
            exact Up.next l32 (by omega) ⟨hs.drop 1,fun k y hk hy=>by by_cases e:k=i32; (subst e; rw [g37] at hy; cases hy; clear q11 q32 t37 t16 hs hg; unfold PairBad; grind); exact q32 k y (by omega) hy⟩
         ·
          skip
          exact Up.next l32 (by omega) ⟨hs.drop 1,fun k y hk hy=>by by_cases e:k=i32; (subst e; rw [g37] at hy; cases hy; clear q11 q32 t37 t16 hs hg; unfold PairBad; grind); exact q32 k y (by omega) hy⟩
        ·
         skip
         exact Up.next l32 (by omega) ⟨hs.drop 1,fun k y hk hy=>by by_cases e:k=i32; (subst e; rw [g37] at hy; cases hy; clear q11 q32 t37 t16 hs hg; unfold PairBad; grind); exact q32 k y (by omega) hy⟩
      ·
       skip
       refine ⟨_,hs.rd 1 rfl rfl,?_⟩
       refine sB_intro (fun c17=>?_) (fun c17=>?_)
       ·
        skip
        refine ⟨_,hs.rd 0 rfl rfl,?_⟩
        refine ⟨_,hs.rd 1 rfl rfl,?_⟩
        refine sBe (fun c18=>?_) (fun c18=>?_)
        ·
         skip
         refine ⟨_,hs.rd 1 rfl rfl,?_⟩
         refine ⟨_,hs.rd 0 rfl rfl,?_⟩
         refine sBn (fun c19=>?_) (fun c19=>?_)
         ·
          skip
          exact ⟨dF fun hG=>(by first | exact hG.e _ (Yb g16) c1 | exact hG.s _ (Yb g16) c2 c3 | (refine hG.p _ _ g16 _ _ g37 ?_; clear hG q11 q32 t37 t16 hs hg; unfold PairBad; grind) | (refine hG.p _ _ g16 _ _ g95 ?_; clear hG q11 q90 t95 t16 hs hg; unfold PairBad; grind)),hs.ext⟩
         ·
          skip
          refine ⟨_,hs.rd 1 rfl rfl,?_⟩
          refine ⟨_,hs.rd 0 rfl rfl,?_⟩
          refine sBn (fun c20=>?_) (fun c20=>?_)
          ·
           skip
           exact ⟨dF fun hG=>(by first | exact hG.e _ (Yb g16) c1 | exact hG.s _ (Yb g16) c2 c3 | (refine hG.p _ _ g16 _ _ g37 ?_; clear hG q11 q32 t37 t16 hs hg; unfold PairBad; grind) | (refine hG.p _ _ g16 _ _ g95 ?_; clear hG q11 q90 t95 t16 hs hg; unfold PairBad; grind)),hs.ext⟩
          ·
           skip
           exact Up.next l32 (by omega) ⟨hs.drop 1,fun k y hk hy=>by by_cases e:k=i32; (subst e; rw [g37] at hy; cases hy; clear q11 q32 t37 t16 hs hg; unfold PairBad; grind); exact q32 k y (by omega) hy⟩
        ·
         skip
         exact Up.next l32 (by omega) ⟨hs.drop 1,fun k y hk hy=>by by_cases e:k=i32; (subst e; rw [g37] at hy; cases hy; clear q11 q32 t37 t16 hs hg; unfold PairBad; grind); exact q32 k y (by omega) hy⟩
       ·
        skip
        exact Up.next l32 (by omega) ⟨hs.drop 1,fun k y hk hy=>by by_cases e:k=i32; (subst e; rw [g37] at hy; cases hy; clear q11 q32 t37 t16 hs hg; unfold PairBad; grind); exact q32 k y (by omega) hy⟩
     ·
      have l32:=lt_f l32
      exact Up.next l11 (by omega) ⟨hs.drop 1,fun j x hj hx=>by by_cases e:j=i11; (subst e; rw [g16] at hx; cases hx; exact ⟨c1,by first | exact fun _=>c3 | exact fun hc=>(by rw [c2] at hc; cases hc),by first | exact fun k y hk=>q32 k y (by have:=(Ya.1 hk).1; omega) hk | exact fun k y hk=>q90 k y (by have:=(Ya.1 hk).1; omega) hk⟩); exact q11 j x (by omega) hx⟩
   ·
    skip
    refine ⟨_,hs.rd 1 rfl rfl,?_⟩
    refine up_loopS (n:=g.he.n) hs (fun i90=>∀ (k:Nat) (y:Ed),k<i90->g.es[k]?=some y->¬ PairBad i11 k d16 y) (fun j s hj=>by omega) ?_
    rintro - i90 h94 k90 ⟨hs,q90⟩
    refine sB_intro (fun l90=>?_) (fun l90=>?_)
    ·
     have l90:=lt_t l90
     refine ((hg.e.ext hs.ext).rw).nbI (by omega) (by omega) fun b95 o96 d95 g95 t95=>?_
     replace g95:_[i90]?=some d95:=g95
     refine ⟨_,_,_,_,_,_,t95,?_⟩
     refine hs.newput rfl rfl fun h104 hs=>?_
     refine sBn (fun c21=>?_) (fun c21=>?_)
     ·
      skip
      refine ⟨_,hs.rd 1 rfl rfl,?_⟩
      refine ⟨_,hs.rd 0 rfl rfl,?_⟩
      refine sBe (fun c22=>?_) (fun c22=>?_)
      ·
       skip
       refine ⟨_,_,_,hs.at 1 rfl (n:=3) rfl,?_⟩
       refine ⟨_,_,_,hs.at 0 rfl (n:=3) rfl,?_⟩
       refine sB_intro (fun c23=>?_) (fun c23=>?_)
       ·
        skip
        exact ⟨dF fun hG=>(by first | exact hG.e _ (Yb g16) c1 | exact hG.s _ (Yb g16) c2 c3 | (refine hG.p _ _ g16 _ _ g37 ?_; clear hG q11 q32 t37 t16 hs hg; unfold PairBad; grind) | (refine hG.p _ _ g16 _ _ g95 ?_; clear hG q11 q90 t95 t16 hs hg; unfold PairBad; grind)),hs.ext⟩
       ·
        skip
        refine ⟨_,hs.rd 1 rfl rfl,?_⟩
        refine ⟨_,hs.rd 0 rfl rfl,?_⟩
        refine sBn (fun c24=>?_) (fun c24=>?_)
        ·
         skip
         exact ⟨dF fun hG=>(by first | exact hG.e _ (Yb g16) c1 | exact hG.s _ (Yb g16) c2 c3 | (refine hG.p _ _ g16 _ _ g37 ?_; clear hG q11 q32 t37 t16 hs hg; unfold PairBad; grind) | (refine hG.p _ _ g16 _ _ g95 ?_; clear hG q11 q90 t95 t16 hs hg; unfold PairBad; grind)),hs.ext⟩
        ·
         skip
         refine ⟨_,hs.rd 1 rfl rfl,?_⟩
         refine sB_intro (fun c25=>?_) (fun c25=>?_)
         ·
          skip
          exact ⟨dF fun hG=>(by first | exact hG.e _ (Yb g16) c1 | exact hG.s _ (Yb g16) c2 c3 | (refine hG.p _ _ g16 _ _ g37 ?_; clear hG q11 q32 t37 t16 hs hg; unfold PairBad; grind) | (refine hG.p _ _ g16 _ _ g95 ?_; clear hG q11 q90 t95 t16 hs hg; unfold PairBad; grind)),hs.ext⟩
         ·
          skip
          refine ⟨_,hs.rd 1 rfl rfl,?_⟩
          refine sB_intro (fun c26=>?_) (fun c26=>?_)
          ·
           skip
           refine ⟨_,hs.rd 0 rfl rfl,?_⟩
           refine ⟨_,hs.rd 1 rfl rfl,?_⟩
           refine sBe (fun c27=>?_) (fun c27=>?_)
           ·
            skip
            refine ⟨_,hs.rd 1 rfl rfl,?_⟩
            refine ⟨_,hs.rd 0 rfl rfl,?_⟩
            refine sBn (fun c28=>?_) (fun c28=>?_)
            ·
             skip
             exact ⟨dF fun hG=>(by first | exact hG.e _ (Yb g16) c1 | exact hG.s _ (Yb g16) c2 c3 | (refine hG.p _ _ g16 _ _ g37 ?_; clear hG q11 q32 t37 t16 hs hg; unfold PairBad; grind) | (refine hG.p _ _ g16 _ _ g95 ?_; clear hG q11 q90 t95 t16 hs hg; unfold PairBad; grind)),hs.ext⟩
            ·
             skip
             refine ⟨_,hs.rd 1 rfl rfl,?_⟩
             refine ⟨_,hs.rd 0 rfl rfl,?_⟩
             refine sBn (fun c29=>?_) (fun c29=>?_)
             ·
              skip
              exact ⟨dF fun hG=>(by first | exact hG.e _ (Yb g16) c1 | exact hG.s _ (Yb g16) c2 c3 | (refine hG.p _ _ g16 _ _ g37 ?_; clear hG q11 q32 t37 t16 hs hg; unfold PairBad; grind) | (refine hG.p _ _ g16 _ _ g95 ?_; clear hG q11 q90 t95 t16 hs hg; unfold PairBad; grind)),hs.ext⟩
             ·
              skip
              exact Up.next l90 (by omega) ⟨hs.drop 1,fun k y hk hy=>by by_cases e:k=i90; (subst e; rw [g95] at hy; cases hy; clear q11 q90 t95 t16 hs hg; unfold PairBad; grind); exact q90 k y (by omega) hy⟩
           ·
            skip
            exact Up.next l90 (by omega) ⟨hs.drop 1,fun k y hk hy=>by by_cases e:k=i90; (subst e; rw [g95] at hy; cases hy; clear q11 q90 t95 t16 hs hg; unfold PairBad; grind); exact q90 k y (by omega) hy⟩
          ·
           skip
           exact Up.next l90 (by omega) ⟨hs.drop 1,fun k y hk hy=>by by_cases e:k=i90; (subst e; rw [g95] at hy; cases hy; clear q11 q90 t95 t16 hs hg; unfold PairBad; grind); exact q90 k y (by omega) hy⟩
      ·
       skip
       refine ⟨_,hs.rd 1 rfl rfl,?_⟩
       refine sB_intro (fun c30=>?_) (fun c30=>?_)
       ·
        skip
        refine ⟨_,hs.rd 0 rfl rfl,?_⟩
        refine ⟨_,hs.rd 1 rfl rfl,?_⟩
        refine sBe (fun c31=>?_) (fun c31=>?_)
        ·
         skip
         refine ⟨_,hs.rd 1 rfl rfl,?_⟩
         refine ⟨_,hs.rd 0 rfl rfl,?_⟩
         refine sBn (fun c32=>?_) (fun c32=>?_)
         ·
          skip
          exact ⟨dF fun hG=>(by first | exact hG.e _ (Yb g16) c1 | exact hG.s _ (Yb g16) c2 c3 | (refine hG.p _ _ g16 _ _ g37 ?_; clear hG q11 q32 t37 t16 hs hg; unfold PairBad; grind) | (refine hG.p _ _ g16 _ _ g95 ?_; clear hG q11 q90 t95 t16 hs hg; unfold PairBad; grind)),hs.ext⟩
         ·
          skip
          refine ⟨_,hs.rd 1 rfl rfl,?_⟩
          refine ⟨_,hs.rd 0 rfl rfl,?_⟩
          refine sBn (fun c33=>?_) (fun c33=>?_)
          ·
           skip
           exact ⟨dF fun hG=>(by first | exact hG.e _ (Yb g16) c1 | exact hG.s _ (Yb g16) c2 c3 | (refine hG.p _ _ g16 _ _ g37 ?_; clear hG q11 q32 t37 t16 hs hg; unfold PairBad; grind) | (refine hG.p _ _ g16 _ _ g95 ?_; clear hG q11 q90 t95 t16 hs hg; unfold PairBad; grind)),hs.ext⟩
          ·
           skip
           exact Up.next l90 (by omega) ⟨hs.drop 1,fun k y hk hy=>by by_cases e:k=i90; (subst e; rw [g95] at hy; cases hy; clear q11 q90 t95 t16 hs hg; unfold PairBad; grind); exact q90 k y (by omega) hy⟩
        ·
         skip
         exact Up.next l90 (by omega) ⟨hs.drop 1,fun k y hk hy=>by by_cases e:k=i90; (subst e; rw [g95] at hy; cases hy; clear q11 q90 t95 t16 hs hg; unfold PairBad; grind); exact q90 k y (by omega) hy⟩
       ·
        skip
        exact Up.next l90 (by omega) ⟨hs.drop 1,fun k y hk hy=>by by_cases e:k=i90; (subst e; rw [g95] at hy; cases hy; clear q11 q90 t95 t16 hs hg; unfold PairBad; grind); exact q90 k y (by omega) hy⟩
     ·
      skip
      refine ⟨_,hs.rd 1 rfl rfl,?_⟩
      refine sB_intro (fun c34=>?_) (fun c34=>?_)
      ·
       skip
       refine ⟨_,hs.rd 0 rfl rfl,?_⟩
       refine ⟨_,hs.rd 1 rfl rfl,?_⟩
       refine sBe (fun c35=>?_) (fun c35=>?_)
       ·
        skip
        refine ⟨_,hs.rd 1 rfl rfl,?_⟩
        refine ⟨_,hs.rd 0 rfl rfl,?_⟩
        refine sBn (fun c36=>?_) (fun c36=>?_)
        ·
         skip
         exact ⟨dF fun hG=>(by first | exact hG.e _ (Yb g16) c1 | exact hG.s _ (Yb g16) c2 c3 | (refine hG.p _ _ g16 _ _ g37 ?_; clear hG q11 q32 t37 t16 hs hg; unfold PairBad; grind) | (refine hG.p _ _ g16 _ _ g95 ?_; clear hG q11 q90 t95 t16 hs hg; unfold PairBad; grind)),hs.ext⟩
        ·
         skip
         refine ⟨_,hs.rd 1 rfl rfl,?_⟩
         refine ⟨_,hs.rd 0 rfl rfl,?_⟩
         refine sBn (fun c37=>?_) (fun c37=>?_)
         ·
          skip
          exact ⟨dF fun hG=>(by first | exact hG.e _ (Yb g16) c1 | exact hG.s _ (Yb g16) c2 c3 | (refine hG.p _ _ g16 _ _ g37 ?_; clear hG q11 q32 t37 t16 hs hg; unfold PairBad; grind) | (refine hG.p _ _ g16 _ _ g95 ?_; clear hG q11 q90 t95 t16 hs hg; unfold PairBad; grind)),hs.ext⟩
         ·
          skip
          exact Up.next l90 (by omega) ⟨hs.drop 1,fun k y hk hy=>by by_cases e:k=i90; (subst e; rw [g95] at hy; cases hy; clear q11 q90 t95 t16 hs hg; unfold PairBad; grind); exact q90 k y (by omega) hy⟩
       ·
        skip
        exact Up.next l90 (by omega) ⟨hs.drop 1,fun k y hk hy=>by by_cases e:k=i90; (subst e; rw [g95] at hy; cases hy; clear q11 q90 t95 t16 hs hg; unfold PairBad; grind); exact q90 k y (by omega) hy⟩
      ·
       skip
       exact Up.next l90 (by omega) ⟨hs.drop 1,fun k y hk hy=>by by_cases e:k=i90; (subst e; rw [g95] at hy; cases hy; clear q11 q90 t95 t16 hs hg; unfold PairBad; grind); exact q90 k y (by omega) hy⟩
    ·
     have l90:=lt_f l90
     exact Up.next l11 (by omega) ⟨hs.drop 1,fun j x hj hx=>by by_cases e:j=i11; (subst e; rw [g16] at hx; cases hx; exact ⟨c1,by first | exact fun _=>c3 | exact fun hc=>(by rw [c2] at hc; cases hc),by first | exact fun k y hk=>q32 k y (by have:=(Ya.1 hk).1; omega) hk | exact fun k y hk=>q90 k y (by have:=(Ya.1 hk).1; omega) hk⟩); exact q11 j x (by omega) hx⟩
 ·
  have l11:=lt_f l11
  exact ⟨dT ⟨fun x hx=>by obtain ⟨j,hj⟩:=Yf.1 hx; exact (q11 j x (by have:=(Ya.1 hj).1; omega) hj).1,fun x hx=>by obtain ⟨j,hj⟩:=Yf.1 hx; exact (q11 j x (by have:=(Ya.1 hj).1; omega) hj).2.1,fun i x hx=>(q11 i x (by have:=(Ya.1 hx).1; omega) hx).2.2⟩,hs.ext⟩
def lastS (ts:List To) (i:Nat):Int:=if i=0 then -1 else match ts[i - 1]? with | some t=>t.s | none=>-1
structure TmS (g:Gl) (i:Nat) (t:To):Prop where
 o:lastS g.ts i<t.s
 k:1<=t.k/\t.k<=1000
 e:0<=t.e/\∃ x,g.es[t.e.toNat]?=some x/\x.f=t.s/\x.ag=false
def TimS (g:Gl):Prop:=∀ i t,g.ts[i]?=some t->TmS g i t
noncomputable instance (g:Gl):Decidable (TimS g):=Classical.propDecidable _
theorem lastS_next {ts:List To} {i:Nat} {t:To} (h:ts[i]?=some t):lastS ts (i+1)=t.s:=by
 unfold lastS
 rw [if_neg (by omega),Nat.add_sub_cancel,h]
theorem timed80 (g:Gl) (h:Heap) (hg:GI h g):Fn Pz 111 #[g.v] h fun v h'=>v=.bool (decide (TimS g))/\Ext h h':=by
 apply vc111 (bs g.nm) g.hr g.hd g.n g.s g.e g.he g.ht; unfold W111
 have hs:=St.refl h
 have hn:=hg.t.ln
 have hne:=hg.e.ln
 have hsm:=hg.t.sm
 refine hs.newb fun h9 hs=>?_
 refine ⟨_,hs.rd 0 rfl rfl,?_⟩
 refine ⟨fun last_14 x_15 h' m=>∃ i:Nat,x_15=i/\m=g.ht.n - i/\i<=g.ht.n/\St h h' [.blk h.size g.cs 92]/\last_14=lastS g.ts i/\∀ j t,j<i->g.ts[j]?=some t->TmS g j t,⟨_,0,rfl,rfl,by omega,hs,rfl,fun j t hj=>by omega⟩,?_⟩
 rintro - _ _ h16 m ⟨i,rfl,rfl,hi,hs,rfl,q⟩
 refine sBi (fun c1=>?_) (fun c1=>?_)
 ·
  skip
  refine ((hg.t.ext hs.ext).rw).nbI (by omega) (by omega) fun b17 o18 d17 g17 t17=>?_
  refine ⟨_,_,_,t17,?_⟩
  refine hs.newput rfl rfl fun h23 hs=>?_
  refine ⟨_,hs.rd 0 rfl rfl,?_⟩
  refine sBi (fun c2=>?_) (fun c2=>?_)
  ·
   skip
   exact ⟨dF fun hG=>(by replace hG:=hG i _ g17; have ho:=hG.o; have hk:=hG.k; obtain ⟨he0,x,hx,hf,hag⟩:=hG.e; have hxl:=(Ya.1 hx).1; first | omega | (rw [g32] at hx; cases hx; first | exact c7 hf | (rw [g38] at g32; cases g32; rw [c8] at hag; cases hag))),hs.ext⟩
  ·
   skip
   refine ⟨_,hs.rd 0 rfl rfl,?_⟩
   refine sBi (fun c3=>?_) (fun c3=>?_)
   ·
    skip
    exact ⟨dF fun hG=>(by replace hG:=hG i _ g17; have ho:=hG.o; have hk:=hG.k; obtain ⟨he0,x,hx,hf,hag⟩:=hG.e; have hxl:=(Ya.1 hx).1; first | omega | (rw [g32] at hx; cases hx; first | exact c7 hf | (rw [g38] at g32; cases g32; rw [c8] at hag; cases hag))),hs.ext⟩
   ·
    skip
    refine ⟨_,hs.rd 0 rfl rfl,?_⟩
    refine sBi (fun c4=>?_) (fun c4=>?_)
    ·
     skip
     exact ⟨dF fun hG=>(by replace hG:=hG i _ g17; have ho:=hG.o; have hk:=hG.k; obtain ⟨he0,x,hx,hf,hag⟩:=hG.e; have hxl:=(Ya.1 hx).1; first | omega | (rw [g32] at hx; cases hx; first | exact c7 hf | (rw [g38] at g32; cases g32; rw [c8] at hag; cases hag))),hs.ext⟩
    ·
     skip
     refine ⟨_,hs.rd 0 rfl rfl,?_⟩
     refine sBi (fun c5=>?_) (fun c5=>?_)
     ·
      skip
      exact ⟨dF fun hG=>(by replace hG:=hG i _ g17; have ho:=hG.o; have hk:=hG.k; obtain ⟨he0,x,hx,hf,hag⟩:=hG.e; have hxl:=(Ya.1 hx).1; first | omega | (rw [g32] at hx; cases hx; first | exact c7 hf | (rw [g38] at g32; cases g32; rw [c8] at hag; cases hag))),hs.ext⟩
     ·
      skip
      refine ⟨_,hs.rd 0 rfl rfl,?_⟩
      refine ⟨_,hs.rd 1 rfl rfl,?_⟩
      refine sBi (fun c6=>?_) (fun c6=>?_)
      ·
       skip
       exact ⟨dF fun hG=>(by replace hG:=hG i _ g17; have ho:=hG.o; have hk:=hG.k; obtain ⟨he0,x,hx,hf,hag⟩:=hG.e; have hxl:=(Ya.1 hx).1; first | omega | (rw [g32] at hx; cases hx; first | exact c7 hf | (rw [g38] at g32; cases g32; rw [c8] at hag; cases hag))),hs.ext⟩
      ·
       skip
       refine ⟨_,hs.rd 1 rfl rfl,?_⟩
       refine ⟨_,hs.rd 0 rfl rfl,?_⟩
       refine ((hg.e.ext hs.ext).rw).nbI (by omega) (by omega) fun b32 o33 d32 g32 t32=>?_
       refine ⟨_,t32.hd,?_⟩
       refine ⟨_,hs.rd 0 rfl rfl,?_⟩
       refine sBn (fun c7=>?_) (fun c7=>?_)
       ·
        skip
        exact ⟨dF fun hG=>(by replace hG:=hG i _ g17; have ho:=hG.o; have hk:=hG.k; obtain ⟨he0,x,hx,hf,hag⟩:=hG.e; have hxl:=(Ya.1 hx).1; first | omega | (rw [g32] at hx; cases hx; first | exact c7 hf | (rw [g38] at g32; cases g32; rw [c8] at hag; cases hag))),hs.ext⟩
       ·
        skip
        refine ⟨_,hs.rd 1 rfl rfl,?_⟩
        refine ⟨_,hs.rd 0 rfl rfl,?_⟩
        refine ((hg.e.ext hs.ext).rw).nbI (by omega) (by omega) fun b38 o39 d38 g38 t38=>?_
        refine ⟨_,t38.nth 5 rfl,?_⟩
        refine sB_intro (fun c8=>?_) (fun c8=>?_)
        ·
         skip
         exact ⟨dF fun hG=>(by replace hG:=hG i _ g17; have ho:=hG.o; have hk:=hG.k; obtain ⟨he0,x,hx,hf,hag⟩:=hG.e; have hxl:=(Ya.1 hx).1; first | omega | (rw [g32] at hx; cases hx; first | exact c7 hf | (rw [g38] at g32; cases g32; rw [c8] at hag; cases hag))),hs.ext⟩
        ·
         skip
         refine ⟨_,hs.rd 0 rfl rfl,?_⟩
         exact ⟨_,by omega,i+1,by rw [w64 (by omega) (by omega)]; omega,rfl,by omega,hs.drop 1,(lastS_next g17).symm,fun j t hj hx=>by by_cases e:j=i; (subst e; rw [show g.ts[j]?=some d17 from g17] at hx; cases hx; exact ⟨by omega,by omega,by omega,d32,g32,c7,by rw [g38] at g32; cases g32; exact c8⟩); exact q j t (by omega) hx⟩
 ·
  skip
  exact ⟨dT fun j t hx=>q j t (by have:=(Ya.1 hx).1; omega) hx,hs.ext⟩
end Go.VC
end

section
/- Contracts: the search from a state; valid automata. -/
namespace Go.VC
open Go.Proofs Go.LexS

theorem app42:appB Pz 23 3 1 8=true:=by kernel_rfl
theorem inrows (L:List Int):∀ r ∈ L.map inC,r.length=1:=fun r hr=>by obtain ⟨x,_,rfl⟩:=Yp.1 hr; rfl
theorem index135 (L:List Int) (x:Int) (s:Sl) (h:Heap) (hr:Rw h 1 s (L.map inC)) (hm:L.length<=1048576) :
  Fn Pz 151 #[.slice s.a s.n s.c,.int .i64 x] h fun v h'=>(∃ k:Int,v=.int .i64 k/\decide (k >= 0)=decide (x ∈ L))/\h'=h:=by
 apply vc151; unfold W151
 have hn:=hr.ln
 refine up_loop (n:=s.n) (fun i h'=>h'=h/\∀ (j:Nat) (y:Int),j<i->L[j]?=some y->decide (x=y)=false) ⟨rfl,fun j y hj=>by omega⟩ ?_
 rintro - i h5 hi ⟨rfl,hd⟩
 refine sB_intro (fun l=>?_) (fun l=>?_)
 ·
  replace l:=lt_t l
  refine hr.nbI (by omega) (by omega) fun b o d g t=>?_
  replace g:L[i]?=some d:=g
  refine ⟨_,t.hd,?_⟩
  refine sBe (fun he=>?_) (fun hne=>?_)
  ·
   exact ⟨⟨_,rfl,by rw [decide_eq_true (show (i:Int) >= 0 by omega),decide_eq_true (by rw [he]; exact Yb g)]⟩,rfl⟩
  ·
   exact Up.next l (by omega) ⟨rfl,scan_next (p:=fun y=>decide (x=y)) g (decide_eq_false hne) hd⟩
 ·
  replace l:=lt_f l
  refine ⟨⟨_,rfl,?_⟩,rfl⟩
  rw [decide_eq_false (show ¬ ((-1:Int) >= 0) by omega),decide_eq_false]
  intro hm
  obtain ⟨j,hj⟩:=Yf.1 hm
  exact Yyo (hd j _ (by have:=(Ya.1 hj).1; omega) hj) rfl
theorem has81 (L:List Int) (x:Int) (s:Sl) (h:Heap) (hr:Rw h 1 s (L.map inC)) (hm:L.length<=1048576) :
  Fn Pz 112 #[.slice s.a s.n s.c,.int .i64 x] h fun v h'=>v=.bool (decide (x ∈ L))/\h'=h:=by
 apply vc112; unfold W112
 refine (index135 L x s h hr hm).mono ?_
 rintro v h3 ⟨⟨k,rfl,hk⟩,rfl⟩
 exact ⟨_,rfl,by rw [hk],rfl⟩
set_option maxHeartbeats 1000000 in
theorem spread82 (g:Gl) (src:Int) (bk:Bool) (h:Heap) (hg:GI h g) (hN:NumS g) (h0:0<=src) (h1:src<g.n) :
  Fn Pz 113 #[g.v,.int .i64 src,.bool bk] h fun v h'=>Ext h h'/\∃ (s:Sl) (D:List Int),v=.slice s.a s.n s.c/\OwnS h' h.size 3 1 s (D.map inC).flatten/\BF g.es bk g.n.toNat src D []:=by
 apply vc113 (bs g.nm) g.hr g.hd g.n g.s g.e g.he g.ht; unfold W113
 have hs:=St.refl h
 have hn:=hg.e.ln
 have hb:=hN.n
 have he:=hN.e
 have hm:=hN.m
 refine hs.newb fun h9 hs=>?_
 refine hs.newb fun h10 hs=>?_
 refine ⟨_,hs.rd 1 rfl rfl,?_⟩
 refine (repeat60 g.n (by omega) (by omega) _ h10 (hs.rd 0 rfl rfl)).mono ?_
 rintro _ h14 ⟨E14,x13,rfl,ho⟩
 replace hs:=hs.gift E14 ho (inrows _)
 refine ⟨_,rfl,?_⟩
 have hxn:=(hs.rows 0 rfl (by omega)).ln
 rw [Yg] at hxn
 refine hs.set 0 rfl (by omega) h0 (by omega) 0 rfl rfl (fun b15 o16 h17 hs=>?_) rfl
 refine hs.newb fun h18 hs=>?_
 have hs:=(hs.blkS 1 1 [[.int .i64 src]] rfl (by simp) rfl (by decide)).toQ (by omega)
 have bf0:BF g.es bk g.n.toNat src ((List.replicate g.n.toNat (-1:Int)).set src.toNat 0) [src]:=BF.start h0 (by omega) (by omega)
 refine ⟨fun todo h' m=>∃ (D T:List Int),St h h' [.q todo 3 1 (T.map inC),.sl x13 3 1 (D.map inC),.blk h9.size [.int .i64 (-1)] 3,.blk h.size g.cs 92]/\BF g.es bk g.n.toNat src D T/\m=2*D.count (-1)+T.length/\m<=401,⟨_,_,[src],hs,bf0,rfl,?_⟩,?_⟩
 ·
  have:List.count (-1) ((List.replicate g.n.toNat (-1:Int)).set src.toNat 0)<=_:=List.count_le_length
  rw [Yyh,Yg] at this
  rw [Yv]; omega
 rintro - todo_22 h23 m ⟨D,T,hs,bf,rfl,hmm⟩
 have hq:=(hs.qlen 0 rfl).1
 rw [Yc] at hq
 refine sBi (fun c1=>?_) (fun c1=>?_)
 ·
  refine ⟨_,hs.rd 3 rfl rfl,?_⟩
  obtain ⟨a0,R0,rfl⟩:∃ a R,T=a::R:=by cases T with
   | nil=>simp at hq; omega
   | cons a R=>exact ⟨a,R,rfl⟩
  refine ⟨fun todo x h' m=>∃ (i:Nat) (D' R:List Int),x=i/\m=g.he.n - i/\i<=g.he.n/\St h h' [.q todo 3 1 ((a0::R).map inC),.sl x13 3 1 (D'.map inC),.blk h9.size [.int .i64 (-1)] 3,.blk h.size g.cs 92]/\BF g.es bk g.n.toNat src D' (a0::R) /\
   (∀ (j:Nat) (x:Ed),j<i->g.es[j]?=some x->src_ bk x=a0->Vis D' (dst_ bk x))/\2*D'.count (-1)+R.length+1<=2*D.count (-1)+(a0::R0).length,⟨_,0,D,R0,rfl,rfl,by omega,hs,bf,fun j x hj=>by omega,by rw [Yyj]; omega⟩,?_⟩
  rintro - todo_28 _ h30 _ ⟨i,D',R,rfl,rfl,hi,hs,bf,hdone,hmea⟩
  have hq:=(hs.qlen 0 rfl)
  rw [Yc,Yyj] at hq
  have hlD:=bf.len
  have hxn2:=(hs.rows 1 rfl (by omega)).ln
  refine sBi (fun c2=>?_) (fun c2=>?_)
  ·
   have l2:i<g.he.n:=by omega
   refine (hg.e.ext hs.ext).rw.nbI (by omega) (by omega) fun b31 o32 d31 g31 t31=>?_
   replace g31:g.es[i]?=some d31:=g31
   have hE:=he d31 (Yb g31)
   unfold EdS at hE
   refine ⟨_,_,_,_,_,_,t31,?_⟩
   refine hs.newput (vs:=d31.cs) rfl rfl fun h40 hs=>?_
   refine ⟨_,hs.rd 0 rfl rfl,?_⟩
   refine ⟨_,hs.rd 0 rfl rfl,?_⟩
   refine ⟨fun a b h'=>St h h' [.blk h30.size d31.cs 137,.q todo_28 3 1 ((a0::R).map inC),.sl x13 3 1 (D'.map inC),.blk h9.size [.int .i64 (-1)] 3,.blk h.size g.cs 92]/\a=src_ bk d31/\b=dst_ bk d31,?_,?_⟩
   ·
    cases bk
    ·
     exact ⟨hs,rfl,rfl⟩
    ·
     exact ⟨hs,rfl,rfl⟩
   ·
    rintro - a b h46 ⟨hs,ha,hb'⟩
    have ha0:0<=a/\a<g.n/\0<=b/\b<g.n:=by rw [ha,hb']; unfold src_ dst_; cases bk <;> simp <;> omega
    have next0:∀ {todo:Sl} {h':Heap} {D2 R2:List Int},St h h' [.blk h30.size d31.cs 137,.q todo 3 1 ((a0::R2).map inC),.sl x13 3 1 (D2.map inC),.blk h9.size [.int .i64 (-1)] 3,.blk h.size g.cs 92]->BF g.es bk g.n.toNat src D2 (a0::R2) ->
      (∀ v,Vis D' v->Vis D2 v)->(a=a0->Vis D2 b)->2*D2.count (-1)+R2.length+1<=2*D.count (-1)+(a0::R0).length ->
      ∃ m,m<g.he.n - i/\∃ (i2:Nat) (D' R:List Int),IntKind.wrap .i64 ((i:Int)+1)=i2/\m=g.he.n - i2/\i2<=g.he.n/\St h h' [.q todo 3 1 ((a0::R).map inC),.sl x13 3 1 (D'.map inC),.blk h9.size [.int .i64 (-1)] 3,.blk h.size g.cs 92]/\BF g.es bk g.n.toNat src D' (a0::R) /\
       (∀ (j:Nat) (x:Ed),j<i2->g.es[j]?=some x->src_ bk x=a0->Vis D' (dst_ bk x))/\2*D'.count (-1)+R.length+1<=2*D.count (-1)+(a0::R0).length:=by
     intro todo h' D2 R2 hs2 bf2 hmono hedge hm2
     refine ⟨_,by omega,i+1,D2,R2,by rw [w64 (by omega) (by omega)]; omega,rfl,by omega,hs2.drop 1,bf2,fun j x hj hx hsx=>?_,hm2⟩
     by_cases e:j=i
     ·
      subst e; rw [g31] at hx; cases hx
      rw [<- hb']; exact hedge (by rw [ha,hsx])
     ·
      exact hmono _ (hdone j x (by omega) hx hsx)
    refine (hs.qrw 1 rfl (by omega)).nbI (cs:=inC) (L:=a0::R) (by omega) (by omega) fun b47 o48 d47 g47 t47=>?_
    have ed:a0=d47:=by simpa using g47
    subst ed
    refine ⟨_,t47.hd,?_⟩
    refine sBe (fun c4=>?_) (fun c4=>?_)
    ·
     subst c4
     have hva:Vis D' a:=bf.t a (by simp)
     obtain ⟨_,da,hda,hda0⟩:=hva
     refine (hs.rows 2 rfl (by omega)).nbI (by omega) (by omega) fun b50 o51 db g50 t50=>?_
     refine ⟨_,t50.hd,?_⟩
     refine sBi (fun c5=>?_) (fun c5=>?_)
     ·
      refine (hs.rows 2 rfl (by omega)).nbI (by omega) (by omega) fun b53 o54 d53 g53 t53=>?_
      rw [hda] at g53; cases g53
      refine ⟨_,t53.hd,?_⟩
      have hadj:Adj g.es bk a b:=⟨d31,Yb g31,ha.symm,hb'.symm⟩
      obtain ⟨bf2,hcnt,hd0,hd2⟩:=bf.push ⟨by omega,da,hda,hda0⟩ hda (by omega) g50 c5 hadj
      rw [w64 (n:=da+1) (by omega) (by omega)]
      refine hs.set 2 rfl (by omega) (by omega) (by omega) (da+1) rfl rfl (fun b56 o57 h58 hs=>?_) rfl
      have hcl:D'.count (-1)<=D'.length:=List.count_le_length
      have hRl:R.length<=2000:=by omega
      refine hs.qapp 1 rfl app42 (m:=1) [[.int .i64 b]] rfl rfl (by omega) (by simp) rfl (by omega) (by simp only [maxLen]; omega) fun s60 h61 ns60 hs=>?_
      have hs':St h h61 [.blk h30.size d31.cs 137,.q s60 3 1 ((a::(R++[b])).map inC),.sl x13 3 1 ((D'.set b.toNat (da+1)).map inC),.blk h9.size [.int .i64 (-1)] 3,.blk h.size g.cs 92]:=by
       have e:(a::(R++[b])).map inC=(a::R).map inC++[[.int .i64 b]]:=by simp [inC]
       rw [e]; exact hs
      refine next0 hs' bf2 (fun v hv=>(vis_set (by omega) (by have:=(Ya.1 g50).1; omega) (by omega)).2 (.inr hv)) (fun _=>(vis_set (by omega) (by have:=(Ya.1 g50).1; omega) (by omega)).2 (.inl rfl)) ?_
      rw [Yh,Yv]; omega
     ·
      exact next0 hs bf (fun v hv=>hv) (fun _=>⟨by omega,db,g50,by omega⟩) hmea
    ·
     exact next0 hs bf (fun v hv=>hv) (fun e=>absurd e c4) hmea
  ·
   refine ⟨⟨by omega,by omega,by omega⟩,?_⟩
   rw [Yyl] at hs
   refine ⟨_,?_,D',R,hs.qtail,?_,rfl,?_⟩
   ·
    rw [Yyj] at hmea ⊢; omega
   rotate_left
   ·
    omega
   ·
    refine ⟨bf.len,bf.src,bf.r,fun t ht=>bf.t t (Yn _ ht),fun v w hv hn' hvw=>?_,bf.b⟩
    by_cases hva:v=a0
    ·
     subst hva
     obtain ⟨x,hx,h3,h4⟩:=hvw
     obtain ⟨j,hj⟩:=Yf.1 hx
     rw [<- h4]
     exact hdone j x (by have:=(Ya.1 hj).1; omega) hj h3
    ·
     exact bf.c v w hv (by rw [Yr,not_or]; exact ⟨hva,hn'⟩) hvw
 ·
  have:T=[]:=List.length_eq_zero_iff.1 (by omega)
  subst this
  exact ⟨hs.ext,x13,D,rfl,hs.give 1 rfl,bf⟩
end Go.VC
end

section
/- Contract: valid automata. -/
namespace Go.VC
open Go.Proofs Go.LexS

structure ValidS (g:Gl):Prop where
 nam:NamedS g
 num:NumS g
 dcl:DeclS g.ds
 ord:OrdS g
 tim:TimS g
 fwd:∀ v:Int,0<=v->v<g.n->Rch g.es false g.s v
 bwd:∀ v:Int,0<=v->v<g.n->Rch g.es true g.e v
noncomputable instance (g:Gl):Decidable (ValidS g):=Classical.propDecidable _
theorem valid38 (g:Gl) (h:Heap) (hg:GI h g) (hx:Gx h):Fn Pz 77 #[g.v] h fun v h'=>v=.bool (decide (ValidS g))/\Ext h h':=by
 apply vc77 (bs g.nm) g.hr g.hd g.n g.s g.e g.he g.ht; unfold W77
 have hs:=St.refl h
 refine hs.newb fun h9 hs=>?_
 refine ⟨_,_,_,_,_,_,_,_,hs.at 0 rfl (n:=8) rfl,?_⟩
 refine (named76 g _ (hg.ext hs.ext)).mono ?_
 rintro _ h20 ⟨rfl,Eh20⟩
 replace hs:=hs.step Eh20
 refine ⟨_,rfl,?_⟩
 refine sB_intro (fun c1=>?_) (fun c1=>?_)
 ·
  skip
  refine ⟨_,_,_,_,_,_,_,_,hs.at 0 rfl (n:=8) rfl,?_⟩
  refine (numbered77 g _ (hg.ext hs.ext)).mono ?_
  rintro _ h31 ⟨rfl,Eh31⟩
  replace hs:=hs.step Eh31
  refine ⟨_,rfl,?_⟩
  refine sB_intro (fun c2=>?_) (fun c2=>?_)
  ·
   skip
   refine ⟨_,hs.rd 0 rfl rfl,?_⟩
   refine (declared78 g.ds _ _ (hg.d.ext hs.ext) (hx.ext hs.ext)).mono ?_
   rintro _ h35 ⟨rfl,Eh35⟩
   replace hs:=hs.step Eh35
   refine ⟨_,rfl,?_⟩
   refine sB_intro (fun c3=>?_) (fun c3=>?_)
   ·
    skip
    refine ⟨_,_,_,_,_,_,_,_,hs.at 0 rfl (n:=8) rfl,?_⟩
    refine (ordered79 g _ (hg.ext hs.ext)).mono ?_
    rintro _ h46 ⟨rfl,Eh46⟩
    replace hs:=hs.step Eh46
    refine ⟨_,rfl,?_⟩
    refine sB_intro (fun c4=>?_) (fun c4=>?_)
    ·
     skip
     refine ⟨_,_,_,_,_,_,_,_,hs.at 0 rfl (n:=8) rfl,?_⟩
     refine (timed80 g _ (hg.ext hs.ext)).mono ?_
     rintro _ h57 ⟨rfl,Eh57⟩
     replace hs:=hs.step Eh57
     refine ⟨_,rfl,?_⟩
     refine sB_intro (fun c5=>?_) (fun c5=>?_)
     ·
      skip
      refine ⟨_,_,_,_,_,_,_,_,hs.at 0 rfl (n:=8) rfl,?_⟩
      refine ⟨_,hs.rd 0 rfl rfl,?_⟩
      refine (spread82 g _ _ _ (hg.ext hs.ext) (Yyn c2) (by have:=(Yyn c2).n; omega) (by have:=(Yyn c2).n; omega)).mono ?_
      rintro _ h69 ⟨E69,x68,D,rfl,ho,bf⟩
      replace hs:=hs.gift E69 ho (inrows _)
      refine ⟨_,rfl,?_⟩
      refine (has81 _ _ _ _ (hs.rows 0 rfl (by omega)) (by have:=bf.len; have:=(Yyn c2).n; omega)).mono ?_
      rintro _ h72 ⟨rfl,rfl⟩
      refine ⟨_,rfl,?_⟩
      refine sB_intro (fun c6=>?_) (fun c6=>?_)
      ·
       skip
       refine ⟨_,_,_,_,_,_,_,_,hs.at 1 rfl (n:=8) rfl,?_⟩
       refine ⟨_,hs.rd 1 rfl rfl,?_⟩
       refine (spread82 g _ _ _ (hg.ext hs.ext) (Yyn c2) (by have:=(Yyn c2).n; omega) (by have:=(Yyn c2).n; omega)).mono ?_
       rintro _ h84 ⟨E84,x83,D2,rfl,ho2,bf2⟩
       replace hs:=hs.gift E84 ho2 (inrows _)
       refine ⟨_,rfl,?_⟩
       refine (has81 _ _ _ _ (hs.rows 0 rfl (by omega)) (by have:=bf2.len; have:=(Yyn c2).n; omega)).mono ?_
       rintro _ h87 ⟨rfl,rfl⟩
       refine ⟨_,rfl,?_⟩
       refine ⟨?_,hs.ext⟩
       have hN:=(Yyn c2).n
       have h1:∀ v:Int,0<=v->v<g.n->Rch g.es false g.s v:=by
        intro v h0 h2
        apply Classical.byContradiction
        intro h3
        have h4:(-1:Int) ∈ D:=bf.all.2 fun hall=>h3 (hall v h0 (by omega))
        rw [decide_eq_true h4] at c6; cases c6
       by_cases h2:∀ v:Int,0<=v->v<g.n->Rch g.es true g.e v
       ·
        have h4:¬ ((-1:Int) ∈ D2):=fun hm=>bf2.all.1 hm fun v h0 h3=>h2 v h0 (by omega)
        rw [decide_eq_false h4,decide_eq_true (show ValidS g from ⟨Yyn c1,Yyn c2,Yyn c3,Yyn c4,Yyn c5,h1,h2⟩)]; rfl
       ·
        have h4:(-1:Int) ∈ D2:=bf2.all.2 fun hall=>h2 fun v h0 h3=>hall v h0 (by omega)
        rw [decide_eq_true h4,decide_eq_false (fun hG:ValidS g=>h2 hG.bwd)]; rfl
      ·
       skip
       exact ⟨dF fun hG=>by have h1:=bf.all.1 (by simpa using c6); exact h1 fun v h0 h2=>hG.fwd v h0 (by omega),hs.ext⟩
     ·
      skip
      exact ⟨dF fun hG=>Yyo c5 hG.tim,hs.ext⟩
    ·
     skip
     exact ⟨dF fun hG=>Yyo c4 hG.ord,hs.ext⟩
   ·
    skip
    exact ⟨dF fun hG=>Yyo c3 hG.dcl,hs.ext⟩
  ·
   skip
   exact ⟨dF fun hG=>Yyo c2 hG.num,hs.ext⟩
 ·
  skip
  exact ⟨dF fun hG=>Yyo c1 hG.nam,hs.ext⟩
end Go.VC
end

section
/- A bool that says p. For every program. -/
namespace Go.VC
open Go.Proofs Go.LexS
theorem Ext.rfl' {h:Heap}:Ext h h:=⟨Yyt _,fun _ _=>rfl⟩
def RP (p:Prop) (h:Heap) (v:Value) (h':Heap):Prop:=(∃ b:Bool,v=.bool b/\(b=true ↔ p))/\Ext h h'
theorem RP.t {p:Prop} {h h':Heap} (hp:p) (E:Ext h h'):RP p h (.bool true) h':=⟨⟨true,rfl,iff_of_true rfl hp⟩,E⟩
theorem RP.f {p:Prop} {h h':Heap} (hp:¬ p) (E:Ext h h'):RP p h (.bool false) h':=⟨⟨false,rfl,iff_of_false (by decide) hp⟩,E⟩
theorem RP.e {p:Prop} {h h':Heap} {b:Bool} (hb:b=true ↔ p) (E:Ext h h'):RP p h (.bool b) h':=⟨⟨b,rfl,hb⟩,E⟩
theorem iff_f {p:Prop} {b:Bool} (hp:b=true ↔ p) (c:b=false):¬ p:=fun hq=>by
 rw [hp.2 hq] at c; cases c
theorem smx {al:List Addr} {h h':Heap} (E:Ext h h'):Sm al h h':=fun _ _ _ _ hv=>hc_ext E hv
theorem Sm_but {al:List Addr} {h h':Heap} {b:Nat} (hB:But b h h') (hn:∀ a ∈ al,a.block ≠ b):Sm al h h':=fun a ha k v hv=>by
 rw [hc_of_block (hB.2 _ (by rw [addk_block']; exact hn a ha))]; exact hv
theorem hc_blk {h:Heap} {a:Addr} {v:Value} (hv:hc h a=some v):a.block<h.size:=by
 rcases Nat.lt_or_ge a.block h.size with h1 | h1
 ·
  exact h1
 ·
  unfold VC.hc at hv
  simp [Array.getElem?_eq_none h1] at hv
end Go.VC
end
