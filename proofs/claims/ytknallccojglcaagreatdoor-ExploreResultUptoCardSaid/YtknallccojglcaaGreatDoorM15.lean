/- KtLi0 KtLi KtStub KtB KtC KtD KtE KtF KtG KtH KtRp KtVcD KtVcC KtI. -/
import Derived.Lib.TrailingZeros
import Derived.Test.YtknallccojglcaaGreatDoorM14
import Derived.Maps.AppendAt
import Derived.Test.YtknallccojglcaaGreatDoorM13
set_option linter.unusedVariables false
set_option linter.unusedSimpArgs false
set_option maxRecDepth 100000

section
namespace Go.VC
def bitsL (w:Nat):List Nat:=(List.range 64).filter fun j=>w.testBit j
theorem filter_first {f g:Nat->Bool} {k:Nat} (h1:∀j,j<k->f j=false/\g j=false) (h2:f k=true) (h3:g k=false) (h4:∀j,k<j->f j=g j):∀d:Nat,(List.range (k+1+d)).filter f=k::(List.range (k+1+d)).filter g
 | 0=>by
  have e1:(List.range k).filter f=[]:=List.filter_eq_nil_iff.2 fun j hj=>by rw[(h1 j (List.mem_range.1 hj)).1];simp
  have e2:(List.range k).filter g=[]:=List.filter_eq_nil_iff.2 fun j hj=>by rw[(h1 j (List.mem_range.1 hj)).2];simp
  rw[Nat.add_zero,List.range_succ,List.filter_append,List.filter_append,e1,e2];simp[h2,h3]
 | d+1=>by
  have ih:=filter_first h1 h2 h3 h4 d;rw[<-Nat.add_assoc,List.range_succ,List.filter_append,List.filter_append,ih,List.cons_append];congr 2;simp only[List.filter_cons,List.filter_nil,h4 (k+1+d) (by omega)]
theorem bits_step {w:Nat} (h0:w≠0) (h1:w<2^64):bitsL w=Lib.ctz 64 w::bitsL (w&&&(w-1)):=by
 obtain⟨m,hm,hk⟩:=Lib.ctzFrom_spec 64 w (by omega) h1;have hc:Lib.ctz 64 w=Lib.ctzFrom 64 w:=by unfold Lib.ctz;rw[if_neg h0]
 rw[hc];generalize Lib.ctzFrom 64 w=k at hm hk ⊢;have hp:0<2^k:=Nat.two_pow_pos k;have hw1:w-1=2^k*(2*m)+(2^k-1):=by rw[hm,Nat.mul_add];omega
 have tb:∀j,w.testBit j=if j<k then false else (2*m+1).testBit (j-k):=by
  intro j;have e:w=(2*m+1) <<< k:=by rw[Nat.shiftLeft_eq,Nat.mul_comm];exact hm
  rw[e,Nat.testBit_shiftLeft];by_cases hj:j<k
  ·rw[if_pos hj];simp;omega
  ·rw[if_neg hj];simp;omega
 have tb1:∀j,(w-1).testBit j=if j<k then true else (2*m).testBit (j-k):=by
  intro j;rw[hw1,Nat.testBit_two_pow_mul_add _ (by omega)];by_cases hj:j<k
  ·rw[if_pos hj,if_pos hj,Nat.testBit_two_pow_sub_one];simpa using hj
  ·rw[if_neg hj,if_neg hj]
 have odd:∀i,0<i->(2*m+1).testBit i=(2*m).testBit i:=by
  intro i hi;obtain⟨i,rfl⟩:∃i',i=i'+1:=⟨i-1,by omega⟩;rw[Nat.testBit_succ,Nat.testBit_succ];congr 1;omega
 have e:=filter_first (f:=fun j=>w.testBit j) (g:=fun j=>(w&&&(w-1)).testBit j) (k:=k) (fun j hj=>by
   have h2:=tb j;rw[if_pos hj] at h2;exact⟨h2,by rw[Nat.testBit_and,h2];rfl⟩)
  (by show w.testBit k=true;rw[tb,if_neg (by omega),Nat.sub_self];simp[Nat.testBit_zero])
  (by show (w&&&(w-1)).testBit k=false;rw[Nat.testBit_and,tb1,if_neg (by omega),Nat.sub_self];simp[Nat.testBit_zero])
  (fun j hj=>by
   show w.testBit j=(w&&&(w-1)).testBit j;rw[Nat.testBit_and,tb,tb1,if_neg (by omega),if_neg (by omega),odd _ (by omega),Bool.and_self]) (63-k)
 rw[show k+1+(63-k)=64 by omega] at e;exact e
theorem and_pred_lt {w:Nat} (h0:w≠0):w&&&(w-1)<w:=Nat.lt_of_le_of_lt Nat.and_le_right (by omega)
theorem range_flat (p:Nat->Bool):∀n:Nat,(List.range (64*n)).filter p=(List.range n).flatMap fun i=>((List.range 64).filter fun j=>p (64*i+j)).map (64*i + ·)
 | 0=>rfl
 | n+1=>by
  rw[show 64*(n+1)=64*n+64 by omega,List.range_add,List.filter_append,range_flat p n,List.range_succ (n:=n),List.flatMap_append,List.flatMap_singleton,List.filter_map];rfl
theorem flat_tail (f:Nat->List Nat) {n:Nat} (h:∀i,n<=i->f i=[]):∀d:Nat,(List.range (n+d)).flatMap f=(List.range n).flatMap f
 | 0=>rfl
 | d+1=>by rw[<-Nat.add_assoc,List.range_succ,List.flatMap_append,flat_tail f h d,List.flatMap_singleton,h _ (by omega),Yw]
def wordsL (ws:List Nat) (n:Nat):List Nat:=(List.range n).flatMap fun i=>(bitsL (ws.getD i 0)).map (64*i + ·)
theorem wordsL_succ (ws:List Nat) (n:Nat):wordsL ws (n+1)=wordsL ws n++(bitsL (ws.getD n 0)).map (64*n + ·):=by
 unfold wordsL;rw[List.range_succ,List.flatMap_append,List.flatMap_singleton]
theorem elems_words {p:Nat->Bool} {ws:List Nat} (hl:ws.length<=64) (hm:∀k,memB ws k=p k):elems p=wordsL ws ws.length:=by
 unfold elems;rw[show 4096=64*64 from rfl,range_flat];have e:∀i,(((List.range 64).filter fun j=>p (64*i+j)).map (64*i + ·))=(bitsL (ws.getD i 0)).map (64*i + ·):=by
  intro i;congr 1;unfold bitsL;apply List.filter_congr;intro j hj;have hj:=List.mem_range.1 hj;rw[<-hm];unfold memB;rw[show (64*i+j)/64=i by omega,show (64*i+j)%64=j by omega]
 simp only[e];have:=flat_tail (fun i=>(bitsL (ws.getD i 0)).map (64*i + ·)) (n:=ws.length) (fun i hi=>by
  rw[Yo,Yl (by omega),Option.getD_none];have:bitsL 0=[]:=by unfold bitsL;exact List.filter_eq_nil_iff.2 fun j _=>by simp
  rw[this];rfl) (64-ws.length)
 rw[show ws.length+(64-ws.length)=64 by omega] at this;exact this
end Go.VC
end

section
namespace Go.VC
open Go.Proofs Go.LexS Go.Shelf Go.RowKit
attribute [local go_sem] Oper.semAt_some
theorem tz141 (x:Nat) (hx:x<18446744073709551616) (w:World) (hT:TabAt 0 Lib.deBruijn64tab w):CallsIn Fence.wide 1 Pz 274 #[.int .u64 x] w fun e w'=>e=.returned (.int .i64 (Lib.ctz 64 x))/\w'=w:=
 callsIn_wide.2 (Any7.bits_TrailingZeros64 Tryz.lays7_29 x hx w fun _=>hT)
theorem and_nat {w:Nat} (h0:w≠0) (hw:w<2^64):bits BinOp.and IntKind.u64 (w:Int) ((w:Int)-1)=((w&&&(w-1):Nat):Int):=by
 have e1:((w:Int)-1)=((w-1:Nat):Int):=by omega
 rw[e1];show IntKind.u64.wrap ((BitVec.ofInt 64 (w:Int)&&&BitVec.ofInt 64 ((w-1:Nat):Int)).toNat:Int)=_;have ha:(BitVec.ofInt 64 (w:Int)&&&BitVec.ofInt 64 ((w-1:Nat):Int)).toNat=w&&&(w-1):=by
  rw[BitVec.toNat_and];congr 1
  ·simp[BitVec.toNat_ofInt];omega
  ·simp[BitVec.toNat_ofInt];omega
 rw[ha];have hlt:w&&&(w-1)<2^64:=Nat.lt_of_le_of_lt Nat.and_le_left hw;exact wu64 (by omega) (by omega)
theorem wordsL_pre (ws:List Nat) {k n:Nat} (h:k<=n):wordsL ws k <+: wordsL ws n:=by
 obtain⟨d,rfl⟩:∃d,n=k+d:=⟨n-k,by omega⟩;unfold wordsL;rw[List.range_add,List.flatMap_append];exact List.prefix_append _ _
set_option maxRecDepth 100000 in
set_option maxHeartbeats 4000000 in
theorem all90_some (b off len cap:Nat) (ws:List Nat) (hl:ws.length=len) (h64:len<=64) (hw:∀x∈ws,x<2^64) (n₀:Nat) (hb:b<n₀) (hg0:0<n₀) (l:Nat) (J:List Nat->World->Prop)
  (hY:∀pre x W1,J pre W1->pre++[x] <+: wordsL ws len->YieldAt Fence.wide 1 Pz l #[.int .i64 (x:Nat)] W1 fun e W'=>e=.returned (.bool true)/\J (pre++[x]) W'/\Below n₀ W1 W')
  (W:World) (hc:∀j,j<len->W.cell? ⟨b,off+j,none⟩=some (.int .u64 (ws.getD j 0:Nat))) (hT:TabAt 0 Lib.deBruijn64tab W) (h0:J [] W) :
  CallsIn Fence.wide 2 Pz 221 #[.slice (some ⟨b,off,none⟩) len cap,.func (.yield l) #[] #[]] W fun e W'=>(∃v,e=.returned v)/\J (wordsL ws len) W':=by
 refine callsIn_of_wp Tryz.func221 rfl trivial ?_ rfl;simp only[Tryz.ntmps221,List.size_toArray,Yyj,List.length_nil,Nat.reduceAdd,Nat.reduceSub,Array.replicate_succ,Array.replicate_zero,List.push_toArray,List.append_toArray,List.nil_append,List.cons_append]
 gi_wp2
 gi_loopw [9] (fun i wr=>∃k:Nat,k<=len/\i=.int .i64 k/\J (wordsL ws k) wr/\Below n₀ W wr)
  (fun i _=>len-(Proofs.intOf i).toNat)
 case atStart=>exact⟨0,Nat.zero_le _,rfl,h0,Below.refl _ _⟩
 case round=>
  obtain⟨k,hk,rfl,hJs,hnx⟩:=hrel;by_cases hlt:k<len
  ·have hcx:wr.cell? ⟨b,off+k,none⟩=some (.int .u64 (ws.getD k 0:Nat)):=(hnx.cell (p:=⟨b,off+k,none⟩) hb).trans (hc k hlt);have hkl:k<ws.length:=by omega
   have hgd:ws.getD k 0=ws[k]:=by rw[Yo,Yi hkl,Option.getD_some]
   rw[hgd] at hcx;have hwk:ws[k]<2^64:=hw _ (List.getElem_mem hkl);have hsuc:wordsL ws (k+1)=wordsL ws k++(bitsL ws[k]).map (64*k + ·):=by rw[wordsL_succ,hgd]
   have hpre:wordsL ws (k+1) <+: wordsL ws len:=wordsL_pre ws (by omega);generalize ws[k]=wk at hcx hwk hsuc
   gi_wp2
   have hd:decide ((k:Int)<min (len:Int) 64)=true:=decide_eq_true (by omega);simp only[hd]
   gi_loopw [5] (fun c wr'=>∃(cur:Nat) (dn:List Nat),c=.int .u64 cur/\cur<2^64/\dn++bitsL cur=bitsL wk/\J (wordsL ws k++dn.map (64*k + ·)) wr'/\Below n₀ W wr') (fun c _=>(Proofs.intOf c).toNat)
   case atStart=>exact⟨wk,[],rfl,hwk,rfl,by simpa using hJs,hnx⟩
   case round=>
    obtain⟨cur,dn,rfl,hcw,hdn,hJc,hnc⟩:=hrel;by_cases hz:cur=0
    ·subst hz;have hdn':dn=bitsL wk:=by rw[<-hdn];unfold bitsL;simp
     gi_wp2
     refine⟨⟨k+1,by omega,by simp,by rw[hsuc,<-hdn'];exact hJc,hnc⟩,?_⟩;simp[Proofs.intOf];omega
    ·have hst:=bits_step hz hcw;have hTc:TabAt 0 Lib.deBruijn64tab wr:=fun j hj=>(hnc.cell (p:=⟨0,j,none⟩) hg0).trans (hT j hj);obtain⟨fn,tmps,assign,body,hy,hR⟩:=hY _ (64*k+Lib.ctz 64 cur) wr hJc (by
      refine List.IsPrefix.trans ?_ hpre;rw[hsuc,<-hdn,hst,Ym,Yyl];exact⟨(bitsL (cur&&&(cur-1))).map (64*k + ·),by simp⟩)
     gi_wp2_with (refine⟨trivial,?_⟩;gi_at_call 274;refine (tz141 cur (by omega) _ hTc).mono ?_;rintro e w' ⟨rfl,rfl⟩)
     have hc64:Lib.ctz 64 cur<64:=by
      unfold Lib.ctz;rw[if_neg hz];obtain⟨_,_,h⟩:=Lib.ctzFrom_spec 64 cur (by omega) hcw;exact h
     have hwr:wrap64 (64*(k:Int)+(Lib.ctz 64 cur:Nat))=((64*k+Lib.ctz 64 cur:Nat):Int):=by
      rw[IntWalk.wrap64_in _ (by omega)];omega
     rw[hwr,hy]
     gi_wp2
     refine hR.mono ?_;rintro e W999993 ⟨rfl,hJ3,hk3⟩
     gi_wp2
     go_roundw
     case rel=>
      refine⟨cur&&&(cur-1),dn++[Lib.ctz 64 cur],by rw[and_nat hz hcw],Nat.lt_of_le_of_lt Nat.and_le_left hcw,?_,?_,hnc.trans hk3⟩
      ·rw[Yz,List.singleton_append,<-hst];exact hdn
      ·rw[Ym,<-Yz];exact hJ3
     case measure=>
      rw[and_nat hz hcw];simp only[Proofs.intOf,Ys];exact and_pred_lt hz
  ·obtain rfl:k=len:=by omega
   gi_wp2
   go_end0
   exact⟨⟨_,rfl⟩,hJs⟩
set_option maxRecDepth 100000 in
set_option maxHeartbeats 4000000 in
theorem all90_zero (p:Option Addr) (cap l:Nat) (J:List Nat->World->Prop) (W:World) (h0:J [] W) :
  CallsIn Fence.wide 2 Pz 221 #[.slice p 0 cap,.func (.yield l) #[] #[]] W fun e W'=>(∃v,e=.returned v)/\J [] W':=by
 refine callsIn_of_wp Tryz.func221 rfl trivial ?_ rfl;simp only[Tryz.ntmps221,List.size_toArray,Yyj,List.length_nil,Nat.reduceAdd,Nat.reduceSub,Array.replicate_succ,Array.replicate_zero,List.push_toArray,List.append_toArray,List.nil_append,List.cons_append]
 gi_wp2
 gi_loopw [9] (fun i wr=>i=.int .i64 0/\J [] wr) (fun _ _=>0)
 case atStart=>exact⟨rfl,h0⟩
 case round=>
  obtain⟨rfl,hJs⟩:=hrel
  gi_wp2
  go_end0
  exact⟨⟨_,rfl⟩,hJs⟩
theorem all90_yields {s:Sl} {p:Nat->Bool} {w w0:World} (hs:SetV w.heap s p) (hx:Gx w.heap) (hB:Below w.heap.size w w0):Yields Fence.wide 2 Pz 221 #[.slice s.a s.n s.c] (fun x:Nat=>#[Value.int .i64 (x:Nat)]) w.heap.size (elems p) w0:=by
 intro l J W hW hY hJ;obtain⟨ws,hrw,h64,hw,hm⟩:=hs.ex;rw[elems_words h64 hm] at hY ⊢;have hn:s.n=ws.length:=hrw.ln;have hWB:=hB.trans hW;rcases Nat.eq_zero_or_pos ws.length with h0 | h0
 ·have hws:ws=[]:=List.length_eq_zero_iff.1 h0;subst hws;rw[hn];exact all90_zero s.a s.c l J W hJ
 ·obtain⟨b,o,ha,hat⟩:=hrw.2 (by rw[Yc];exact h0);have hcell:∀j,j<ws.length->w.cell? ⟨b,o+j,none⟩=some (.int .u64 (ws.getD j 0:Nat)):=by
   intro j hj;have h1:=hat j (wC (ws.getD j 0)) (by rw[Yd,Yi hj,Yo,Yi hj];rfl);have h2:=h1.hd;rw[Nat.mul_one] at h2;exact h2
  have hb:b<w.heap.size:=by
   have h1:=hcell 0 h0;exact World.block_lt_of_cell? _ _ h1
  have hg0:0<w.heap.size:=by omega
  rw[ha,hn];exact all90_some b o ws.length s.c ws rfl h64 hw w.heap.size hb hg0 l J hY W (fun j hj=>(hWB.cell (p:=⟨b,o+j,none⟩) hb).trans (hcell j hj))
   (fun j hj=>(hWB.cell (p:=⟨0,j,none⟩) hg0).trans (hx.t j hj)) hJ
theorem info3L:(Pz.info? 3).map (fun i=>(i.zero,i.size,i.bytes))=some (some (.int .i64 0),1,8):=by kernel_rfl
theorem elems_len (p:Nat->Bool):(elems p).length<=4096:=by
 unfold elems;exact Yys (List.length_filter_le _ _) (by rw[Yyd];exact Yyt _)
set_option maxRecDepth 100000 in
set_option maxHeartbeats 4000000 in
theorem list42_in (p:Nat->Bool) (s:Sl) (w:World) (hx:Gx w.heap) (hs:SetV w.heap s p) :
  CallsIn Fence.wide 3 Pz 148 #[.slice s.a s.n s.c] w fun e W'=>∃v,e=.returned v/\W'.ownsRow w.heap.size 3 1 v (elems p).length ((elems p).map fun n:Nat=>Value.int .i64 (n:Nat))/\Below w.heap.size w W':=by
 obtain⟨i0,hi,hz0,hz1,hz2⟩:=info_parts info3L;have hlen:=elems_len p;refine callsIn_of_wp_marks Tryz.func148 rfl trivial ?_ rfl;simp only[Tryz.ntmps148,List.size_toArray,Yyj,List.length_nil,Nat.reduceAdd,Nat.reduceSub,Array.replicate_succ,Array.replicate_zero,List.push_toArray,List.append_toArray,List.nil_append,List.cons_append]
 gi_wp2
 have bO:=Boxed.new w 25 (.slice none 0 0);have hB0:Below w.heap.size w (w.alloc (.cells #[.slice none 0 0] 25)):=(Below.refl _ w).alloc (Yyt _) _;refine range_bound (n:=3) rfl (by omega) (gf:=221) (fb:=#[.slice s.a s.n s.c]) rfl trivial (enters_of Tryz.func221 (by kernel_rfl) rfl) (n₀:=w.heap.size) (by simp)
  (all90_yields hs hx hB0) (fun _=>rfl)
  (fun pre W=>(∃v,Boxed W w.heap.size 25 v/\W.ownsRow w.heap.size 3 1 v pre.length (pre.map fun n:Nat=>Value.int .i64 (n:Nat))/\True)/\Below w.heap.size w W)
  (OwnFrom.and (Own.from (holdsRow_own w.heap.size w.heap.size 25 3 1 (fun pre:List Nat=>pre.length) (fun pre=>pre.map fun n:Nat=>Value.int .i64 (n:Nat)) (fun _ _=>True)) _) (ownFrom_below (Yyt _) (by simp)))
  ⟨⟨_,bO,World.ownsRow_nil _ _ _ _,trivial⟩,hB0⟩
  (fun x=>{ tmps:=#[.slice s.a s.n s.c,undef,.slice none 0 0,.pointer (some ⟨w.heap.size,0,none⟩),.int .i64 (x:Nat),.slice s.a s.n s.c,.func (.func 221) #[.slice s.a s.n s.c] #[],.int .i64 (x:Nat),undef,undef,undef,undef,undef],defers:=[] }) ?assign ?body ?done
 case assign=>
  intro l x W K hK
  gi_wp2
  exact hK
 case body=>
  rintro l pre x W ⟨⟨v,hv,hrow,-⟩,hB⟩ hpre;have hc:=hv.cell;have hpl:pre.length<(elems p).length:=by have:=hpre.length_le;simp at this;omega
  gi_wp2_with (gi_at_builtin;refine wpListIn_append_own _ rfl _ _ 25 rfl w.heap.size 3 i0 (.int .i64 0) 1 8 Tryz.underlying25 hi hz0 hz1 hz2 rfl (by decide) _ _ _ rfl (hrow.alloc _) ⟨W.heap.size,0,none⟩ 1 1 [.int .i64 (x:Nat)] rfl rfl (cell_one_new _ _ _) (by simp[Value.oneCell']) (by have:maxLen=9223372036854775807:=rfl;omega) (by omega) (by have:=hB.size;simp;omega) ?_;intro v' w1 hown' hgrow _;obtain⟨g',cap',rfl⟩:=ownsRow_succ hown';obtain⟨hv1,hv2,hr2,hk2,hb2⟩:=hv.appended (by decide) hrow hB.size (Yyt _) hown' hgrow;have hc1:=hv1.cell;have hf1:=hv1.frozen)
  exact⟨⟨_,hv2,by simpa using hr2⟩,hB.trans hb2⟩
 case done=>
  rintro W ⟨⟨v,hv,hrow,-⟩,hB⟩ hK;have hc:=hv.cell
  gi_wp2
  refine⟨by simp,.inl ⟨_,_,rfl,run_takeDeferred hK,?_⟩⟩;exact⟨_,results_tmp rfl _ _ _,v,rfl,ownsRow_putObj hrow _ hK rfl,hB.trans (belowK_b (w:=w) (Yyt _) W _ _ _ (by simp) hK rfl rfl)⟩
theorem list42 (p:Nat->Bool) (s:Sl) (h:Heap) (hx:Gx h) (hs:SetV h s p) :
  Fn Pz 148 #[.slice s.a s.n s.c] h fun v h'=>Ext h h'/\∃r:Sl,v=.slice r.a r.n r.c/\OwnS h' h.size 3 1 r (((elems p).map fun n:Nat=>(n:Int)).map inC).flatten:=by
 intro w hw;subst hw;refine (callsIn_wide.1 (list42_in p s w hx hs)).mono ?_;rintro e w' ⟨v,rfl,hrow,hB⟩;obtain⟨r,hr,hn,ho⟩:=OwnS.of_row hrow;have e1:(((elems p).map fun n:Nat=>(n:Int)).map inC).flatten=(elems p).map fun n:Nat=>Value.int .i64 (n:Nat):=by
  rw[List.map_map]
  induction elems p with
  | nil=>rfl
  | cons a l ih=>rw[Yyl,Yyu,ih];rfl
 exact⟨v,rfl,⟨⟨hB.size,fun k hk=>hB.block k hk⟩,r,hr,by rw[e1];exact ho⟩,hB.os,hB.tape,hB.output,trivial⟩
end Go.VC
end

section

end

section
namespace Go.VC
open Go.Proofs Go.LexS
def isPath (l:Nm):Bool:=decide (l.length<=50)&&(pieces l).all isWord
theorem fn256 (l:Nm) (h:Heap):Fn Pz 300 #[.string (bs l)] h fun v h'=>v=.bool (!isWord l)/\Ext h h':=by
 apply vc300;unfold W300;refine (isword132 (bs l) h).mono ?_;rintro _ h3 ⟨rfl,E⟩;exact⟨_,rfl,rfl,E⟩
theorem cal256:callable Pz 300=true:=by kernel_rfl
theorem idx281 (L:List Nm) (s:Sl) (h:Heap) (hr:RL h 1 s nmC L) :
  Fn Pz 328 #[.slice s.a s.n s.c,.func (.func 300) #[] #[]] h fun v h'=>(∃k:Int,v=.int .i64 k/\decide (k>=0)=L.any fun x=>!isWord x)/\Ext h h':=by
 apply vc328;unfold W328;have hn:=hr.ln;have hm:=hr.sm;have hs:=St.refl h;refine up_loopS (n:=s.n) hs (fun i=>∀(j:Nat) (y:Nm),j<i->L[j]?=some y->(!isWord y)=false) (fun j y hj=>by omega) ?_;rintro-i h5 hi ⟨hs,hd⟩;refine sB_intro (fun l=>?_) (fun l=>?_)
 ·replace l:=lt_t l;refine (hr.ext hs.ext).rw.nbI (by omega) (by omega) fun b o d g t=>?_;replace g:L[i]?=some d:=g;refine⟨_,t.hd,?_⟩;rw[cal256,cond_true];refine (fn256 d h5).mono ?_;rintro _ h11 ⟨rfl,E⟩;replace hs:=hs.step E;refine⟨_,rfl,sB_intro (fun c=>?_) (fun c=>?_)⟩
  ·exact⟨⟨_,rfl,by rw[any_t g (p:=fun x=>!isWord x) c];exact decide_eq_true (by omega)⟩,hs.ext⟩
  ·exact Up.next l (by omega) ⟨hs,scan_next (p:=fun x=>!isWord x) g c hd⟩
 ·replace l:=lt_f l;refine⟨⟨_,rfl,?_⟩,hs.ext⟩;rw[any_f (p:=fun x=>!isWord x) fun j x hj=>hd j x (by have:=(Ya.1 hj).1;omega) hj];rfl
theorem any254 (L:List Nm) (s:Sl) (h:Heap) (hr:RL h 1 s nmC L) :
  Fn Pz 298 #[.slice s.a s.n s.c,.func (.func 300) #[] #[]] h fun v h'=>v=.bool (L.any fun x=>!isWord x)/\Ext h h':=by
 apply vc298;unfold W298;refine (idx281 L s h hr).mono ?_;rintro _ h3 ⟨⟨k,rfl,hk⟩,E⟩;exact⟨_,rfl,by rw[hk],E⟩
theorem any_not (L:List Nm):(!(L.any fun x=>!isWord x))=L.all isWord:=by
 induction L with
 | nil=>rfl
 | cons a L ih=>rw[List.any_cons,List.all_cons,<-ih];cases isWord a<;>simp
theorem path224 (l:Nm) (h:Heap) (hx:Gx h):Fn Pz 258 #[.string (bs l)] h fun v h'=>v=.bool (isPath l)/\Ext h h':=by
 apply vc258;unfold W258;rw[bs_size];refine sBi (fun c=>?_) (fun c=>?_)
 ·have hl:l.length<=50:=by omega
  refine (split255 l h hx hl).mono ?_;rintro _ h3 ⟨E3,s,rfl,hr⟩;refine⟨_,rfl,?_⟩;refine (any254 _ s h3 hr).mono ?_;rintro _ h6 ⟨rfl,E6⟩;refine⟨_,rfl,?_,E3.trans E6⟩;unfold isPath;rw[decide_eq_true hl,any_not];rfl
 ·refine⟨?_,(St.refl h).ext⟩;unfold isPath;rw[decide_eq_false (by omega)];rfl
def allF (L:List Dc):List Fld:=L.flatMap (·.fs)
theorem app130:appB Pz 137 263 4 40=true:=by kernel_rfl
theorem allF_le:∀(L:List Dc),(∀d∈L,d.fs.length<=1048576)->(allF L).length<=L.length*1048576
 | [],_=>by simp[allF]
 | d::L,h=>by
  have h1:=allF_le L fun x hx=>h x (Yn _ hx);have h2:=h d (by simp);unfold allF at *;rw[List.flatMap_cons,Yh,Yyj,Nat.succ_mul];omega
theorem allF_snoc (L:List Dc) (d:Dc):allF (L++[d])=allF L++d.fs:=by unfold allF;rw[List.flatMap_append,List.flatMap_singleton]
theorem fldrows (L:List Fld):∀r∈L.map Fld.cs,r.length=4:=fun r hr=>by obtain⟨x,_,rfl⟩:=Yp.1 hr;rfl
theorem one_of {α:Type} {cs:α->List Value} (h:∀x,(cs x).all oneB=true) (L:List α):(L.map cs).flatten.all oneB=true:=by
 induction L with
 | nil=>rfl
 | cons a L ih=>rw[Yyl,Yyu,List.all_append,h a,ih];rfl
theorem fields223 (L:List Dc) (s:Sl) (h:Heap) (hL:DL h s L) (h40:L.length<=40) :
  Fn Pz 257 #[.slice s.a s.n s.c] h fun v h'=>Ext h h'/\∃r:Sl,v=.slice r.a r.n r.c/\OwnS h' h.size 263 4 r ((allF L).map Fld.cs).flatten:=by
 apply vc257;unfold W257;have hn:=hL.r.ln;have hs:=(St.refl h).nil_ 263 4;refine up_loopA (n:=s.n) hs (fun i rows=>rows=(allF (L.take i)).map Fld.cs) rfl ?_;rintro-i out h6 rows hi hs q;refine sB_intro (fun l=>?_) (fun l=>?_)
 ·replace l:=lt_t l;refine (hL.ext hs.ext).r.rw.nbI (by omega) (by omega) fun b o d g t=>?_;replace g:L[i]?=some d:=g;refine⟨_,_,_,_,_,t,?_⟩;refine hs.newput (vs:=d.cs) rfl rfl fun h15 hs=>?_;refine⟨_,hs.rd 0 rfl rfl,?_⟩;have hd:=(hL.i d (Yb g)).pf.ext hs.ext;have hlen:=(hs.len 1 rfl (by omega)).1;have h1:=allF_le (L.take i) fun x hx=>(hL.i x (List.mem_of_mem_take hx)).pf.sm;have h2:=hd.sm;have h3:=hd.ln;have h4:(L.take i).length*1048576<=40*1048576:=Nat.mul_le_mul_right _ (by rw[Yu];omega);rw[q,Yc] at hlen;refine hs.appRw 1 rfl app130 hd.rw (fldrows _) hd.nil (one_of (fun _=>rfl) _) (by omega) (by simp only[maxLen];omega) fun r h18 hr hs=>?_;refine UpA.next l (by omega) ⟨_,hs.drop 1,?_⟩;rw[q,take_snoc g,allF_snoc,Ym]
 ·replace l:=lt_f l;rw[Yj (by omega)] at q;have:=hs.give 0 rfl;rw[q] at this;exact⟨hs.ext,out,rfl,this⟩
theorem cal226:callable Pz 260=true:=by kernel_rfl
theorem cal229:callable Pz 263=true:=by kernel_rfl
theorem bsEq (a b:Nm):(ByteArray.toList (bs a)==ByteArray.toList (bs b))=decide (a=b):=strEq _ _
theorem fn226 (d:Dc) (n:Nm) (c:Addr) (h:Heap) (hc0:hc h c=some (.string (bs n))):Fn Pz 260 #[.agg ⟨d.cs⟩,.pointer (some c)] h fun v h'=>v=.bool (decide (d.nm=n))/\Ext h h':=by
 apply vc260 (bs d.nm) d.hf d.first d.hd d.he c;unfold W260
 have hs:=St.refl h;refine hs.newb fun h6 hs=>?_;refine⟨_,hs.rd 0 rfl rfl,_,hc_ext hs.ext hc0,?_⟩;rw[bsEq];exact⟨rfl,hs.ext⟩
theorem fn229 (d:Fld) (n:Nm) (c:Addr) (h:Heap) (hc0:hc h c=some (.string (bs n))):Fn Pz 263 #[.agg ⟨d.cs⟩,.pointer (some c)] h fun v h'=>v=.bool (decide (d.nm=n))/\Ext h h':=by
 apply vc263 (bs d.nm) d.k d.lo d.hi c;unfold W263;have hs:=St.refl h;refine hs.newb fun h6 hs=>?_;refine⟨_,hs.rd 0 rfl rfl,_,hc_ext hs.ext hc0,?_⟩;rw[bsEq];exact⟨rfl,hs.ext⟩
theorem has225 (L:List Dc) (n:Nm) (c:Addr) (s:Sl) (h:Heap) (hr:RL h 5 s Dc.cs L) (hc0:hc h c=some (.string (bs n))) :
  Fn Pz 259 #[.slice s.a s.n s.c,.func (.func 260) #[] #[.pointer (some c)]] h fun v h'=>v=.bool (L.any fun d=>decide (d.nm=n))/\Ext h h':=by
 apply vc259;unfold W259;have key:Fn Pz 301 #[.slice s.a s.n s.c,.func (.func 260) #[] #[.pointer (some c)]] h fun v h'=>(∃k:Int,v=.int .i64 k/\decide (k>=0)=L.any fun d=>decide (d.nm=n))/\Ext h h':=by
  apply vc301;unfold W301;have hn:=hr.ln;have hm:=hr.sm;have hs:=St.refl h;refine up_loopS (n:=s.n) hs (fun i=>∀(j:Nat) (y:Dc),j<i->L[j]?=some y->decide (y.nm=n)=false) (fun j y hj=>by omega) ?_;rintro-i h5 hi ⟨hs,hd⟩;refine sB_intro (fun l=>?_) (fun l=>?_)
  ·replace l:=lt_t l;refine (hr.ext hs.ext).rw.nbI (by omega) (by omega) fun b o d g t=>?_;replace g:L[i]?=some d:=g;refine⟨_,_,_,_,_,t,?_⟩;rw[cal226,cond_true];refine (fn226 d n c h5 (hc_ext hs.ext hc0)).mono ?_;rintro _ h11 ⟨rfl,E⟩;replace hs:=hs.step E;refine⟨_,rfl,sB_intro (fun c=>?_) (fun c=>?_)⟩
   ·exact⟨⟨_,rfl,by rw[any_t g (p:=fun d=>decide (d.nm=n)) c];exact decide_eq_true (by omega)⟩,hs.ext⟩
   ·exact Up.next l (by omega) ⟨hs,scan_next (p:=fun d=>decide (d.nm=n)) g c hd⟩
  ·replace l:=lt_f l;refine⟨⟨_,rfl,?_⟩,hs.ext⟩;rw[any_f (p:=fun d:Dc=>decide (d.nm=n)) fun j x hj=>hd j x (by have:=(Ya.1 hj).1;omega) hj];rfl
 refine key.mono ?_;rintro _ h3 ⟨⟨k,rfl,hk⟩,E⟩;exact⟨_,rfl,by rw[hk],E⟩
theorem has228 (L:List Fld) (n:Nm) (c:Addr) (s:Sl) (h:Heap) (hr:RL h 4 s Fld.cs L) (hc0:hc h c=some (.string (bs n))) :
  Fn Pz 262 #[.slice s.a s.n s.c,.func (.func 263) #[] #[.pointer (some c)]] h fun v h'=>v=.bool (L.any fun d=>decide (d.nm=n))/\Ext h h':=by
 apply vc262;unfold W262;have key:Fn Pz 302 #[.slice s.a s.n s.c,.func (.func 263) #[] #[.pointer (some c)]] h fun v h'=>(∃k:Int,v=.int .i64 k/\decide (k>=0)=L.any fun d=>decide (d.nm=n))/\Ext h h':=by
  apply vc302;unfold W302;have hn:=hr.ln;have hm:=hr.sm;have hs:=St.refl h;refine up_loopS (n:=s.n) hs (fun i=>∀(j:Nat) (y:Fld),j<i->L[j]?=some y->decide (y.nm=n)=false) (fun j y hj=>by omega) ?_;rintro-i h5 hi ⟨hs,hd⟩;refine sB_intro (fun l=>?_) (fun l=>?_)
  ·replace l:=lt_t l;refine (hr.ext hs.ext).rw.nbI (by omega) (by omega) fun b o d g t=>?_;replace g:L[i]?=some d:=g;refine⟨_,_,_,_,t,?_⟩;rw[cal229,cond_true];refine (fn229 d n c h5 (hc_ext hs.ext hc0)).mono ?_;rintro _ h11 ⟨rfl,E⟩;replace hs:=hs.step E;refine⟨_,rfl,sB_intro (fun c=>?_) (fun c=>?_)⟩
   ·exact⟨⟨_,rfl,by rw[any_t g (p:=fun d=>decide (d.nm=n)) c];exact decide_eq_true (by omega)⟩,hs.ext⟩
   ·exact Up.next l (by omega) ⟨hs,scan_next (p:=fun d=>decide (d.nm=n)) g c hd⟩
  ·replace l:=lt_f l;refine⟨⟨_,rfl,?_⟩,hs.ext⟩;rw[any_f (p:=fun d:Fld=>decide (d.nm=n)) fun j x hj=>hd j x (by have:=(Ya.1 hj).1;omega) hj];rfl
 refine key.mono ?_;rintro _ h3 ⟨⟨k,rfl,hk⟩,E⟩;exact⟨_,rfl,by rw[hk],E⟩
def SortS (k lo hi:Int):Prop:=k=1 /\ -1000<=lo/\lo<=hi/\hi<=1000\/k=2/\0<=lo/\lo<=hi/\hi<=40
instance (k lo hi:Int):Decidable (SortS k lo hi):=by unfold SortS;infer_instance
theorem sorted227 (k lo hi:Int) (h:Heap):Fn Pz 261 #[.agg ⟨[.int .i64 k,.int .i64 lo,.int .i64 hi]⟩] h fun v h'=>v=.bool (decide (SortS k lo hi))/\Ext h h':=by
 apply vc261 k lo hi;unfold W261;have hs:=St.refl h;refine hs.newb fun h4 hs=>?_;have E:=hs.ext;have r0:=hs.rd 0 rfl (i:=0) rfl;have r1:=hs.rd 0 rfl (i:=1) rfl;have r2:=hs.rd 0 rfl (i:=2) rfl;clear hs
 repeat' first
  | refine Exists.intro k (And.intro r0 ?_)
  | refine Exists.intro lo (And.intro r1 ?_)
  | refine Exists.intro hi (And.intro r2 ?_)
  | refine sBi (fun _=>?_) (fun _=>?_)
  | refine sBe (fun _=>?_) (fun _=>?_)
 all_goals
  refine⟨?_,E⟩;clear r0 r1 r2 E;congr 1;rw[Bool.eq_iff_iff];simp only[decide_eq_true_eq,Bool.false_eq_true,false_iff];unfold SortS;omega
def TextS (all:List Fld) (x:Int):Prop:=0<=x/\∃f,all[x.toNat]?=some f/\f.k=2
structure GuardS (all:List Fld) (ds:List Df) (es:List Eqs):Prop where
 nd:ds.length<=20
 ne:es.length<=20
 d:∀x∈ds,-1<=min x.x x.y/\max x.x x.y<all.length /\ -20000<=x.c/\x.c<=20000
 e:∀x∈es,TextS all x.x/\TextS all x.y
noncomputable instance (all:List Fld) (ds:List Df) (es:List Eqs):Decidable (GuardS all ds es):=Classical.propDecidable _
theorem two_at {x y:Int} {i:Nat} (hi:i<2):List.take 1 (List.drop (Int.toNat (i:Int)*1) ([.int .i64 x,.int .i64 y]:List Value))=[.int .i64 (if i=0 then x else y)]:=by
 rcases i with _ | _ | i
 ·rfl
 ·rfl
 ·omega
theorem guarded230 (all:List Fld) (ds:List Df) (es:List Eqs) (sd se sa:Sl) (h:Heap) (hd:RL h 3 sd Df.cs ds) (he:RL h 2 se Eqs.cs es) (ha:Rw h 4 sa (all.map Fld.cs)) :
  Fn Pz 264 #[.agg ⟨[.slice sd.a sd.n sd.c,.slice se.a se.n se.c]⟩,.slice sa.a sa.n sa.c] h fun v h'=>v=.bool (decide (GuardS all ds es))/\Ext h h':=by
 apply vc264 sd se sa;unfold W264;have hs:=St.refl h;have hnd:=hd.ln;have hne:=he.ln;have hna:=ha.ln;refine hs.newb fun h3 hs=>?_;refine⟨_,hs.rd 0 rfl rfl,?_⟩;refine sBi (fun c1=>?_) (fun c1=>?_)
 ·exact⟨dF fun hG=>by have:=hG.nd;omega,hs.ext⟩
 ·refine⟨_,hs.rd 0 rfl rfl,?_⟩;refine sBi (fun c2=>?_) (fun c2=>?_)
  ·exact⟨dF fun hG=>by have:=hG.ne;omega,hs.ext⟩
  ·refine⟨_,hs.rd 0 rfl rfl,?_⟩;refine up_loopS (n:=sd.n) hs (fun i=>∀(j:Nat) (x:Df),j<i->ds[j]?=some x -> -1<=min x.x x.y/\max x.x x.y<all.length /\ -20000<=x.c/\x.c<=20000) (fun j x hj=>by omega) ?_;rintro-i7 h11 k7 ⟨hs,q7⟩;refine sB_intro (fun l7=>?_) (fun l7=>?_)
   ·have l7:=lt_t l7;refine (hd.ext hs.ext).rw.nbI (by omega) (by omega) fun b12 o13 d12 g12 t12=>?_;replace g12:_[i7]?=some d12:=g12;have hm:=Yb g12;refine⟨_,_,_,t12,?_⟩;refine hs.newput (vs:=d12.cs) rfl rfl fun h18 hs=>?_;refine⟨_,hs.rd 0 rfl rfl,?_⟩;refine⟨_,hs.rd 0 rfl rfl,?_⟩;rw[imin_min];refine sBi (fun c3=>?_) (fun c3=>?_)
    ·exact⟨dF fun hG=>by have:=hG.d _ hm;omega,hs.ext⟩
    ·refine⟨_,hs.rd 0 rfl rfl,?_⟩;refine⟨_,hs.rd 0 rfl rfl,?_⟩;rw[imax_max];refine sBi (fun c4=>?_) (fun c4=>?_)
     ·exact⟨dF fun hG=>by have:=hG.d _ hm;omega,hs.ext⟩
     ·refine⟨_,hs.rd 0 rfl rfl,?_⟩;refine sBi (fun c5=>?_) (fun c5=>?_)
      ·exact⟨dF fun hG=>by have:=hG.d _ hm;omega,hs.ext⟩
      ·refine⟨_,hs.rd 0 rfl rfl,?_⟩;refine sBi (fun c6=>?_) (fun c6=>?_)
       ·exact⟨dF fun hG=>by have:=hG.d _ hm;omega,hs.ext⟩
       ·refine Up.next l7 (by omega) ⟨hs.drop 1,fun j x hj hx=>?_⟩;by_cases e:j=i7
        ·subst e;rw[g12] at hx;cases hx;refine⟨?_,?_,?_,?_⟩<;>omega
        ·exact q7 j x (by omega) hx
   ·have l7:=lt_f l7;have Q7:∀x∈ds,-1<=min x.x x.y/\max x.x x.y<all.length /\ -20000<=x.c/\x.c<=20000:=fun x hx=>by
     obtain⟨j,hj⟩:=Yf.1 hx;exact q7 j x (by have:=(Ya.1 hj).1;omega) hj
    clear q7;refine⟨_,hs.rd 0 rfl rfl,?_⟩;refine up_loopS (n:=se.n) hs (fun i=>∀(j:Nat) (x:Eqs),j<i->es[j]?=some x->TextS all x.x/\TextS all x.y) (fun j x hj=>by omega) ?_;rintro-i27 h31 k27 ⟨hs,q27⟩;refine sB_intro (fun l27=>?_) (fun l27=>?_)
    ·have l27:=lt_t l27;refine (he.ext hs.ext).rw.nbI (by omega) (by omega) fun b32 o33 d32 g32 t32=>?_;replace g32:_[i27]?=some d32:=g32;have hm:=Yb g32;refine⟨_,_,t32,?_⟩;refine hs.newput (vs:=d32.cs) rfl rfl fun h37 hs=>?_;refine⟨_,_,hs.at 0 rfl (n:=2) rfl,?_⟩;refine up_loopS (n:=2) hs (fun i=>∀j,j<i->TextS all (if j=0 then d32.x else d32.y)) (fun j hj=>by omega) ?_;rintro-i40 h44 k40 ⟨hs,q40⟩;refine sBi (fun c7=>?_) (fun c7=>?_)
     ·have l40:i40<2:=by omega
      refine⟨⟨by omega,by omega⟩,_,two_at l40,?_⟩;have hx:GuardS all ds es->TextS all (if i40=0 then d32.x else d32.y):=fun hG=>by
       have:=hG.e _ hm;split
       ·exact this.1
       ·exact this.2
      generalize hxe:(if i40=0 then d32.x else d32.y)=x at *;refine sBi (fun c8=>?_) (fun c8=>?_)
      ·exact⟨dF fun hG=>by have:=(hx hG).1;omega,hs.ext⟩
      ·refine sBi (fun c9=>?_) (fun c9=>?_)
       ·exact⟨dF fun hG=>by obtain⟨f,hf,_⟩:=(hx hG).2;have:=(Ya.1 hf).1;omega,hs.ext⟩
       ·refine (ha.ext hs.ext).nbI (by omega) (by omega) fun b46 o47 d46 g46 t46=>?_;refine⟨_,t46.nth 1 rfl,?_⟩;refine sBn (fun c10=>?_) (fun c10=>?_)
        ·exact⟨dF fun hG=>by obtain⟨f,hf,hk⟩:=(hx hG).2;rw[g46] at hf;cases hf;exact c10 hk,hs.ext⟩
        ·refine Up.next l40 (by omega) ⟨hs,fun j hj=>?_⟩;by_cases e:j=i40
         ·subst e;rw[hxe];exact⟨by omega,d46,g46,c10⟩
         ·exact q40 j (by omega)
     ·have h0:=q40 0 (by omega);have h1:=q40 1 (by omega);refine Up.next l27 (by omega) ⟨hs.drop 1,fun j x hj hx=>?_⟩;by_cases e:j=i27
      ·subst e;rw[g32] at hx;cases hx;exact⟨h0,h1⟩
      ·exact q27 j x (by omega) hx
    ·have l27:=lt_f l27;have Q27:∀x∈es,TextS all x.x/\TextS all x.y:=fun x hx=>by
      obtain⟨j,hj⟩:=Yf.1 hx;exact q27 j x (by have:=(Ya.1 hj).1;omega) hj
     exact⟨dT ⟨by omega,by omega,Q7,Q27⟩,hs.ext⟩
structure FldS (fs:List Fld) (i:Nat) (f:Fld):Prop where
 pw:isWord f.nm=true
 ps:SortS f.k f.lo f.hi
 pd:((fs.take i).any fun x=>decide (x.nm=f.nm))=false
structure DcS (L:List Dc) (i:Nat) (d:Dc):Prop where
 pp:isPath d.nm=true
 pn:d.fs.length<=4
 pf:d.first=((allF (L.take i)).length:Nat)
 pd:((L.take i).any fun x=>decide (x.nm=d.nm))=false
 pfs:∀k f,d.fs[k]?=some f->FldS d.fs k f
 pg:GuardS (allF L) d.ds d.es
structure DeclS (L:List Dc):Prop where
 pn:L.length<=40
 pv:(allF L).length<=24
 pd:∀i d,L[i]?=some d->DcS L i d
noncomputable instance (L:List Dc):Decidable (DeclS L):=Classical.propDecidable _
theorem allF_take (L:List Dc) (i:Nat):(allF (L.take i)).length<=(allF L).length:=by
 have:allF L=allF (L.take i)++allF (L.drop i):=by unfold allF;rw[<-List.flatMap_append,List.take_append_drop]
 rw[this,Yh];omega
theorem bF {b:Bool} (h:(!b)=true):b=false:=by cases b<;>simp_all
theorem bT {b:Bool} (h:(!b)=false):b=true:=by cases b<;>simp_all
theorem valid191 (L:List Dc) (s:Sl) (h:Heap) (hL:DL h s L) (hx:Gx h) :
  Fn Pz 207 #[.slice s.a s.n s.c] h fun v h'=>v=.bool (decide (DeclS L))/\Ext h h':=by
 apply vc207;unfold W207;have hs:=St.refl h;have hn:=hL.r.ln;have hsm:=hL.r.sm;refine sBi (fun c1=>?_) (fun c1=>?_)
 ·exact⟨dF fun hG=>by have:=hG.pn;omega,hs.ext⟩
 ·refine (fields223 L s h hL (by omega)).mono ?_;rintro _ h3 ⟨E3,x2,rfl,hall⟩;replace hs:=hs.gift E3 hall (fldrows _);have hxn:x2.n=(allF L).length:=(hs.rows 0 rfl (by omega)).ln;refine⟨_,rfl,?_⟩;refine sBi (fun c2=>?_) (fun c2=>?_)
  ·exact⟨dF fun hG=>by have:=hG.pv;omega,hs.ext⟩
  ·refine⟨fun at_7 x_8 h' m=>∃i:Nat,x_8=i/\m=s.n-i/\i<=s.n/\St h h' [.sl x2 263 4 ((allF L).map Fld.cs)]/\(at_7=((allF (L.take i)).length:Nat))/\∀j d,j<i->L[j]?=some d->DcS L j d,⟨_,0,rfl,rfl,by omega,hs,rfl,fun j d hj=>by omega⟩,?_⟩;rintro-_ _ h9 m ⟨i,rfl,rfl,hi,hs,rfl,q⟩;refine sBi (fun c3=>?_) (fun c3=>?_)
   ·have l3:i<s.n:=by omega
    refine (hL.ext hs.ext).r.rw.nbI (by omega) (by omega) fun b10 o11 d10 g10 t10=>?_;replace g10:_[i]?=some d10:=g10;have hle:=allF_take L i;have hd:=hL.i d10 (Yb g10);refine⟨_,_,_,_,_,t10,?_⟩;refine hs.newput (vs:=d10.cs) rfl rfl fun h18 hs=>?_;refine⟨_,hs.rd 0 rfl rfl,?_⟩;refine (path224 d10.nm h18 (hx.ext hs.ext)).mono ?_;rintro _ h22 ⟨rfl,Eh22⟩;replace hs:=hs.step Eh22;refine⟨_,rfl,?_⟩;refine sB_intro (fun c4=>?_) (fun c4=>?_)
    ·exact⟨dF fun hG=>(by have:=(hG.pd i _ g10).pp;rw[bF c4] at this;cases this),hs.ext⟩
    ·refine⟨_,hs.rd 0 rfl rfl,?_⟩;have hfl:=hd.pf.ln;refine sBi (fun c5=>?_) (fun c5=>?_)
     ·exact⟨dF fun hG=>by have:=(hG.pd i _ g10).pn;omega,hs.ext⟩
     ·refine⟨_,hs.rd 0 rfl rfl,?_⟩;refine sBn (fun c6=>?_) (fun c6=>?_)
      ·exact⟨dF fun hG=>c6 (hG.pd i _ g10).pf,hs.ext⟩
      ·have hcap:=hL.r.cap;refine⟨by omega,?_⟩;refine (has225 (L.take i) d10.nm _ _ h22 ((hL.r.ext hs.ext).take (by omega)) (hs.rd 0 rfl rfl)).mono ?_;rintro _ h27 ⟨rfl,Eh27⟩;replace hs:=hs.step Eh27;refine⟨_,rfl,?_⟩;refine sB_intro (fun c7=>?_) (fun c7=>?_)
       ·exact⟨dF fun hG=>(by have:=(hG.pd i _ g10).pd;rw[c7] at this;cases this),hs.ext⟩
       ·refine⟨_,hs.rd 0 rfl rfl,?_⟩;refine⟨_,hs.rd 0 rfl rfl,?_⟩;refine up_loopS (n:=d10.hf.n) hs (fun k=>∀(j:Nat) (f:Fld),j<k->d10.fs[j]?=some f->FldS d10.fs j f) (fun j x hj=>by omega) ?_;rintro-i30 h34 k30 ⟨hs,q30⟩;refine sB_intro (fun l30=>?_) (fun l30=>?_)
        ·have l30:=lt_t l30;refine (hd.pf.ext hs.ext).rw.nbI (by omega) (by omega) fun b35 o36 d35 g35 t35=>?_;replace g35:_[i30]?=some d35:=g35;refine⟨_,_,_,_,t35,?_⟩;refine hs.newput (vs:=d35.cs) rfl rfl fun h42 hs=>?_;refine⟨_,hs.rd 0 rfl rfl,?_⟩;refine (isword132 (bs d35.nm) h42).mono ?_;rintro _ h46 ⟨rfl,Eh46⟩;replace hs:=hs.step Eh46;refine⟨_,rfl,?_⟩;rw[bs_list];refine sB_intro (fun c8=>?_) (fun c8=>?_)
         ·exact⟨dF fun hG=>(by have:=((hG.pd i _ g10).pfs _ _ g35).pw;rw[bF c8] at this;cases this),hs.ext⟩
         ·refine⟨_,_,_,hs.at 0 rfl (n:=3) rfl,?_⟩;refine (sorted227 d35.k d35.lo d35.hi h46).mono ?_;rintro _ h52 ⟨rfl,Eh52⟩;replace hs:=hs.step Eh52;refine⟨_,rfl,?_⟩;refine sB_intro (fun c9=>?_) (fun c9=>?_)
          ·exact⟨dF fun hG=>Yyo (bF c9) ((hG.pd i _ g10).pfs _ _ g35).ps,hs.ext⟩
          ·refine⟨_,hs.rd 1 rfl rfl,?_⟩;have hcap:=hd.pf.cap;refine⟨⟨by omega,by omega,by omega⟩,?_⟩;refine (has228 (d10.fs.take i30) d35.nm _ _ h52 ((hd.pf.ext hs.ext).take (by omega)) (hs.rd 0 rfl rfl)).mono ?_;rintro _ h56 ⟨rfl,Eh56⟩;replace hs:=hs.step Eh56;refine⟨_,rfl,?_⟩;refine sB_intro (fun c10=>?_) (fun c10=>?_)
           ·exact⟨dF fun hG=>(by have:=((hG.pd i _ g10).pfs _ _ g35).pd;rw[c10] at this;cases this),hs.ext⟩
           ·refine Up.next l30 (by omega) ⟨hs.drop 1,fun j f hj hf=>?_⟩;by_cases e:j=i30
            ·subst e;rw[g35] at hf;cases hf;exact⟨bT c8,Yyn (bT c9),c10⟩
            ·exact q30 j f (by omega) hf
        ·have l30:=lt_f l30;have Q30:∀k f,d10.fs[k]?=some f->FldS d10.fs k f:=fun k f hf=>q30 k f (by have:=(Ya.1 hf).1;omega) hf;refine⟨_,_,hs.at 0 rfl (n:=2) rfl,?_⟩;refine (guarded230 (allF L) d10.ds d10.es d10.hd d10.he x2 h34 (hd.pd.ext hs.ext) (hd.pe.ext hs.ext) (hs.rows 1 rfl (by omega))).mono ?_;rintro _ h62 ⟨rfl,Eh62⟩;replace hs:=hs.step Eh62;refine⟨_,rfl,?_⟩;refine sB_intro (fun c11=>?_) (fun c11=>?_)
         ·exact⟨dF fun hG=>Yyo (bF c11) (hG.pd i _ g10).pg,hs.ext⟩
         ·refine⟨_,by omega,i+1,?_,rfl,by omega,hs.drop 1,?_,fun j d hj hd'=>?_⟩
          ·rw[w64 (by omega) (by omega)];omega
          ·rw[take_snoc g10,allF_snoc,Yh,w64 (by omega) (by omega)];omega
          ·by_cases e:j=i
           ·subst e;rw[g10] at hd';cases hd';exact⟨bT c4,by omega,c6,c7,Q30,Yyn (bT c11)⟩
           ·exact q j d (by omega) hd'
   ·exact⟨dT ⟨by omega,by omega,fun i' d hd=>q i' d (by have:=(Ya.1 hd).1;omega) hd⟩,hs.ext⟩
theorem app131:appB Pz 138 363 3 24=true:=by kernel_rfl
theorem dfrows (L:List Df):∀r∈L.map Df.cs,r.length=3:=fun r hr=>by obtain⟨x,_,rfl⟩:=Yp.1 hr;rfl
theorem bounds192 (d:Dc) (h:Heap) (hd:DI h d) (h4:d.fs.length<=4) (h5:d.ds.length<=20) (h6:d.es.length<=20) :
  Fn Pz 208 #[.agg ⟨d.cs⟩] h fun v h'=>Ext h h'/\∃s:Sl,v=.slice s.a s.n s.c:=by
 apply vc208 (bs d.nm) d.hf d.first d.hd d.he;unfold W208
 have hs:=St.refl h;have n1:=hd.pf.ln;have n2:=hd.pd.ln;have n3:=hd.pe.ln;refine hs.newb fun h6 hs=>?_;refine⟨_,hs.rd 0 rfl rfl,?_⟩;refine up_loopA (n:=d.hf.n) (hs.nil_ 363 3) (fun i rows=>rows.length=2*i) rfl ?_;rintro-i out_11 h13 rows hi hs q;refine sB_intro (fun l=>?_) (fun l=>?_)
 ·replace l:=lt_t l;refine (hd.pf.ext hs.ext).rw.nbI (by omega) (by omega) fun b14 o15 d14 g14 t14=>?_;refine⟨_,_,_,_,t14,?_⟩;refine hs.newput (vs:=d14.cs) rfl rfl fun h21 hs=>?_;refine⟨_,hs.rd 2 rfl rfl,?_⟩;refine⟨_,hs.rd 0 rfl rfl,?_⟩;refine⟨_,hs.rd 2 rfl rfl,?_⟩;refine⟨_,hs.rd 0 rfl rfl,?_⟩;have hl:=(hs.len 1 rfl (by omega)).1;refine hs.app 1 rfl app131 (m:=2) [[_,_,_],[_,_,_]] rfl rfl (by simp) rfl (by omega) (by simp only[maxLen];omega) fun s27 h28 ns27 hs=>?_;exact UpA.next l (by omega) ⟨_,hs.drop 1,by rw[Yh,q];rfl⟩
 ·replace l:=lt_f l;refine⟨_,hs.rd 1 rfl rfl,?_⟩;have hl:=(hs.len 0 rfl (by omega)).1;refine hs.appRw 0 rfl app131 (hd.pd.ext hs.ext).rw (dfrows _) hd.pd.nil (one_of (fun _=>rfl) _) (by omega) (by simp only[maxLen];omega) fun s31 h32 ns31 hs=>?_;refine⟨_,hs.rd 1 rfl rfl,?_⟩;refine up_loopA (n:=d.he.n) hs (fun i rows=>rows.length<=28+2*i) (by rw[Yh,Yc];omega) ?_;rintro-i out_37 h39 rows hi hs q;refine sB_intro (fun l=>?_) (fun l=>?_)
  ·replace l:=lt_t l;refine (hd.pe.ext hs.ext).rw.nbI (by omega) (by omega) fun b40 o41 d40 g40 t40=>?_;refine⟨_,_,t40,?_⟩;refine hs.newput (vs:=d40.cs) rfl rfl fun h45 hs=>?_;refine⟨by omega,_,hs.rd 0 rfl (i:=0) rfl,by omega,_,hs.rd 0 rfl (i:=1) rfl,by omega,_,hs.rd 0 rfl (i:=1) rfl,by omega,_,hs.rd 0 rfl (i:=0) rfl,?_⟩;have hl:=(hs.len 1 rfl (by omega)).1;refine hs.app 1 rfl app131 (m:=2) [[_,_,_],[_,_,_]] rfl rfl (by simp) rfl (by omega) (by simp only[maxLen];omega) fun s51 h52 ns51 hs=>?_;exact UpA.next l (by omega) ⟨_,hs.drop 1,by rw[Yh];show _+2<=_;omega⟩
  ·exact⟨hs.ext,out_37,rfl⟩
theorem bounds134 (L:List Dc) (s:Sl) (h:Heap) (hL:DL h s L) (hx:Gx h) (hne:L≠[]) :
  Fn Pz 142 #[.slice s.a s.n s.c,.int .i64 0] h fun v h'=>Ext h h'/\∃s:Sl,v=.tuple ⟨[.slice s.a s.n s.c,.int .i64 (if DeclS L then 0 else 1)]⟩:=by
 apply vc142;unfold W142;have hn:=hL.r.ln;have hpos:0<L.length:=List.length_pos_iff.2 hne;have hs:=St.refl h;refine sBi (fun c1=>by omega) (fun c1=>?_);refine sBi (fun c2=>by omega) (fun c2=>?_);refine (valid191 L s h hL hx).mono ?_;rintro _ h3 ⟨rfl,Eh3⟩;replace hs:=hs.step Eh3;refine⟨_,rfl,?_⟩;refine sB_intro (fun c3=>?_) (fun c3=>?_)
 ·rw[if_neg (Yyo (bF c3))];exact⟨hs.ext,⟨none,0,0⟩,rfl⟩
 ·have hD:=Yyn (bT c3);rw[if_pos hD];refine (hL.ext hs.ext).r.rw.nbI (by omega) (by omega) fun b4 o5 d4 g4 t4=>?_;refine⟨_,_,_,_,_,t4,?_⟩;have hd:=hD.pd _ _ g4;refine (bounds192 d4 h3 ((hL.i d4 (Yb g4)).ext hs.ext) hd.pn hd.pg.nd hd.pg.ne).mono ?_;rintro _ h13 ⟨Eh13,r,rfl⟩;exact⟨_,rfl,(hs.step Eh13).ext,r,rfl⟩
theorem declared78 (L:List Dc) (s:Sl) (h:Heap) (hL:DL h s L) (hx:Gx h):Fn Pz 100 #[.slice s.a s.n s.c] h fun v h'=>v=.bool (decide (DeclS L))/\Ext h h':=by
 apply vc100;unfold W100;have hn:=hL.r.ln;refine sBe (fun c1=>?_) (fun c1=>?_)
 ·have:L=[]:=List.length_eq_zero_iff.1 (by omega);subst this;exact⟨dT ⟨by simp,by simp[allF],fun i d hd=>by simp at hd⟩,(St.refl h).ext⟩
 ·refine (bounds134 L s h hL hx (fun e=>by subst e;simp at hn;omega)).mono ?_;rintro _ h4 ⟨E,r,rfl⟩;refine⟨_,_,rfl,?_,E⟩;by_cases hD:DeclS L
  ·rw[if_pos hD,decide_eq_true hD];rfl
  ·rw[if_neg hD,decide_eq_false hD];rfl

structure NamedS (g:Gl):Prop where
 w:isWord g.nm=true
 n1:1<=g.rs.length
 n6:g.rs.length<=6
 r:∀i s,g.rs[i]?=some s->isWord s=true/\s∉g.rs.take i
noncomputable instance (g:Gl):Decidable (NamedS g):=Classical.propDecidable _
theorem named76 (g:Gl) (h:Heap) (hg:GI h g):Fn Pz 98 #[g.v] h fun v h'=>v=.bool (decide (NamedS g))/\Ext h h':=by
 apply vc98 (bs g.nm) g.hr g.hd g.n g.s g.e g.he g.ht;unfold W98;have hs:=St.refl h;have hn:=hg.r.ln;have hcap:=hg.r.cap;refine hs.newb fun h9 hs=>?_;refine⟨_,hs.rd 0 rfl rfl,?_⟩;refine (isword132 _ _).mono ?_;rintro _ h13 ⟨rfl,Eh13⟩;replace hs:=hs.step Eh13;refine⟨_,rfl,?_⟩;refine sB_intro (fun c1=>?_) (fun c1=>?_)
 ·skip
  exact⟨dF fun hG=>(by have:=hG.w;rw[show isWord g.nm=false from bF c1] at this;cases this),hs.ext⟩
 ·skip
  refine⟨_,hs.rd 0 rfl rfl,?_⟩;refine sBi (fun c2=>?_) (fun c2=>?_)
  ·skip
   exact⟨dF fun hG=>(by have:=hG.n1;omega),hs.ext⟩
  ·skip
   refine⟨_,hs.rd 0 rfl rfl,?_⟩;refine sBi (fun c3=>?_) (fun c3=>?_)
   ·skip
    exact⟨dF fun hG=>(by have:=hG.n6;omega),hs.ext⟩
   ·skip
    refine⟨_,hs.rd 0 rfl rfl,?_⟩;refine up_loopS (n:=g.hr.n) hs (fun i17=>∀(j:Nat) (s:Nm),j<i17->g.rs[j]?=some s->isWord s=true/\s∉g.rs.take j) (fun j s hj=>by omega) ?_;rintro-i17 h21 k17 ⟨hs,q17⟩;refine sB_intro (fun l17=>?_) (fun l17=>?_)
    ·have l17:=lt_t l17;refine ((hg.r.ext hs.ext).rw).nbI (by omega) (by omega) fun b22 o23 d22 g22 t22=>?_;replace g22:_[i17]?=some d22:=g22;refine⟨_,t22.hd,?_⟩;refine (isword132 _ _).mono ?_;rintro _ h27 ⟨rfl,Eh27⟩;replace hs:=hs.step Eh27;refine⟨_,rfl,?_⟩;refine sB_intro (fun c4=>?_) (fun c4=>?_)
     ·skip
      exact⟨dF fun hG=>(by have:=(hG.r _ _ g22).1;rw[show isWord d22=false from bF c4] at this;cases this),hs.ext⟩
     ·skip
      refine⟨_,hs.rd 0 rfl rfl,?_⟩;refine⟨by omega,?_⟩;refine (has133 (g.rs.take i17) (bs d22) ⟨subA g.hr.a (Int.toNat 0) g.hr.c 1,Int.toNat (i17:Int)-Int.toNat 0,g.hr.c-Int.toNat 0⟩ _ ((hg.r.ext hs.ext).take (by omega))).mono ?_;rintro _ h31 ⟨rfl,rfl⟩;refine⟨_,rfl,?_⟩;refine sB_intro (fun c5=>?_) (fun c5=>?_)
      ·skip
       exact⟨dF fun hG=>(hG.r _ _ g22).2 (Yyn c5),hs.ext⟩
      ·skip
       exact Up.next l17 (by omega) ⟨hs,fun j s hj hx=>by by_cases e:j=i17;(subst e;rw[g22] at hx;cases hx;exact⟨bT c4,Yyo c5⟩);exact q17 j s (by omega) hx⟩
    ·have l17:=lt_f l17;exact⟨dT ⟨bT c1,by omega,by omega,fun j s hx=>q17 j s (by have:=(Ya.1 hx).1;omega) hx⟩,hs.ext⟩
def EdS (g:Gl) (x:Ed):Prop:=0<=x.f/\0<=x.t/\0<=x.a/\0<=x.b/\0<=x.l/\x.f<g.n/\x.t<g.n/\x.a<g.rs.length/\x.b<g.rs.length/\x.a≠x.b/\x.l<g.ds.length
structure NumS (g:Gl):Prop where
 n:1<=g.n/\g.n<=200/\0<=g.s/\0<=g.e/\g.s<g.n/\g.e<g.n
 m:g.es.length<=400
 e:∀x∈g.es,EdS g x
noncomputable instance (g:Gl):Decidable (NumS g):=Classical.propDecidable _
theorem numbered77 (g:Gl) (h:Heap) (hg:GI h g):Fn Pz 99 #[g.v] h fun v h'=>v=.bool (decide (NumS g))/\Ext h h':=by
 apply vc99 (bs g.nm) g.hr g.hd g.n g.s g.e g.he g.ht;unfold W99;have hs:=St.refl h;have hn:=hg.e.ln;have hnr:=hg.r.ln;have hnd:=hg.d.r.ln;simp only[imin_min,imax_max];refine hs.newb fun h9 hs=>?_;refine⟨_,hs.rd 0 rfl rfl,?_⟩;refine sBi (fun c1=>?_) (fun c1=>?_);rotate_left;refine⟨_,hs.rd 0 rfl rfl,?_⟩;refine sBi (fun c2=>?_) (fun c2=>?_);rotate_left;refine⟨_,hs.rd 0 rfl rfl,?_⟩;refine⟨_,hs.rd 0 rfl rfl,?_⟩;refine sBi (fun c3=>?_) (fun c3=>?_);rotate_left;refine⟨_,hs.rd 0 rfl rfl,?_⟩;refine⟨_,hs.rd 0 rfl rfl,?_⟩;refine⟨_,hs.rd 0 rfl rfl,?_⟩;refine sBi (fun c4=>?_) (fun c4=>?_);rotate_left;refine⟨_,hs.rd 0 rfl rfl,?_⟩;refine sBi (fun c5=>?_) (fun c5=>?_);rotate_left;refine⟨_,hs.rd 0 rfl rfl,?_⟩;refine up_loopS (n:=g.he.n) hs (fun i19=>∀(j:Nat) (x:Ed),j<i19->g.es[j]?=some x->EdS g x) (fun j s hj=>by omega) ?_;rintro-i19 h23 k19 ⟨hs,q19⟩;refine sB_intro (fun l19=>?_) (fun l19=>?_);have l19:=lt_t l19;refine ((hg.e.ext hs.ext).rw).nbI (by omega) (by omega) fun b24 o25 d24 g24 t24=>?_;replace g24:_[i19]?=some d24:=g24;refine⟨_,_,_,_,_,_,t24,?_⟩;refine hs.newput rfl rfl fun h33 hs=>?_;refine⟨_,_,_,hs.at 0 rfl (n:=3) rfl,?_⟩;refine hs.newput rfl rfl fun h38 hs=>?_;refine⟨_,hs.rd 1 rfl rfl,?_⟩;refine⟨_,hs.rd 1 rfl rfl,?_⟩;refine⟨_,hs.rd 0 rfl rfl,?_⟩;refine⟨_,hs.rd 0 rfl rfl,?_⟩;refine⟨_,hs.rd 0 rfl rfl,?_⟩;refine sBi (fun c6=>?_) (fun c6=>?_);rotate_left;refine⟨_,hs.rd 1 rfl rfl,?_⟩;refine⟨_,hs.rd 1 rfl rfl,?_⟩;refine⟨_,hs.rd 2 rfl rfl,?_⟩;refine sBi (fun c7=>?_) (fun c7=>?_);rotate_left;refine⟨_,hs.rd 0 rfl rfl,?_⟩;refine⟨_,hs.rd 0 rfl rfl,?_⟩;refine⟨_,hs.rd 2 rfl rfl,?_⟩;refine sBi (fun c8=>?_) (fun c8=>?_);rotate_left;refine⟨_,hs.rd 0 rfl rfl,?_⟩;refine⟨_,hs.rd 0 rfl rfl,?_⟩;refine sBe (fun c9=>?_) (fun c9=>?_);rotate_left;refine⟨_,hs.rd 0 rfl rfl,?_⟩;refine⟨_,hs.rd 2 rfl rfl,?_⟩;refine sBi (fun c10=>?_) (fun c10=>?_);rotate_left;exact Up.next l19 (by omega) ⟨hs.drop 2,fun j x hj hx=>by by_cases e:j=i19;(subst e;rw[g24] at hx;cases hx;unfold EdS;omega);exact q19 j x (by omega) hx⟩;have l19:=lt_f l19;exact⟨dT ⟨by omega,by omega,fun x hx=>by obtain⟨j,hj⟩:=Yf.1 hx;exact q19 j x (by have:=(Ya.1 hj).1;omega) hj⟩,hs.ext⟩;all_goals first | exact⟨dF fun hG=>(by have:=hG.n;have:=hG.m;first | omega | (have:=hG.e _ (Yb g24);unfold EdS at this;omega)),hs.ext⟩
def PairBad (i k:Nat) (x y:Ed):Prop:=(i≠k/\x.f=y.f/\((x.a=y.a/\x.b=y.b/\x.l=y.l)\/x.a≠y.a\/x.ag=true))\/(x.ag=true/\y.t=x.f/\(x.a≠y.a\/x.l≠y.l))
structure OrdS (g:Gl):Prop where
 e:∀x∈g.es,x.f≠g.e
 s:∀x∈g.es,x.ag=true->x.f≠g.s
 p:∀i x,g.es[i]?=some x->∀k y,g.es[k]?=some y->¬PairBad i k x y
noncomputable instance (g:Gl):Decidable (OrdS g):=Classical.propDecidable _
set_option maxHeartbeats 1600000 in
theorem ordered79 (g:Gl) (h:Heap) (hg:GI h g):Fn Pz 101 #[g.v] h fun v h'=>v=.bool (decide (OrdS g))/\Ext h h':=by
 apply vc101 (bs g.nm) g.hr g.hd g.n g.s g.e g.he g.ht;unfold W101 V101a V101b;have hs:=St.refl h;have hn:=hg.e.ln;have hsm:=hg.e.sm;refine hs.newb fun h9 hs=>?_;refine⟨_,hs.rd 0 rfl rfl,?_⟩;refine up_loopS (n:=g.he.n) hs (fun i11=>∀(j:Nat) (x:Ed),j<i11->g.es[j]?=some x->x.f≠g.e/\(x.ag=true->x.f≠g.s)/\∀k y,g.es[k]?=some y->¬PairBad j k x y) (fun j s hj=>by omega) ?_;rintro-i11 h15 k11 ⟨hs,q11⟩;refine sB_intro (fun l11=>?_) (fun l11=>?_);have l11:=lt_t l11;refine ((hg.e.ext hs.ext).rw).nbI (by omega) (by omega) fun b16 o17 d16 g16 t16=>?_;replace g16:_[i11]?=some d16:=g16;refine⟨_,_,_,_,_,_,t16,?_⟩;refine hs.newput rfl rfl fun h25 hs=>?_;refine⟨_,hs.rd 0 rfl rfl,?_⟩;refine⟨_,hs.rd 1 rfl rfl,?_⟩;refine sBe (fun c1=>?_) (fun c1=>?_);rotate_left;refine⟨_,hs.rd 0 rfl rfl,?_⟩;refine sB_intro (fun c2=>?_) (fun c2=>?_);refine⟨_,hs.rd 0 rfl rfl,?_⟩;refine⟨_,hs.rd 1 rfl rfl,?_⟩;refine sBe (fun c3=>?_) (fun c3=>?_);rotate_left;refine⟨_,hs.rd 1 rfl rfl,?_⟩;refine up_loopS (n:=g.he.n) hs (fun i32=>∀(k:Nat) (y:Ed),k<i32->g.es[k]?=some y->¬PairBad i11 k d16 y) (fun j s hj=>by omega) ?_;rintro-i32 h36 k32 ⟨hs,q32⟩;refine sB_intro (fun l32=>?_) (fun l32=>?_);have l32:=lt_t l32;refine ((hg.e.ext hs.ext).rw).nbI (by omega) (by omega) fun b37 o38 d37 g37 t37=>?_;replace g37:_[i32]?=some d37:=g37;refine⟨_,_,_,_,_,_,t37,?_⟩;refine hs.newput rfl rfl fun h46 hs=>?_;refine sBn (fun c4=>?_) (fun c4=>?_);refine⟨_,hs.rd 1 rfl rfl,?_⟩;refine⟨_,hs.rd 0 rfl rfl,?_⟩;refine sBe (fun c5=>?_) (fun c5=>?_);refine⟨_,_,_,hs.at 1 rfl (n:=3) rfl,?_⟩;refine⟨_,_,_,hs.at 0 rfl (n:=3) rfl,?_⟩;refine sB_intro (fun c6=>?_) (fun c6=>?_);rotate_left;refine⟨_,hs.rd 1 rfl rfl,?_⟩;refine⟨_,hs.rd 0 rfl rfl,?_⟩;refine sBn (fun c7=>?_) (fun c7=>?_);rotate_left;refine⟨_,hs.rd 1 rfl rfl,?_⟩;refine sB_intro (fun c8=>?_) (fun c8=>?_);rotate_left;refine⟨_,hs.rd 1 rfl rfl,?_⟩;refine sB_intro (fun c9=>?_) (fun c9=>?_);refine⟨_,hs.rd 0 rfl rfl,?_⟩;refine⟨_,hs.rd 1 rfl rfl,?_⟩;refine sBe (fun c10=>?_) (fun c10=>?_);refine⟨_,hs.rd 1 rfl rfl,?_⟩;refine⟨_,hs.rd 0 rfl rfl,?_⟩;refine sBn (fun c11=>?_) (fun c11=>?_);rotate_left;refine⟨_,hs.rd 1 rfl rfl,?_⟩;refine⟨_,hs.rd 0 rfl rfl,?_⟩;refine sBn (fun c12=>?_) (fun c12=>?_);rotate_left;rotate_left;rotate_left;rotate_left;refine⟨_,hs.rd 1 rfl rfl,?_⟩;refine sB_intro (fun c13=>?_) (fun c13=>?_);refine⟨_,hs.rd 0 rfl rfl,?_⟩;refine⟨_,hs.rd 1 rfl rfl,?_⟩;refine sBe (fun c14=>?_) (fun c14=>?_);refine⟨_,hs.rd 1 rfl rfl,?_⟩;refine⟨_,hs.rd 0 rfl rfl,?_⟩;refine sBn (fun c15=>?_) (fun c15=>?_);rotate_left;refine⟨_,hs.rd 1 rfl rfl,?_⟩;refine⟨_,hs.rd 0 rfl rfl,?_⟩;refine sBn (fun c16=>?_) (fun c16=>?_);rotate_left;rotate_left;rotate_left;rotate_left;refine⟨_,hs.rd 1 rfl rfl,?_⟩;refine sB_intro (fun c17=>?_) (fun c17=>?_);refine⟨_,hs.rd 0 rfl rfl,?_⟩;refine⟨_,hs.rd 1 rfl rfl,?_⟩;refine sBe (fun c18=>?_) (fun c18=>?_);refine⟨_,hs.rd 1 rfl rfl,?_⟩;refine⟨_,hs.rd 0 rfl rfl,?_⟩;refine sBn (fun c19=>?_) (fun c19=>?_);rotate_left;refine⟨_,hs.rd 1 rfl rfl,?_⟩;refine⟨_,hs.rd 0 rfl rfl,?_⟩;refine sBn (fun c20=>?_) (fun c20=>?_);rotate_left;rotate_left;rotate_left;rotate_left;have l32:=lt_f l32;exact Up.next l11 (by omega) ⟨hs.drop 1,fun j x hj hx=>by by_cases e:j=i11;(subst e;rw[g16] at hx;cases hx;exact⟨c1,by first | exact fun _=>c3 | exact fun hc=>(by rw[c2] at hc;cases hc),by first | exact fun k y hk=>q32 k y (by have:=(Ya.1 hk).1;omega) hk | exact fun k y hk=>q90 k y (by have:=(Ya.1 hk).1;omega) hk⟩);exact q11 j x (by omega) hx⟩;refine⟨_,hs.rd 1 rfl rfl,?_⟩;refine up_loopS (n:=g.he.n) hs (fun i90=>∀(k:Nat) (y:Ed),k<i90->g.es[k]?=some y->¬PairBad i11 k d16 y) (fun j s hj=>by omega) ?_;rintro-i90 h94 k90 ⟨hs,q90⟩;refine sB_intro (fun l90=>?_) (fun l90=>?_);have l90:=lt_t l90;refine ((hg.e.ext hs.ext).rw).nbI (by omega) (by omega) fun b95 o96 d95 g95 t95=>?_;replace g95:_[i90]?=some d95:=g95;refine⟨_,_,_,_,_,_,t95,?_⟩;refine hs.newput rfl rfl fun h104 hs=>?_;refine sBn (fun c21=>?_) (fun c21=>?_);refine⟨_,hs.rd 1 rfl rfl,?_⟩;refine⟨_,hs.rd 0 rfl rfl,?_⟩;refine sBe (fun c22=>?_) (fun c22=>?_);refine⟨_,_,_,hs.at 1 rfl (n:=3) rfl,?_⟩;refine⟨_,_,_,hs.at 0 rfl (n:=3) rfl,?_⟩;refine sB_intro (fun c23=>?_) (fun c23=>?_);rotate_left;refine⟨_,hs.rd 1 rfl rfl,?_⟩;refine⟨_,hs.rd 0 rfl rfl,?_⟩;refine sBn (fun c24=>?_) (fun c24=>?_);rotate_left;refine⟨_,hs.rd 1 rfl rfl,?_⟩;refine sB_intro (fun c25=>?_) (fun c25=>?_);rotate_left;refine⟨_,hs.rd 1 rfl rfl,?_⟩;refine sB_intro (fun c26=>?_) (fun c26=>?_);refine⟨_,hs.rd 0 rfl rfl,?_⟩;refine⟨_,hs.rd 1 rfl rfl,?_⟩;refine sBe (fun c27=>?_) (fun c27=>?_);refine⟨_,hs.rd 1 rfl rfl,?_⟩;refine⟨_,hs.rd 0 rfl rfl,?_⟩;refine sBn (fun c28=>?_) (fun c28=>?_);rotate_left;refine⟨_,hs.rd 1 rfl rfl,?_⟩;refine⟨_,hs.rd 0 rfl rfl,?_⟩;refine sBn (fun c29=>?_) (fun c29=>?_);rotate_left;rotate_left;rotate_left;rotate_left;refine⟨_,hs.rd 1 rfl rfl,?_⟩;refine sB_intro (fun c30=>?_) (fun c30=>?_);refine⟨_,hs.rd 0 rfl rfl,?_⟩;refine⟨_,hs.rd 1 rfl rfl,?_⟩;refine sBe (fun c31=>?_) (fun c31=>?_);refine⟨_,hs.rd 1 rfl rfl,?_⟩;refine⟨_,hs.rd 0 rfl rfl,?_⟩;refine sBn (fun c32=>?_) (fun c32=>?_);rotate_left;refine⟨_,hs.rd 1 rfl rfl,?_⟩;refine⟨_,hs.rd 0 rfl rfl,?_⟩;refine sBn (fun c33=>?_) (fun c33=>?_);rotate_left;rotate_left;rotate_left;rotate_left;refine⟨_,hs.rd 1 rfl rfl,?_⟩;refine sB_intro (fun c34=>?_) (fun c34=>?_);refine⟨_,hs.rd 0 rfl rfl,?_⟩;refine⟨_,hs.rd 1 rfl rfl,?_⟩;refine sBe (fun c35=>?_) (fun c35=>?_);refine⟨_,hs.rd 1 rfl rfl,?_⟩;refine⟨_,hs.rd 0 rfl rfl,?_⟩;refine sBn (fun c36=>?_) (fun c36=>?_);rotate_left;refine⟨_,hs.rd 1 rfl rfl,?_⟩;refine⟨_,hs.rd 0 rfl rfl,?_⟩;refine sBn (fun c37=>?_) (fun c37=>?_);rotate_left;rotate_left;rotate_left;rotate_left;have l90:=lt_f l90;exact Up.next l11 (by omega) ⟨hs.drop 1,fun j x hj hx=>by by_cases e:j=i11;(subst e;rw[g16] at hx;cases hx;exact⟨c1,by first | exact fun _=>c3 | exact fun hc=>(by rw[c2] at hc;cases hc),by first | exact fun k y hk=>q32 k y (by have:=(Ya.1 hk).1;omega) hk | exact fun k y hk=>q90 k y (by have:=(Ya.1 hk).1;omega) hk⟩);exact q11 j x (by omega) hx⟩;have l11:=lt_f l11;exact⟨dT ⟨fun x hx=>by obtain⟨j,hj⟩:=Yf.1 hx;exact (q11 j x (by have:=(Ya.1 hj).1;omega) hj).1,fun x hx=>by obtain⟨j,hj⟩:=Yf.1 hx;exact (q11 j x (by have:=(Ya.1 hj).1;omega) hj).2.1,fun i x hx=>(q11 i x (by have:=(Ya.1 hx).1;omega) hx).2.2⟩,hs.ext⟩;all_goals first | exact⟨dF fun hG=>(by first | exact hG.e _ (Yb g16) c1 | exact hG.s _ (Yb g16) c2 c3 | (refine hG.p _ _ g16 _ _ g37 ?_;clear hG q11 q32 t37 t16 hs hg;unfold PairBad;grind) | (refine hG.p _ _ g16 _ _ g95 ?_;clear hG q11 q90 t95 t16 hs hg;unfold PairBad;grind)),hs.ext⟩ | exact Up.next l32 (by omega) ⟨hs.drop 1,fun k y hk hy=>by by_cases e:k=i32;(subst e;rw[g37] at hy;cases hy;clear q11 q32 t37 t16 hs hg;unfold PairBad;grind);exact q32 k y (by omega) hy⟩ | exact Up.next l90 (by omega) ⟨hs.drop 1,fun k y hk hy=>by by_cases e:k=i90;(subst e;rw[g95] at hy;cases hy;clear q11 q90 t95 t16 hs hg;unfold PairBad;grind);exact q90 k y (by omega) hy⟩
def lastS (ts:List To) (i:Nat):Int:=if i=0 then -1 else match ts[i-1]? with | some t=>t.s | none=>-1
structure TmS (g:Gl) (i:Nat) (t:To):Prop where
 o:lastS g.ts i<t.s
 k:1<=t.k/\t.k<=1000
 e:0<=t.e/\∃x,g.es[t.e.toNat]?=some x/\x.f=t.s/\x.ag=false
def TimS (g:Gl):Prop:=∀i t,g.ts[i]?=some t->TmS g i t
noncomputable instance (g:Gl):Decidable (TimS g):=Classical.propDecidable _
theorem lastS_next {ts:List To} {i:Nat} {t:To} (h:ts[i]?=some t):lastS ts (i+1)=t.s:=by
 unfold lastS;rw[if_neg (by omega),Nat.add_sub_cancel,h]
theorem timed80 (g:Gl) (h:Heap) (hg:GI h g):Fn Pz 102 #[g.v] h fun v h'=>v=.bool (decide (TimS g))/\Ext h h':=by
 apply vc102 (bs g.nm) g.hr g.hd g.n g.s g.e g.he g.ht;unfold W102;have hs:=St.refl h;have hn:=hg.t.ln;have hne:=hg.e.ln;have hsm:=hg.t.sm;refine hs.newb fun h9 hs=>?_;refine⟨_,hs.rd 0 rfl rfl,?_⟩;refine⟨fun last_14 x_15 h' m=>∃i:Nat,x_15=i/\m=g.ht.n-i/\i<=g.ht.n/\St h h' [.blk h.size g.cs 77]/\last_14=lastS g.ts i/\∀j t,j<i->g.ts[j]?=some t->TmS g j t,⟨_,0,rfl,rfl,by omega,hs,rfl,fun j t hj=>by omega⟩,?_⟩;rintro-_ _ h16 m ⟨i,rfl,rfl,hi,hs,rfl,q⟩;refine sBi (fun c1=>?_) (fun c1=>?_);refine ((hg.t.ext hs.ext).rw).nbI (by omega) (by omega) fun b17 o18 d17 g17 t17=>?_;refine⟨_,_,_,t17,?_⟩;refine hs.newput rfl rfl fun h23 hs=>?_;refine⟨_,hs.rd 0 rfl rfl,?_⟩;refine sBi (fun c2=>?_) (fun c2=>?_);rotate_left;refine⟨_,hs.rd 0 rfl rfl,?_⟩;refine sBi (fun c3=>?_) (fun c3=>?_);rotate_left;refine⟨_,hs.rd 0 rfl rfl,?_⟩;refine sBi (fun c4=>?_) (fun c4=>?_);rotate_left;refine⟨_,hs.rd 0 rfl rfl,?_⟩;refine sBi (fun c5=>?_) (fun c5=>?_);rotate_left;refine⟨_,hs.rd 0 rfl rfl,?_⟩;refine⟨_,hs.rd 1 rfl rfl,?_⟩;refine sBi (fun c6=>?_) (fun c6=>?_);rotate_left;refine⟨_,hs.rd 1 rfl rfl,?_⟩;refine⟨_,hs.rd 0 rfl rfl,?_⟩;refine ((hg.e.ext hs.ext).rw).nbI (by omega) (by omega) fun b32 o33 d32 g32 t32=>?_;refine⟨_,t32.hd,?_⟩;refine⟨_,hs.rd 0 rfl rfl,?_⟩;refine sBn (fun c7=>?_) (fun c7=>?_);rotate_left;refine⟨_,hs.rd 1 rfl rfl,?_⟩;refine⟨_,hs.rd 0 rfl rfl,?_⟩;refine ((hg.e.ext hs.ext).rw).nbI (by omega) (by omega) fun b38 o39 d38 g38 t38=>?_;refine⟨_,t38.nth 5 rfl,?_⟩;refine sB_intro (fun c8=>?_) (fun c8=>?_);rotate_left;refine⟨_,hs.rd 0 rfl rfl,?_⟩;exact⟨_,by omega,i+1,by rw[w64 (by omega) (by omega)];omega,rfl,by omega,hs.drop 1,(lastS_next g17).symm,fun j t hj hx=>by by_cases e:j=i;(subst e;rw[show g.ts[j]?=some d17 from g17] at hx;cases hx;exact⟨by omega,by omega,by omega,d32,g32,c7,by rw[g38] at g32;cases g32;exact c8⟩);exact q j t (by omega) hx⟩;exact⟨dT fun j t hx=>q j t (by have:=(Ya.1 hx).1;omega) hx,hs.ext⟩;all_goals first | exact⟨dF fun hG=>(by replace hG:=hG i _ g17;have ho:=hG.o;have hk:=hG.k;obtain⟨he0,x,hx,hf,hag⟩:=hG.e;have hxl:=(Ya.1 hx).1;first | omega | (rw[g32] at hx;cases hx;first | exact c7 hf | (rw[g38] at g32;cases g32;rw[c8] at hag;cases hag))),hs.ext⟩
theorem app42:appB Pz 25 3 1 8=true:=by kernel_rfl
theorem inrows (L:List Int):∀r∈L.map inC,r.length=1:=fun r hr=>by obtain⟨x,_,rfl⟩:=Yp.1 hr;rfl
theorem index135 (L:List Int) (x:Int) (s:Sl) (h:Heap) (hr:Rw h 1 s (L.map inC)) (hm:L.length<=1048576) :
  Fn Pz 143 #[.slice s.a s.n s.c,.int .i64 x] h fun v h'=>(∃k:Int,v=.int .i64 k/\decide (k>=0)=decide (x∈L))/\h'=h:=by
 apply vc143;unfold W143;have hn:=hr.ln;refine up_loop (n:=s.n) (fun i h'=>h'=h/\∀(j:Nat) (y:Int),j<i->L[j]?=some y->decide (x=y)=false) ⟨rfl,fun j y hj=>by omega⟩ ?_;rintro-i h5 hi ⟨rfl,hd⟩;refine sB_intro (fun l=>?_) (fun l=>?_)
 ·replace l:=lt_t l;refine hr.nbI (by omega) (by omega) fun b o d g t=>?_;replace g:L[i]?=some d:=g;refine⟨_,t.hd,?_⟩;refine sBe (fun he=>?_) (fun hne=>?_)
  ·exact⟨⟨_,rfl,by rw[decide_eq_true (show (i:Int)>=0 by omega),decide_eq_true (by rw[he];exact Yb g)]⟩,rfl⟩
  ·exact Up.next l (by omega) ⟨rfl,scan_next (p:=fun y=>decide (x=y)) g (decide_eq_false hne) hd⟩
 ·replace l:=lt_f l;refine⟨⟨_,rfl,?_⟩,rfl⟩;rw[decide_eq_false (show ¬((-1:Int)>=0) by omega),decide_eq_false];intro hm;obtain⟨j,hj⟩:=Yf.1 hm;exact Yyo (hd j _ (by have:=(Ya.1 hj).1;omega) hj) rfl
theorem has81 (L:List Int) (x:Int) (s:Sl) (h:Heap) (hr:Rw h 1 s (L.map inC)) (hm:L.length<=1048576) :
  Fn Pz 103 #[.slice s.a s.n s.c,.int .i64 x] h fun v h'=>v=.bool (decide (x∈L))/\h'=h:=by
 apply vc103;unfold W103;refine (index135 L x s h hr hm).mono ?_;rintro v h3 ⟨⟨k,rfl,hk⟩,rfl⟩;exact⟨_,rfl,by rw[hk],rfl⟩
set_option maxHeartbeats 1000000 in
theorem spread82 (g:Gl) (src:Int) (bk:Bool) (h:Heap) (hg:GI h g) (hN:NumS g) (h0:0<=src) (h1:src<g.n) :
  Fn Pz 104 #[g.v,.int .i64 src,.bool bk] h fun v h'=>Ext h h'/\∃(s:Sl) (D:List Int),v=.slice s.a s.n s.c/\OwnS h' h.size 3 1 s (D.map inC).flatten/\BF g.es bk g.n.toNat src D []:=by
 apply vc104 (bs g.nm) g.hr g.hd g.n g.s g.e g.he g.ht;unfold W104;have hs:=St.refl h;have hn:=hg.e.ln;have hb:=hN.n;have he:=hN.e;have hm:=hN.m;refine hs.newb fun h9 hs=>?_;refine hs.newb fun h10 hs=>?_;refine⟨_,hs.rd 1 rfl rfl,?_⟩;refine (repeat60 g.n (by omega) (by omega) _ h10 (hs.rd 0 rfl rfl)).mono ?_;rintro _ h14 ⟨E14,x13,rfl,ho⟩;replace hs:=hs.gift E14 ho (inrows _);refine⟨_,rfl,?_⟩;have hxn:=(hs.rows 0 rfl (by omega)).ln;rw[Yg] at hxn;refine hs.set 0 rfl (by omega) h0 (by omega) 0 rfl rfl (fun b15 o16 h17 hs=>?_) rfl;refine hs.newb fun h18 hs=>?_;have hs:=(hs.blkS 1 1 [[.int .i64 src]] rfl (by simp) rfl (by decide)).toQ (by omega);have bf0:BF g.es bk g.n.toNat src ((List.replicate g.n.toNat (-1:Int)).set src.toNat 0) [src]:=BF.start h0 (by omega) (by omega);refine⟨fun todo h' m=>∃(D T:List Int),St h h' [.q todo 3 1 (T.map inC),.sl x13 3 1 (D.map inC),.blk h9.size [.int .i64 (-1)] 3,.blk h.size g.cs 77]/\BF g.es bk g.n.toNat src D T/\m=2*D.count (-1)+T.length/\m<=401,⟨_,_,[src],hs,bf0,rfl,?_⟩,?_⟩
 ·have:List.count (-1) ((List.replicate g.n.toNat (-1:Int)).set src.toNat 0)<=_:=List.count_le_length;rw[Yyh,Yg] at this;rw[Yv];omega
 rintro-todo_22 h23 m ⟨D,T,hs,bf,rfl,hmm⟩;have hq:=(hs.qlen 0 rfl).1;rw[Yc] at hq;refine sBi (fun c1=>?_) (fun c1=>?_)
 ·refine⟨_,hs.rd 3 rfl rfl,?_⟩;obtain⟨a0,R0,rfl⟩:∃a R,T=a::R:=by cases T with
   | nil=>simp at hq;omega
   | cons a R=>exact⟨a,R,rfl⟩
  refine⟨fun todo x h' m=>∃(i:Nat) (D' R:List Int),x=i/\m=g.he.n-i/\i<=g.he.n/\St h h' [.q todo 3 1 ((a0::R).map inC),.sl x13 3 1 (D'.map inC),.blk h9.size [.int .i64 (-1)] 3,.blk h.size g.cs 77]/\BF g.es bk g.n.toNat src D' (a0::R) /\
   (∀(j:Nat) (x:Ed),j<i->g.es[j]?=some x->src_ bk x=a0->Vis D' (dst_ bk x))/\2*D'.count (-1)+R.length+1<=2*D.count (-1)+(a0::R0).length,⟨_,0,D,R0,rfl,rfl,by omega,hs,bf,fun j x hj=>by omega,by rw[Yyj];omega⟩,?_⟩
  rintro-todo_28 _ h30 _ ⟨i,D',R,rfl,rfl,hi,hs,bf,hdone,hmea⟩;have hq:=(hs.qlen 0 rfl);rw[Yc,Yyj] at hq;have hlD:=bf.len;have hxn2:=(hs.rows 1 rfl (by omega)).ln;refine sBi (fun c2=>?_) (fun c2=>?_)
  ·have l2:i<g.he.n:=by omega
   refine (hg.e.ext hs.ext).rw.nbI (by omega) (by omega) fun b31 o32 d31 g31 t31=>?_;replace g31:g.es[i]?=some d31:=g31;have hE:=he d31 (Yb g31);unfold EdS at hE;refine⟨_,_,_,_,_,_,t31,?_⟩;refine hs.newput (vs:=d31.cs) rfl rfl fun h40 hs=>?_;refine⟨_,hs.rd 0 rfl rfl,?_⟩;refine⟨_,hs.rd 0 rfl rfl,?_⟩;refine⟨fun a b h'=>St h h' [.blk h30.size d31.cs 135,.q todo_28 3 1 ((a0::R).map inC),.sl x13 3 1 (D'.map inC),.blk h9.size [.int .i64 (-1)] 3,.blk h.size g.cs 77]/\a=src_ bk d31/\b=dst_ bk d31,?_,?_⟩
   ·cases bk
    ·exact⟨hs,rfl,rfl⟩
    ·exact⟨hs,rfl,rfl⟩
   ·rintro-a b h46 ⟨hs,ha,hb'⟩;have ha0:0<=a/\a<g.n/\0<=b/\b<g.n:=by rw[ha,hb'];unfold src_ dst_;cases bk<;>simp<;>omega
    have next0:∀ {todo:Sl} {h':Heap} {D2 R2:List Int},St h h' [.blk h30.size d31.cs 135,.q todo 3 1 ((a0::R2).map inC),.sl x13 3 1 (D2.map inC),.blk h9.size [.int .i64 (-1)] 3,.blk h.size g.cs 77]->BF g.es bk g.n.toNat src D2 (a0::R2) ->
      (∀v,Vis D' v->Vis D2 v)->(a=a0->Vis D2 b)->2*D2.count (-1)+R2.length+1<=2*D.count (-1)+(a0::R0).length ->
      ∃m,m<g.he.n-i/\∃(i2:Nat) (D' R:List Int),IntKind.wrap .i64 ((i:Int)+1)=i2/\m=g.he.n-i2/\i2<=g.he.n/\St h h' [.q todo 3 1 ((a0::R).map inC),.sl x13 3 1 (D'.map inC),.blk h9.size [.int .i64 (-1)] 3,.blk h.size g.cs 77]/\BF g.es bk g.n.toNat src D' (a0::R) /\
       (∀(j:Nat) (x:Ed),j<i2->g.es[j]?=some x->src_ bk x=a0->Vis D' (dst_ bk x))/\2*D'.count (-1)+R.length+1<=2*D.count (-1)+(a0::R0).length:=by
     intro todo h' D2 R2 hs2 bf2 hmono hedge hm2;refine⟨_,by omega,i+1,D2,R2,by rw[w64 (by omega) (by omega)];omega,rfl,by omega,hs2.drop 1,bf2,fun j x hj hx hsx=>?_,hm2⟩;by_cases e:j=i
     ·subst e;rw[g31] at hx;cases hx;rw[<-hb'];exact hedge (by rw[ha,hsx])
     ·exact hmono _ (hdone j x (by omega) hx hsx)
    refine (hs.qrw 1 rfl (by omega)).nbI (cs:=inC) (L:=a0::R) (by omega) (by omega) fun b47 o48 d47 g47 t47=>?_;have ed:a0=d47:=by simpa using g47
    subst ed;refine⟨_,t47.hd,?_⟩;refine sBe (fun c4=>?_) (fun c4=>?_)
    ·subst c4;have hva:Vis D' a:=bf.t a (by simp);obtain⟨_,da,hda,hda0⟩:=hva;refine (hs.rows 2 rfl (by omega)).nbI (by omega) (by omega) fun b50 o51 db g50 t50=>?_;refine⟨_,t50.hd,?_⟩;refine sBi (fun c5=>?_) (fun c5=>?_)
     ·refine (hs.rows 2 rfl (by omega)).nbI (by omega) (by omega) fun b53 o54 d53 g53 t53=>?_;rw[hda] at g53;cases g53;refine⟨_,t53.hd,?_⟩;have hadj:Adj g.es bk a b:=⟨d31,Yb g31,ha.symm,hb'.symm⟩;obtain⟨bf2,hcnt,hd0,hd2⟩:=bf.push ⟨by omega,da,hda,hda0⟩ hda (by omega) g50 c5 hadj;rw[w64 (n:=da+1) (by omega) (by omega)];refine hs.set 2 rfl (by omega) (by omega) (by omega) (da+1) rfl rfl (fun b56 o57 h58 hs=>?_) rfl;have hcl:D'.count (-1)<=D'.length:=List.count_le_length;have hRl:R.length<=2000:=by omega
      refine hs.qapp 1 rfl app42 (m:=1) [[.int .i64 b]] rfl rfl (by omega) (by simp) rfl (by omega) (by simp only[maxLen];omega) fun s60 h61 ns60 hs=>?_;have hs':St h h61 [.blk h30.size d31.cs 135,.q s60 3 1 ((a::(R++[b])).map inC),.sl x13 3 1 ((D'.set b.toNat (da+1)).map inC),.blk h9.size [.int .i64 (-1)] 3,.blk h.size g.cs 77]:=by
       have e:(a::(R++[b])).map inC=(a::R).map inC++[[.int .i64 b]]:=by simp[inC]
       rw[e];exact hs
      refine next0 hs' bf2 (fun v hv=>(vis_set (by omega) (by have:=(Ya.1 g50).1;omega) (by omega)).2 (.inr hv)) (fun _=>(vis_set (by omega) (by have:=(Ya.1 g50).1;omega) (by omega)).2 (.inl rfl)) ?_;rw[Yh,Yv];omega
     ·exact next0 hs bf (fun v hv=>hv) (fun _=>⟨by omega,db,g50,by omega⟩) hmea
    ·exact next0 hs bf (fun v hv=>hv) (fun e=>absurd e c4) hmea
  ·refine⟨⟨by omega,by omega,by omega⟩,?_⟩;rw[Yyl] at hs;refine⟨_,?_,D',R,hs.qtail,?_,rfl,?_⟩
   ·rw[Yyj] at hmea ⊢;omega
   rotate_left
   ·omega
   ·refine⟨bf.len,bf.src,bf.r,fun t ht=>bf.t t (Yn _ ht),fun v w hv hn' hvw=>?_,bf.b⟩;by_cases hva:v=a0
    ·subst hva;obtain⟨x,hx,h3,h4⟩:=hvw;obtain⟨j,hj⟩:=Yf.1 hx;rw[<-h4];exact hdone j x (by have:=(Ya.1 hj).1;omega) hj h3
    ·exact bf.c v w hv (by rw[Yr,not_or];exact⟨hva,hn'⟩) hvw
 ·have:T=[]:=List.length_eq_zero_iff.1 (by omega);subst this;exact⟨hs.ext,x13,D,rfl,hs.give 1 rfl,bf⟩
structure ValidS (g:Gl):Prop where
 nam:NamedS g
 num:NumS g
 dcl:DeclS g.ds
 ord:OrdS g
 tim:TimS g
 fwd:∀v:Int,0<=v->v<g.n->Rch g.es false g.s v
 bwd:∀v:Int,0<=v->v<g.n->Rch g.es true g.e v
noncomputable instance (g:Gl):Decidable (ValidS g):=Classical.propDecidable _
theorem valid38 (g:Gl) (h:Heap) (hg:GI h g) (hx:Gx h):Fn Pz 61 #[g.v] h fun v h'=>v=.bool (decide (ValidS g))/\Ext h h':=by
 apply vc61 (bs g.nm) g.hr g.hd g.n g.s g.e g.he g.ht;unfold W61;have hs:=St.refl h;refine hs.newb fun h9 hs=>?_;refine⟨_,_,_,_,_,_,_,_,hs.at 0 rfl (n:=8) rfl,?_⟩;refine (named76 g _ (hg.ext hs.ext)).mono ?_;rintro _ h20 ⟨rfl,Eh20⟩;replace hs:=hs.step Eh20;refine⟨_,rfl,?_⟩;refine sB_intro (fun c1=>?_) (fun c1=>?_)
 ·skip
  refine⟨_,_,_,_,_,_,_,_,hs.at 0 rfl (n:=8) rfl,?_⟩;refine (numbered77 g _ (hg.ext hs.ext)).mono ?_;rintro _ h31 ⟨rfl,Eh31⟩;replace hs:=hs.step Eh31;refine⟨_,rfl,?_⟩;refine sB_intro (fun c2=>?_) (fun c2=>?_)
  ·skip
   refine⟨_,hs.rd 0 rfl rfl,?_⟩;refine (declared78 g.ds _ _ (hg.d.ext hs.ext) (hx.ext hs.ext)).mono ?_;rintro _ h35 ⟨rfl,Eh35⟩;replace hs:=hs.step Eh35;refine⟨_,rfl,?_⟩;refine sB_intro (fun c3=>?_) (fun c3=>?_)
   ·skip
    refine⟨_,_,_,_,_,_,_,_,hs.at 0 rfl (n:=8) rfl,?_⟩;refine (ordered79 g _ (hg.ext hs.ext)).mono ?_;rintro _ h46 ⟨rfl,Eh46⟩;replace hs:=hs.step Eh46;refine⟨_,rfl,?_⟩;refine sB_intro (fun c4=>?_) (fun c4=>?_)
    ·skip
     refine⟨_,_,_,_,_,_,_,_,hs.at 0 rfl (n:=8) rfl,?_⟩;refine (timed80 g _ (hg.ext hs.ext)).mono ?_;rintro _ h57 ⟨rfl,Eh57⟩;replace hs:=hs.step Eh57;refine⟨_,rfl,?_⟩;refine sB_intro (fun c5=>?_) (fun c5=>?_)
     ·skip
      refine⟨_,_,_,_,_,_,_,_,hs.at 0 rfl (n:=8) rfl,?_⟩;refine⟨_,hs.rd 0 rfl rfl,?_⟩;refine (spread82 g _ _ _ (hg.ext hs.ext) (Yyn c2) (by have:=(Yyn c2).n;omega) (by have:=(Yyn c2).n;omega)).mono ?_;rintro _ h69 ⟨E69,x68,D,rfl,ho,bf⟩;replace hs:=hs.gift E69 ho (inrows _);refine⟨_,rfl,?_⟩;refine (has81 _ _ _ _ (hs.rows 0 rfl (by omega)) (by have:=bf.len;have:=(Yyn c2).n;omega)).mono ?_;rintro _ h72 ⟨rfl,rfl⟩;refine⟨_,rfl,?_⟩;refine sB_intro (fun c6=>?_) (fun c6=>?_)
      ·skip
       refine⟨_,_,_,_,_,_,_,_,hs.at 1 rfl (n:=8) rfl,?_⟩;refine⟨_,hs.rd 1 rfl rfl,?_⟩;refine (spread82 g _ _ _ (hg.ext hs.ext) (Yyn c2) (by have:=(Yyn c2).n;omega) (by have:=(Yyn c2).n;omega)).mono ?_;rintro _ h84 ⟨E84,x83,D2,rfl,ho2,bf2⟩;replace hs:=hs.gift E84 ho2 (inrows _);refine⟨_,rfl,?_⟩;refine (has81 _ _ _ _ (hs.rows 0 rfl (by omega)) (by have:=bf2.len;have:=(Yyn c2).n;omega)).mono ?_;rintro _ h87 ⟨rfl,rfl⟩;refine⟨_,rfl,?_⟩;refine⟨?_,hs.ext⟩;have hN:=(Yyn c2).n;have h1:∀v:Int,0<=v->v<g.n->Rch g.es false g.s v:=by
        intro v h0 h2;apply Classical.byContradiction;intro h3;have h4:(-1:Int)∈D:=bf.all.2 fun hall=>h3 (hall v h0 (by omega));rw[decide_eq_true h4] at c6;cases c6
       by_cases h2:∀v:Int,0<=v->v<g.n->Rch g.es true g.e v
       ·have h4:¬((-1:Int)∈D2):=fun hm=>bf2.all.1 hm fun v h0 h3=>h2 v h0 (by omega);rw[decide_eq_false h4,decide_eq_true (show ValidS g from ⟨Yyn c1,Yyn c2,Yyn c3,Yyn c4,Yyn c5,h1,h2⟩)];rfl
       ·have h4:(-1:Int)∈D2:=bf2.all.2 fun hall=>h2 fun v h0 h3=>hall v h0 (by omega);rw[decide_eq_true h4,decide_eq_false (fun hG:ValidS g=>h2 hG.bwd)];rfl
      ·skip
       exact⟨dF fun hG=>by have h1:=bf.all.1 (by simpa using c6);exact h1 fun v h0 h2=>hG.fwd v h0 (by omega),hs.ext⟩
     ·skip
      exact⟨dF fun hG=>Yyo c5 hG.tim,hs.ext⟩
    ·skip
     exact⟨dF fun hG=>Yyo c4 hG.ord,hs.ext⟩
   ·skip
    exact⟨dF fun hG=>Yyo c3 hG.dcl,hs.ext⟩
  ·skip
   exact⟨dF fun hG=>Yyo c2 hG.num,hs.ext⟩
 ·skip
  exact⟨dF fun hG=>Yyo c1 hG.nam,hs.ext⟩
theorem Ext.rfl' {h:Heap}:Ext h h:=⟨Yyt _,fun _ _=>rfl⟩
def RP (p:Prop) (h:Heap) (v:Value) (h':Heap):Prop:=(∃b:Bool,v=.bool b/\(b=true ↔ p))/\Ext h h'
theorem RP.t {p:Prop} {h h':Heap} (hp:p) (E:Ext h h'):RP p h (.bool true) h':=⟨⟨true,rfl,iff_of_true rfl hp⟩,E⟩
theorem RP.f {p:Prop} {h h':Heap} (hp:¬p) (E:Ext h h'):RP p h (.bool false) h':=⟨⟨false,rfl,iff_of_false (by decide) hp⟩,E⟩
theorem RP.e {p:Prop} {h h':Heap} {b:Bool} (hb:b=true ↔ p) (E:Ext h h'):RP p h (.bool b) h':=⟨⟨b,rfl,hb⟩,E⟩
theorem iff_f {p:Prop} {b:Bool} (hp:b=true ↔ p) (c:b=false):¬p:=fun hq=>by
 rw[hp.2 hq] at c;cases c
theorem smx {al:List Addr} {h h':Heap} (E:Ext h h'):Sm al h h':=fun _ _ _ _ hv=>hc_ext E hv
theorem Sm_but {al:List Addr} {h h':Heap} {b:Nat} (hB:But b h h') (hn:∀a∈al,a.block≠b):Sm al h h':=fun a ha k v hv=>by
 rw[hc_of_block (hB.2 _ (by rw[addk_block'];exact hn a ha))];exact hv
theorem hc_blk {h:Heap} {a:Addr} {v:Value} (hv:hc h a=some v):a.block<h.size:=by
 rcases Nat.lt_or_ge a.block h.size with h1 | h1
 ·exact h1
 ·unfold VC.hc at hv;simp[Array.getElem?_eq_none h1] at hv
end Go.VC
end

section
namespace Go.VC
open Go.Proofs
variable {h:Heap} {R:Value->Heap->Prop}

def V210b (x52:Sl) (x53:Int) (h64:Heap) (s63:Sl) (m38:Nat) (I36:Int->Heap->Nat->Prop) (x_39:Int):Prop:=
 NB x52.a fun b65 o66=>Ib x53 x52.n/\Wp h64 ⟨b65,o66+Int.toNat x53*1,none⟩ 1 [vS s63] fun h67=>∃m68,m68<m38/\I36 (IntKind.wrap .i64 (x_39+1)) h67 m68
def V210c (b56 o57:Nat) (x55:Int) (h40 h33 h50 h62:Heap) (x58 x52:Sl) (x53:Int) (m38:Nat) (I36:Int->Heap->Nat->Prop) (x_39:Int):Prop:=
 Sm [⟨b56,o57+Int.toNat x55*1,none⟩,(aS h40 0),(aS h33 10),(aS h40 0),(aS h33 10)] h50 h62/\App Pz 396 396 (vS x58) (.slice (some (aS h50 0)) 1 1) h62 fun s63 h64=>Sm [(aS h40 0),(aS h33 10)] h62 h64/\V210b x52 x53 h64 s63 m38 I36 x_39
def V210a (h33:Heap) (x22:ByteArray) (x23 x24:Sl) (x25 x26 x27:Int) (x28 x29:Sl) (p1:Int) (h20:Heap) (x30:Int) (h32:Heap) (x31:Int) (h:Heap) (R:Value->Heap->Prop):Prop:=
 Wn h33 [.string x22,vS x23,vS x24,vI x25,vI x26,vI x27,vS x28,vS x29,vI p1,.slice (some (aS h20 0)) (Int.toNat x30) (Int.toNat x30),.slice (some (aS h32 0)) (Int.toNat x31) (Int.toNat x31)] 395 fun h34=>∃x35,rS h34 (aS h 6) x35/\QI 0 h34 fun I36 x_39 h40 m38=>sB (decide (x_39<(x35.n:Int))) (NB x35.a fun b41 o42=>Ib x_39 x35.n/\∃x43 x44 x45 x46 x47 x48,aL6 h40 ⟨b41,o42+Int.toNat x_39*6,none⟩ x43 x44 x45 x46 x47 x48/\Wn h40 [vI 0,vI 0,vI 0,vI 0,vI 0,.bool false] 135 fun h49=>Wp h49 (aS h40 0) 6 (L6 x43 x44 x45 x46 x47 x48) fun h50=>∃x51,rI h50 (aS h40 1) x51/\sB (p1==x51) (∃x52,rS h50 (aS h33 10) x52/\∃x53,rI h50 (aS h40 0) x53/\∃x54,rS h50 (aS h33 10) x54/\∃x55,rI h50 (aS h40 0) x55/\NB x54.a fun b56 o57=>Ib x55 x54.n/\∃x58,rS h50 ⟨b56,o57+Int.toNat x55*1,none⟩ x58/\∃x59,rI h50 (aS h40 (1+1)) x59/\∃x60,rI h50 (aS h40 (1+2)) x60/\∃x61,rI h50 (aS h40 4) x61/\Wn h50 [.bool true,vI x59,vI x60,vI x61] 398 fun h62=>V210c b56 o57 x55 h40 h33 h50 h62 x58 x52 x53 m38 I36 x_39) (∃x69,rI h50 (aS h40 (1+1)) x69/\sB (p1==x69) (∃x70,rS h50 (aS h33 10) x70/\∃x71,rI h50 (aS h40 0) x71/\∃x72,rS h50 (aS h33 10) x72/\∃x73,rI h50 (aS h40 0) x73/\NB x72.a fun b74 o75=>Ib x73 x72.n/\∃x76,rS h50 ⟨b74,o75+Int.toNat x73*1,none⟩ x76/\∃x77,rI h50 (aS h40 1) x77/\∃x78,rI h50 (aS h40 (1+2)) x78/\∃x79,rI h50 (aS h40 4) x79/\Wn h50 [.bool false,vI x77,vI x78,vI x79] 398 fun h80=>V210c b74 o75 x73 h40 h33 h50 h80 x76 x70 x71 m38 I36 x_39) (∃x87,rS h50 (aS h33 9) x87/\∃x88,rI h50 (aS h40 0) x88/\∃x89,rS h50 (aS h33 9) x89/\∃x90,rI h50 (aS h40 0) x90/\NB x89.a fun b91 o92=>Ib x90 x89.n/\∃x93,rS h50 ⟨b91,o92+Int.toNat x90*1,none⟩ x93/\∃x94,rI h50 (aS h40 4) x94/\Wn h50 [vI x94] 3 fun h95=>Sm [⟨b91,o92+Int.toNat x90*1,none⟩,(aS h40 0),(aS h33 9),(aS h40 0),(aS h33 9)] h50 h95/\App Pz 25 25 (vS x93) (.slice (some (aS h50 0)) 1 1) h95 fun s96 h97=>Sm [(aS h40 0),(aS h33 9)] h95 h97/\V210b x87 x88 h97 s96 m38 I36 x_39))) (R (.tuple ⟨[.pointer (some (aS h33 0)),vI 0]⟩) h40)
def W210 (p0_1:ByteArray) (p0_2 p0_3:Sl) (p0_4 p0_5 p0_6:Int) (p0_7 p0_8:Sl) (p1:Int):Prop:=
 Wn h (L2 p0_1 p0_2 p0_3 p0_4 p0_5 p0_6 p0_7 p0_8) 77 fun h9=>∃x10 x11 x12 x13 x14 x15 x16 x17,aL2 h9 (aS h 0) x10 x11 x12 x13 x14 x15 x16 x17/\Fn Pz 61 #[.agg ⟨(L2 x10 x11 x12 x13 x14 x15 x16 x17)⟩] h9 (fun v18 h20=>∃x19,iB v18 x19/\sB (!x19) (R (.tuple ⟨[.pointer none,vI 1]⟩) h20) (sB (decide (p1<0)) (R (.tuple ⟨[.pointer none,vI 1]⟩) h20) (∃x21,rS h20 (aS h 1) x21/\sB (decide (p1>=(x21.n:Int))) (R (.tuple ⟨[.pointer none,vI 1]⟩) h20) (∃x22 x23 x24 x25 x26 x27 x28 x29,aL2 h20 (aS h 0) x22 x23 x24 x25 x26 x27 x28 x29/\∃x30,rI h20 (aS h 3) x30/\∃x31,rI h20 (aS h 3) x31/\(Mk x30 x30 24/\Wn h20 (madeL Pz 25 (Int.toNat x30)) 25 fun h32=>Sm [(aS h 3),(aS h 0)] h20 h32/\Mk x31 x31 24/\Wn h32 (madeL Pz 396 (Int.toNat x31)) 396 fun h33=>Sm [(aS h 3),(aS h 0)] h32 h33/\V210a h33 x22 x23 x24 x25 x26 x27 x28 x29 p1 h20 x30 h32 x31 h R)/\Mk x31 x31 24/\Wn h20 (madeL Pz 396 (Int.toNat x31)) 396 fun h102=>Sm [(aS h 3),(aS h 0)] h20 h102/\Mk x30 x30 24/\Wn h102 (madeL Pz 25 (Int.toNat x30)) 25 fun h103=>Sm [(aS h 3),(aS h 0)] h102 h103/\V210a h103 x22 x23 x24 x25 x26 x27 x28 x29 p1 h102 x30 h20 x31 h R))))
theorem vc210 (p0_1:ByteArray) (p0_2 p0_3:Sl) (p0_4 p0_5 p0_6:Int) (p0_7 p0_8:Sl) (p1:Int) (H:@W210 h R p0_1 p0_2 p0_3 p0_4 p0_5 p0_6 p0_7 p0_8 p1):Fn Pz 210 #[.agg ⟨(L2 p0_1 p0_2 p0_3 p0_4 p0_5 p0_6 p0_7 p0_8)⟩,vI p1] h R:=fnI (A:=(.s .z (.s .z (.s .z (.s (.s .z (.b (.l [(36,.one (.int .i64))] .z))) .z))))) (by kernel_rfl) H

def V216a (p1:Sl) (x_7:Int) (h8:Heap) (x1:Int) (h:Heap) (todo_6:Sl) (m5:Nat) (I3:Sl->Int->Heap->Nat->Prop):Prop:=
 NB p1.a fun b9 o10=>Ib x_7 p1.n/\∃x11,rI h8 ⟨b9,o10+Int.toNat x_7*1,none⟩ x11/\(0<=(x11:Int)/\(x11:Int)<((Int.toNat x1):Nat))/\∃x12,rB h8 (aS h (0+Int.toNat x11*1)) x12/\sB (!x12) ((0<=(x11:Int)/\(x11:Int)<((Int.toNat x1):Nat))/\Wp h8 (aS h (0+Int.toNat x11*1)) 1 [.bool true] fun h13=>Wn h13 [vI x11] 3 fun h14=>App Pz 25 25 (vS todo_6) (.slice (some (aS h13 0)) 1 1) h14 fun s15 h16=>∃m17,m17<m5/\I3 s15 (IntKind.wrap .i64 (x_7+1)) h16 m17) (∃m18,m18<m5/\I3 todo_6 (IntKind.wrap .i64 (x_7+1)) h8 m18)
def W216 (p0:Addr) (p1:Sl):Prop:=
 ∃x1,rI h ⟨p0.block,p0.off+3,none⟩ x1/\Mk x1 x1 1/\Wn h (madeL Pz 4 (Int.toNat x1)) 4 fun h2=>QSI ⟨none,0,0⟩ 0 h2 fun I3 todo_6 x_7 h8 m5=>sB (decide (x_7<(p1.n:Int))) (V216a p1 x_7 h8 x1 h todo_6 m5 I3) (QSI todo_6 0 h8 fun I19 todo_22 head_23 h24 m21=>sB (decide (head_23<(todo_22.n:Int))) (∃x25,rS h24 ⟨p0.block,p0.off+9,none⟩ x25/\NB todo_22.a fun b26 o27=>Ib head_23 todo_22.n/\∃x28,rI h24 ⟨b26,o27+Int.toNat head_23*1,none⟩ x28/\NB x25.a fun b29 o30=>Ib x28 x25.n/\∃x31,rS h24 ⟨b29,o30+Int.toNat x28*1,none⟩ x31/\QSI todo_22 0 h24 fun I32 todo_35 x_36 h37 m34=>sB (decide (x_36<(x31.n:Int))) (V216a x31 x_36 h37 x1 h todo_35 m34 I32) (∃m48,m48<m21/\I19 todo_35 (IntKind.wrap .i64 (head_23+1)) h37 m48)) (Fn Pz 269 #[vS todo_22] h24 (fun v49 h51=>∃x50,iS v49 x50/\R (vS x50) h51)))
theorem vc216 (p0:Addr) (p1:Sl) (H:@W216 h R p0 p1):Fn Pz 216 #[.pointer (some p0),vS p1] h R:=fnI (A:=(.s .z (.s .z (.s .z (.s (.s .z (.b (.l [(6,.one (.slice)),(20,.one (.int .i64))] .z))) (.s (.s .z (.b (.l [(6,.one (.slice)),(9,.one (.int .i64))] (.s .z (.s (.b (.s .z (.b (.l [(6,.one (.slice)),(54,.one (.int .i64))] .z)))) .z))))) .z)))))) (by kernel_rfl) H

def W218 (p0:Addr) (p1:Sl) (p2_1:Bool) (p2_2 p2_3:Int):Prop:=
 Wn h (L3 p2_1 p2_2 p2_3) 327 fun h4=>
 Fn Pz 148 #[vS p1] h4
 (fun v5 h7=>∃x6,iS v5 x6 /\
 QSI ⟨none,0,0⟩ 0 h7 fun I8 to_11 x_12 h13 m10=>
 sB (decide (x_12<(x6.n:Int)))
 (NB x6.a fun b14 o15=>Ib x_12 x6.n /\
 ∃x16,rI h13 ⟨b14,o15+Int.toNat x_12*1,none⟩ x16 /\
 ∃x17,rS h13 ⟨p0.block,p0.off+10,none⟩ x17 /\
 NB x17.a fun b18 o19=>Ib x16 x17.n /\
 ∃x20,rS h13 ⟨b18,o19+Int.toNat x16*1,none⟩ x20 /\
 QSI to_11 0 h13 fun I21 to_24 x_25 h26 m23=>
 sB (decide (x_25<(x20.n:Int)))
 (NB x20.a fun b27 o28=>Ib x_25 x20.n /\
 ∃x29 x30 x31 x32,aL14 h26 ⟨b27,o28+Int.toNat x_25*4,none⟩ x29 x30 x31 x32 /\
 Wn h26 [.bool false,vI 0,vI 0,vI 0] 398 fun h33=>
 Wp h33 (aS h26 0) 4 (L14 x29 x30 x31 x32) fun h34=>
 ∃x35 x36 x37,aL3 h34 (aS h26 0) x35 x36 x37 /\
 ∃x38 x39 x40,aL3 h34 (aS h 0) x38 x39 x40 /\
 sB ((x35==x38)&&((x36==x39)&&((x37==x40)&&true)))
 (∃x41,rI h34 (aS h26 3) x41 /\
 Wn h34 [vI x41] 3 fun h42=>
 App Pz 25 25 (vS to_24) (.slice (some (aS h34 0)) 1 1) h42 fun s43 h44=>
 ∃m45,m45<m23/\I21 s43 (IntKind.wrap .i64 (x_25+1)) h44 m45)
 (∃m46,m46<m23/\I21 to_24 (IntKind.wrap .i64 (x_25+1)) h34 m46))
 (∃m47,m47<m10/\I8 to_24 (IntKind.wrap .i64 (x_12+1)) h26 m47))
 (Fn Pz 216 #[.pointer (some p0),vS to_11] h13
 (fun v48 h50=>∃x49,iS v48 x49 /\
 R (vS x49) h50)))
theorem vc218 (p0:Addr) (p1:Sl) (p2_1:Bool) (p2_2 p2_3:Int) (H:@W218 h R p0 p1 p2_1 p2_2 p2_3):Fn Pz 218 #[.pointer (some p0),vS p1,.agg ⟨(L3 p2_1 p2_2 p2_3)⟩] h R:=fnI (A:=(.s .z (.s .z (.s (.s .z (.b (.l [(7,.one (.slice)),(15,.one (.int .i64))] (.s .z (.s .z (.s (.b (.s .z (.s .z (.b (.l [(7,.one (.slice)),(27,.one (.int .i64))] .z))))) .z)))))) .z)))) (by kernel_rfl) H

def W217 (p0:Addr) (p1:Sl):Prop:=
 Fn Pz 148 #[vS p1] h
 (fun v1 h3=>∃x2,iS v1 x2 /\
 QSI ⟨none,0,0⟩ 0 h3 fun I4 out_7 x_8 h9 m6=>
 sB (decide (x_8<(x2.n:Int)))
 (NB x2.a fun b10 o11=>Ib x_8 x2.n /\
 ∃x12,rI h9 ⟨b10,o11+Int.toNat x_8*1,none⟩ x12 /\
 ∃x13,rS h9 ⟨p0.block,p0.off+10,none⟩ x13 /\
 NB x13.a fun b14 o15=>Ib x12 x13.n /\
 ∃x16,rS h9 ⟨b14,o15+Int.toNat x12*1,none⟩ x16 /\
 QSI out_7 0 h9 fun I17 out_20 x_21 h22 m19=>
 sB (decide (x_21<(x16.n:Int)))
 (NB x16.a fun b23 o24=>Ib x_21 x16.n /\
 ∃x25 x26 x27 x28,aL14 h22 ⟨b23,o24+Int.toNat x_21*4,none⟩ x25 x26 x27 x28 /\
 Wn h22 [.bool false,vI 0,vI 0,vI 0] 398 fun h29=>
 Wp h29 (aS h22 0) 4 (L14 x25 x26 x27 x28) fun h30=>
 ∃x31 x32 x33,aL3 h30 (aS h22 0) x31 x32 x33 /\
 Wn h30 (L3 x31 x32 x33) 327 fun h34=>
 App Pz 324 324 (vS out_20) (.slice (some (aS h30 0)) 1 1) h34 fun s35 h36=>
 ∃m37,m37<m19/\I17 s35 (IntKind.wrap .i64 (x_21+1)) h36 m37)
 (∃m38,m38<m6/\I4 out_20 (IntKind.wrap .i64 (x_8+1)) h22 m38))
 (Fn Pz 270 #[vS out_7,.func (.func 271) #[] #[]] h9
 (fun v39 h40=>v39=.tuple ⟨[]⟩ /\
 Fn Pz 272 #[vS out_7] h40
 (fun v41 h43=>∃x42,iS v41 x42 /\
 R (vS x42) h43))))
theorem vc217 (p0:Addr) (p1:Sl) (H:@W217 h R p0 p1):Fn Pz 217 #[.pointer (some p0),vS p1] h R:=fnI (A:=(.s .z (.s .z (.s (.s .z (.b (.l [(5,.one (.slice)),(13,.one (.int .i64))] (.s .z (.s .z (.s (.b (.s .z (.s .z (.b (.l [(5,.one (.slice)),(25,.one (.int .i64))] .z))))) .z)))))) .z)))) (by kernel_rfl) H

def W271 (p0_1:Bool) (p0_2 p0_3:Int) (p1_4:Bool) (p1_5 p1_6:Int):Prop:=
 Wn h (L3 p0_1 p0_2 p0_3) 327 fun h7=>
 Wn h7 (L3 p1_4 p1_5 p1_6) 327 fun h8=>
 ∃x9,rB h8 (aS h 0) x9 /\
 ∃x10,rB h8 (aS h7 0) x10 /\
 sB (!(x9==x10))
 (∃x11,rB h8 (aS h 0) x11 /\
 sB x11
 (R (vI (-1)) h8)
 (R (vI 1) h8))
 (∃x12,rI h8 (aS h 1) x12 /\
 ∃x13,rI h8 (aS h7 1) x13 /\
 ∃x14,rI h8 (aS h 2) x14 /\
 ∃x15,rI h8 (aS h7 2) x15 /\
 Fn Pz 110 #[vI x12,vI x13] h8
 (fun v16 h18=>∃x17,iI v16 x17 /\
 Sm [(aS h7 2),(aS h 2)] h8 h18 /\
 Fn Pz 110 #[vI x14,vI x15] h18
 (fun v19 h21=>∃x20,iI v19 x20 /\
 Sm [(aS h7 1),(aS h 1)] h18 h21 /\
 Wn h21 [vI x17,vI x20] 3 fun h22=>
 Fn Pz 109 #[.slice (some (aS h21 0)) 2 2] h22
 (fun v23 h25=>∃x24,iI v23 x24 /\
 R (vI x24) h25))))
theorem vc271 (p0_1:Bool) (p0_2 p0_3:Int) (p1_4:Bool) (p1_5 p1_6:Int) (H:@W271 h R p0_1 p0_2 p0_3 p1_4 p1_5 p1_6):Fn Pz 271 #[.agg ⟨(L3 p0_1 p0_2 p0_3)⟩,.agg ⟨(L3 p1_4 p1_5 p1_6)⟩] h R:=fnI (A:=.z) (by kernel_rfl) H

def W273 (p0:Addr) (p1:Sl):Prop:=
 QSI ⟨none,0,0⟩ 0 h fun I1 out_4 x_5 h6 m3=>
 sB (decide (x_5<(p1.n:Int)))
 (NB p1.a fun b7 o8=>Ib x_5 p1.n /\
 ∃x9 x10 x11,aL3 h6 ⟨b7,o8+Int.toNat x_5*3,none⟩ x9 x10 x11 /\
 Wn h6 [.bool false,vI 0,vI 0] 327 fun h12=>
 Wp h12 (aS h6 0) 3 (L3 x9 x10 x11) fun h13=>
 ∃x14 x15 x16,aL3 h13 (aS h6 0) x14 x15 x16 /\
 ∃x17,rI h13 ⟨p0.block,p0.off+8,none⟩ x17 /\
 Fn Pz 306 #[.agg ⟨(L3 x14 x15 x16)⟩,vI x17] h13
 (fun v18 h24=>∃(x19:Int) (x20:Bool) (x21 x22:Int) (x23:Sl),v18=.agg ⟨(L12 x19 x20 x21 x22 x23)⟩ /\
 Wn h24 (L12 x19 x20 x21 x22 x23) 125 fun h25=>
 App Pz 333 333 (vS out_4) (.slice (some (aS h24 0)) 1 1) h25 fun s26 h27=>
 ∃m28,m28<m3/\I1 s26 (IntKind.wrap .i64 (x_5+1)) h27 m28))
 (R (vS out_4) h6)
theorem vc273 (p0:Addr) (p1:Sl) (H:@W273 h R p0 p1):Fn Pz 273 #[.pointer (some p0),vS p1] h R:=fnI (A:=(.s .z (.s .z (.s (.s .z (.b (.l [(5,.one (.slice)),(10,.one (.int .i64))] .z))) .z)))) (by kernel_rfl) H

def W306 (p0_1:Bool) (p0_2 p0_3 p1:Int):Prop:=
 Wn h (L3 p0_1 p0_2 p0_3) 327 fun h4=>
 Wn h4 [vI 0,.bool false,vI 0,vI 0,.slice none 0 0] 125 fun h5=>
 ∃x6,rB h5 (aS h 0) x6 /\
 ∃x7,rI h5 (aS h 1) x7 /\
 ∃x8,rI h5 (aS h 2) x8 /\
 Wp h5 (aS h4 0) 5 [vI p1,.bool x6,vI x7,vI x8,.slice none 0 0] fun h9=>
 ∃x10 x11 x12 x13 x14,aL12 h9 (aS h4 0) x10 x11 x12 x13 x14 /\
 R (.agg ⟨(L12 x10 x11 x12 x13 x14)⟩) h9
theorem vc306 (p0_1:Bool) (p0_2 p0_3 p1:Int) (H:@W306 h R p0_1 p0_2 p0_3 p1):Fn Pz 306 #[.agg ⟨(L3 p0_1 p0_2 p0_3)⟩,vI p1] h R:=fnI (A:=.z) (by kernel_rfl) H

def W219 (p0_1:ByteArray) (p0_2 p0_3:Sl) (p0_4 p0_5 p0_6:Int) (p0_7 p0_8:Sl) (p1 p2:Int):Prop:=
 Wn h (L2 p0_1 p0_2 p0_3 p0_4 p0_5 p0_6 p0_7 p0_8) 77 fun h9=>
 ∃x10 x11 x12 x13 x14 x15 x16 x17,aL2 h9 (aS h 0) x10 x11 x12 x13 x14 x15 x16 x17 /\
 Fn Pz 210 #[.agg ⟨(L2 x10 x11 x12 x13 x14 x15 x16 x17)⟩,vI p1] h9
 (fun v18 h21=>∃x19:Option Addr,∃x20:Int,v18=.tuple ⟨[.pointer x19,vI x20]⟩ /\
 sB (x20 != 0)
 (R (.tuple ⟨[.slice none 0 0,.bool false,vI x20]⟩) h21)
 (sB (decide (p2<0))
 (R (.tuple ⟨[.slice none 0 0,.bool false,vI 2]⟩) h21)
 (∃x22,rI h21 (aS h 3) x22 /\
 sB (decide (p2>=x22))
 (R (.tuple ⟨[.slice none 0 0,.bool false,vI 2]⟩) h21)
 (Wn h21 [vI p2] 3 fun h23=>
 Fn Pz 216 #[.pointer x19,.slice (some (aS h21 0)) 1 1] h23
 (fun v24 h26=>∃x25,iS v24 x25 /\
 ∃x27,rI h26 (aS h 5) x27 /\
 Fn Pz 217 #[.pointer x19,vS x25] h26
 (fun v28 h30=>∃x29,iS v28 x29 /\
 Sm [(aS h 5)] h26 h30 /\
 Fn Pz 273 #[.pointer x19,vS x29] h30
 (fun v31 h33=>∃x32,iS v31 x32 /\
 Sm [(aS h 5)] h30 h33 /\
 Fn Pz 215 #[vS x25,vI x27] h33
 (fun v34 h36=>∃x35,iB v34 x35 /\
 R (.tuple ⟨[vS x32,.bool x35,vI 0]⟩) h36))))))))
theorem vc219 (p0_1:ByteArray) (p0_2 p0_3:Sl) (p0_4 p0_5 p0_6:Int) (p0_7 p0_8:Sl) (p1 p2:Int) (H:@W219 h R p0_1 p0_2 p0_3 p0_4 p0_5 p0_6 p0_7 p0_8 p1 p2):Fn Pz 219 #[.agg ⟨(L2 p0_1 p0_2 p0_3 p0_4 p0_5 p0_6 p0_7 p0_8)⟩,vI p1,vI p2] h R:=fnI (A:=.z) (by kernel_rfl) H

def W212 (p0:Sl) (p1:FuncId) (p1c:Option Addr):Prop:=
 QI 0 h fun I1 x_4 h5 m3=>
 sB (decide (x_4<(p0.n:Int)))
 (NB p0.a fun b6 o7=>Ib x_4 p0.n /\
 ∃x8,rS h5 ⟨b6,o7+Int.toNat x_4*1,none⟩ x8 /\
 bif callable Pz p1 then Fn Pz p1 #[vS x8,.pointer p1c] h5
 (fun v9 h11=>∃x10,iB v9 x10 /\
 sB x10
 (R (vI x_4) h11)
 (∃m12,m12<m3/\I1 (IntKind.wrap .i64 (x_4+1)) h11 m12)) else ExtW Pz p1 #[vS x8,.pointer p1c] h5
 (fun v9 h11=>∃x10,iB v9 x10 /\
 sB x10
 (R (vI x_4) h11)
 (∃m12,m12<m3/\I1 (IntKind.wrap .i64 (x_4+1)) h11 m12)))
 (R (vI (-1)) h5)
theorem vc212 (p0:Sl) (p1:FuncId) (p1c:Option Addr) (H:@W212 h R p0 p1 p1c):Fn Pz 212 #[vS p0,.func (.func p1) #[] #[.pointer p1c]] h R:=fnI (A:=(.s .z (.s (.s .z (.b (.l [(8,.one (.int .i64))] .z))) .z))) (by kernel_rfl) H

def W213 (p0:Sl) (c0:Addr):Prop:=
 ∃x1,rS h c0 x1 /\
 Fn Pz 214 #[vS p0,vS x1] h
 (fun v2 h4=>∃x3,iB v2 x3 /\
 R (.bool x3) h4)
theorem vc213 (p0:Sl) (c0:Addr) (H:@W213 h R p0 c0):Fn Pz 213 #[vS p0,.pointer (some c0)] h R:=fnI (A:=.z) (by kernel_rfl) H

def W211 (p0:Sl) (c0:Addr) (c1:Addr):Prop:=
 Wn h [vS p0] 224 fun h1=>
 ∃x2,rS h1 c0 x2 /\
 Fn Pz 212 #[vS x2,.func (.func 213) #[] #[.pointer (some (aS h 0))]] h1
 (fun v3 h5=>∃x4,iI v3 x4 /\
 sB (decide (x4>=0))
 (R (vI x4) h5)
 (∃x6,rS h5 c0 x6 /\
 ∃x7,rS h5 (aS h 0) x7 /\
 ∃x8,rS h5 ⟨c0.block,c0.off+1,none⟩ x8 /\
 ∃x9,rS h5 (aS h 0) x9 /\
 ∃x10,rI h5 ⟨c1.block,c1.off+5,none⟩ x10 /\
 Wn h5 [vS x7] 224 fun h11=>
 Sm [⟨c1.block,c1.off+5,none⟩,(aS h 0),⟨c0.block,c0.off+1,none⟩,c0] h5 h11 /\
 App Pz 216 216 (vS x6) (.slice (some (aS h5 0)) 1 1) h11 fun s12 h13=>
 Sm [⟨c1.block,c1.off+5,none⟩,(aS h 0),⟨c0.block,c0.off+1,none⟩] h11 h13 /\
 Fn Pz 215 #[vS x9,vI x10] h13
 (fun v14 h16=>∃x15,iB v14 x15 /\
 Sm [⟨c0.block,c0.off+1,none⟩,(aS h 0),c0] h13 h16 /\
 Wn h16 [.bool x15] 4 fun h17=>
 Sm [⟨c0.block,c0.off+1,none⟩,(aS h 0),c0] h16 h17 /\
 App Pz 85 85 (vS x8) (.slice (some (aS h16 0)) 1 1) h17 fun s18 h19=>
 Sm [(aS h 0),c0] h17 h19 /\
 Wp h19 c0 1 [vS s12] fun h20=>
 Sm [⟨c1.block,c1.off+5,none⟩,(aS h 0)] h19 h20 /\
 Wp h20 ⟨c0.block,c0.off+1,none⟩ 1 [vS s18] fun h21=>
 ∃x22,rS h21 c0 x22 /\
 R (vI (IntKind.wrap .i64 ((x22.n:Int)-1))) h21)))
theorem vc211 (p0:Sl) (c0:Addr) (c1:Addr) (H:@W211 h R p0 c0 c1):Fn Pz 211 #[vS p0,.pointer (some c0),.pointer (some c1)] h R:=fnI (A:=.z) (by kernel_rfl) H

def W145 (p0_1:ByteArray) (p0_2 p0_3:Sl) (p0_4 p0_5 p0_6:Int) (p0_7 p0_8:Sl) (p1:Int):Prop:=
 Wn h (L2 p0_1 p0_2 p0_3 p0_4 p0_5 p0_6 p0_7 p0_8) 77 fun h9=>
 Wn h9 [.slice none 0 0,.slice none 0 0,.slice none 0 0] 218 fun h10=>
 ∃x11 x12 x13 x14 x15 x16 x17 x18,aL2 h10 (aS h 0) x11 x12 x13 x14 x15 x16 x17 x18 /\
 Fn Pz 210 #[.agg ⟨(L2 x11 x12 x13 x14 x15 x16 x17 x18)⟩,vI p1] h10
 (fun v19 h22=>∃x20:Option Addr,∃x21:Int,v19=.tuple ⟨[.pointer x20,vI x21]⟩ /\
 sB (x21 != 0)
 (Wp h22 (aS h9 0) 3 [.slice none 0 0,.slice none 0 0,.slice none 0 0] fun h23=>
 ∃x24 x25 x26,aL9 h23 (aS h9 0) x24 x25 x26 /\
 R (.tuple ⟨[.agg ⟨(L9 x24 x25 x26)⟩,vI x21]⟩) h23)
 (Wn h22 [.slice none 0 0,.slice none 0 0,.slice none 0 0] 218 fun h27=>
 ∃x28,rI h27 (aS h 4) x28 /\
 Wn h27 [vI x28] 3 fun h29=>
 Fn Pz 216 #[.pointer x20,.slice (some (aS h27 0)) 1 1] h29
 (fun v30 h32=>∃x31,iS v30 x31 /\
 Fn Pz 211 #[vS x31,.pointer (some (aS h22 0)),.pointer (some (aS h 0))] h32
 (fun v33 h35=>∃x34,iI v33 x34 /\
 QI 0 h35 fun I36 i_39 h40 m38=>
 ∃x41,rS h40 (aS h22 0) x41 /\
 sB (decide (i_39<(x41.n:Int)))
 (∃x42,rS h40 (aS h22 0) x42 /\
 NB x42.a fun b43 o44=>Ib i_39 x42.n /\
 ∃x45,rS h40 ⟨b43,o44+Int.toNat i_39*1,none⟩ x45 /\
 Fn Pz 217 #[.pointer x20,vS x45] h40
 (fun v46 h48=>∃x47,iS v46 x47 /\
 QI 0 h48 fun I49 x_52 h53 m51=>
 sB (decide (x_52<(x47.n:Int)))
 (NB x47.a fun b54 o55=>Ib x_52 x47.n /\
 ∃x56 x57 x58,aL3 h53 ⟨b54,o55+Int.toNat x_52*3,none⟩ x56 x57 x58 /\
 Wn h53 [.bool false,vI 0,vI 0] 327 fun h59=>
 Wp h59 (aS h53 0) 3 (L3 x56 x57 x58) fun h60=>
 ∃x61,rS h60 (aS h22 0) x61 /\
 NB x61.a fun b62 o63=>Ib i_39 x61.n /\
 ∃x64,rS h60 ⟨b62,o63+Int.toNat i_39*1,none⟩ x64 /\
 ∃x65 x66 x67,aL3 h60 (aS h53 0) x65 x66 x67 /\
 Fn Pz 218 #[.pointer x20,vS x64,.agg ⟨(L3 x65 x66 x67)⟩] h60
 (fun v68 h70=>∃x69,iS v68 x69 /\
 Fn Pz 211 #[vS x69,.pointer (some (aS h22 0)),.pointer (some (aS h 0))] h70
 (fun v71 h73=>∃x72,iI v71 x72 /\
 ∃x74,rS h73 (aS h22 2) x74 /\
 ∃x75,rB h73 (aS h53 0) x75 /\
 ∃x76,rI h73 (aS h53 1) x76 /\
 ∃x77,rI h73 (aS h53 2) x77 /\
 Wn h73 [vI i_39,.bool x75,vI x76,vI x77,vI x72,.bool false] 116 fun h78=>
 App Pz 86 86 (vS x74) (.slice (some (aS h73 0)) 1 1) h78 fun s79 h80=>
 Wp h80 (aS h22 2) 1 [vS s79] fun h81=>
 ∃m82,m82<m51/\I49 (IntKind.wrap .i64 (x_52+1)) h81 m82)))
 (∃x83,rS h53 (aS h22 0) x83 /\
 sB (decide ((x83.n:Int)>200))
 (Wp h53 (aS h9 0) 3 [.slice none 0 0,.slice none 0 0,.slice none 0 0] fun h84=>
 ∃x85 x86 x87,aL9 h84 (aS h9 0) x85 x86 x87 /\
 R (.tuple ⟨[.agg ⟨(L9 x85 x86 x87)⟩,vI 6]⟩) h84)
 (∃m88,m88<m38/\I36 (IntKind.wrap .i64 (i_39+1)) h53 m88))))
 (∃x89 x90 x91,aL9 h40 (aS h22 0) x89 x90 x91 /\
 Wp h40 (aS h9 0) 3 (L9 x89 x90 x91) fun h92=>
 ∃x93 x94 x95,aL9 h92 (aS h9 0) x93 x94 x95 /\
 R (.tuple ⟨[.agg ⟨(L9 x93 x94 x95)⟩,vI 0]⟩) h92)))))
theorem vc145 (p0_1:ByteArray) (p0_2 p0_3:Sl) (p0_4 p0_5 p0_6:Int) (p0_7 p0_8:Sl) (p1:Int) (H:@W145 h R p0_1 p0_2 p0_3 p0_4 p0_5 p0_6 p0_7 p0_8 p1):Fn Pz 145 #[.agg ⟨(L2 p0_1 p0_2 p0_3 p0_4 p0_5 p0_6 p0_7 p0_8)⟩,vI p1] h R:=fnI (A:=(.s .z (.s .z (.s .z (.s .z (.s .z (.s .z (.s (.s .z (.b (.l [(10,.one (.int .i64))] (.s .z (.s (.b (.s (.s .z (.b (.l [(47,.one (.int .i64))] .z))) .z)) .z))))) .z)))))))) (by kernel_rfl) H

def W109 (p0:Sl):Prop:=
 QI 0 h fun I1 x_4 h5 m3=>
 sB (decide (x_4<(p0.n:Int)))
 (NB p0.a fun b6 o7=>Ib x_4 p0.n /\
 ∃x8,rI h5 ⟨b6,o7+Int.toNat x_4*1,none⟩ x8 /\
 sB (x8 != 0)
 (R (vI x8) h5)
 (∃m9,m9<m3/\I1 (IntKind.wrap .i64 (x_4+1)) h5 m9))
 (R (vI 0) h5)
theorem vc109 (p0:Sl) (H:@W109 h R p0):Fn Pz 109 #[vS p0] h R:=fnI (A:=(.s .z (.s .z (.s (.s .z (.b (.l [(8,.one (.int .i64))] .z))) .z)))) (by kernel_rfl) H

def W110 (p0 p1:Int):Prop:=
 Fn Pz 162 #[vI p0] h
 (fun v1 h3=>∃x2,iB v1 x2 /\
 Fn Pz 162 #[vI p1] h3
 (fun v4 h6=>∃x5,iB v4 x5 /\
 sB x2
 (sB x5
 (R (vI 0) h6)
 (R (vI (-1)) h6))
 (sB x5
 (R (vI 1) h6)
 (sB (decide (p0<p1))
 (R (vI (-1)) h6)
 (sB (decide (p0>p1))
 (R (vI 1) h6)
 (R (vI 0) h6))))))
theorem vc110 (p0 p1:Int) (H:@W110 h R p0 p1):Fn Pz 110 #[vI p0,vI p1] h R:=fnI (A:=.z) (by kernel_rfl) H

def W162 (p0:Int):Prop:=
 R (.bool (p0 != p0)) h
theorem vc162 (p0:Int) (H:@W162 h R p0):Fn Pz 162 #[vI p0] h R:=fnI (A:=.z) (by kernel_rfl) H

end Go.VC
end

section
namespace Go.VC
open Go.Proofs
variable {h:Heap} {R:Value->Heap->Prop}

def W268 (p0:Sl) (p1:Int):Prop:=
 sB (decide (p1<(imin (p0.n:Int) 64)))
 (NB p0.a fun b1 o2=>Ib p1 p0.n /\
 ∃x3:Int,hc h ⟨b1,o2+Int.toNat p1*1,none⟩=some (.int .u64 x3) /\
 R (.int .u64 x3) h)
 (R (.int .u64 0) h)
theorem vc268 (p0:Sl) (p1:Int) (H:@W268 h R p0 p1):Fn Pz 268 #[vS p0,vI p1] h R:=fnI (A:=.z) (by kernel_rfl) H

def W215 (p0:Sl) (p1:Int):Prop:=
 sB (decide (p1>=0))
 (sB (decide (p1<4096))
 ((64:Int)≠0/\Fn Pz 268 #[vS p0,vI (IntKind.wrap .i64 (Int.tdiv p1 64))] h
 (fun v1 h3=>∃x2:Int,v1=.int .u64 x2 /\
 (64:Int)≠0/\0<=(Int.tmod p1 64)/\R (.bool ((andI .u64 (shrI .u64 x2 (Int.tmod p1 64)) 1)==1)) h3))
 (R (.bool false) h))
 (R (.bool false) h)
theorem vc215 (p0:Sl) (p1:Int) (H:@W215 h R p0 p1):Fn Pz 215 #[vS p0,vI p1] h R:=fnI (A:=.z) (by kernel_rfl) H

def V303a (n_15 p0:Int) (R:Value->Heap->Prop) (h h16:Heap):Prop:=
 ((0:Int)<=(0:Int)/\(0:Int)<=(n_15:Int)/\(n_15:Int)<=(n_15:Int)/\(n_15:Int)<=((Int.toNat (imin p0 64)):Nat))/\R (.slice (subA (some (aS h 0)) (Int.toNat 0) (Int.toNat n_15) 1) (Int.toNat n_15-Int.toNat 0) (Int.toNat n_15-Int.toNat 0)) h16
def V303b (x_5 p0:Int) (h9 h:Heap) (x8:Int) (m4:Nat) (I2:Int->Heap->Nat->Prop):Prop:=
 (0<=(x_5:Int)/\(x_5:Int)<((Int.toNat (imin p0 64)):Nat))/\Wp h9 (aS h (0+Int.toNat x_5*1)) 1 [.int .u64 x8] fun h10=>∃m11,m11<m4/\I2 (IntKind.wrap .i64 (x_5+1)) h10 m11
def W303 (p0:Int) (p1:FuncId) (p1c:Option Addr):Prop:=
 ((0:Int)<=(imin p0 64)/\((imin p0 64):Int)<=(imin p0 64)/\((8:Nat):Int)*(imin p0 64)<=140737488355328)/\Wn h (madeL Pz 181 (Int.toNat (imin p0 64))) 181 fun h1=>QI 0 h1 fun I2 x_5 h6 m4=>sB (decide (x_5<((Int.toNat (imin p0 64)):Int))) (bif callable Pz p1 then Fn Pz p1 #[vI x_5,.pointer p1c] h6 (fun v7 h9=>∃x8:Int,v7=.int .u64 x8/\V303b x_5 p0 h9 h x8 m4 I2) else ExtW Pz p1 #[vI x_5,.pointer p1c] h6 (fun v7 h9=>∃x8:Int,v7=.int .u64 x8/\V303b x_5 p0 h9 h x8 m4 I2)) (QI (imin p0 64) h6 fun I12 n_15 h16 m14=>sB (decide (n_15>0)) ((0<=((IntKind.wrap .i64 (n_15-1)):Int)/\((IntKind.wrap .i64 (n_15-1)):Int)<((Int.toNat (imin p0 64)):Nat))/\∃x17:Int,hc h16 (aS h (0+Int.toNat (IntKind.wrap .i64 (n_15-1))*1))=some (.int .u64 x17)/\sB (x17==0) (∃m18,m18<m14/\I12 (IntKind.wrap .i64 (n_15-1)) h16 m18) (V303a n_15 p0 R h h16)) (V303a n_15 p0 R h h16))
theorem vc303 (p0:Int) (p1:FuncId) (p1c:Option Addr) (H:@W303 h R p0 p1 p1c):Fn Pz 303 #[vI p0,.func (.func p1) #[] #[.pointer p1c]] h R:=fnI (A:=(.s .z (.s .z (.s .z (.s (.s .z (.b (.l [(13,.one (.int .i64))] .z))) (.s (.b (.l [(0,.one (.int .i64))] .z)) .z)))))) (by kernel_rfl) H

def W304 (p0:Int) (c0b:Nat) (c0o:Nat):Prop:=
 Ib p0 64 /\
 ∃x1:Int,hc h ⟨c0b,c0o+Int.toNat p0*1,none⟩=some (.int .u64 x1) /\
 R (.int .u64 x1) h
theorem vc304 (p0:Int) (c0b:Nat) (c0o:Nat) (H:@W304 h R p0 c0b c0o):Fn Pz 304 #[vI p0,.pointer (some ⟨c0b,c0o,none⟩)] h R:=fnI (A:=.z) (by kernel_rfl) H

def W269 (p0:Sl):Prop:=
 Wn h [.int .u64 0,.int .u64 0,.int .u64 0,.int .u64 0,.int .u64 0,.int .u64 0,.int .u64 0,.int .u64 0,.int .u64 0,.int .u64 0,.int .u64 0,.int .u64 0,.int .u64 0,.int .u64 0,.int .u64 0,.int .u64 0,.int .u64 0,.int .u64 0,.int .u64 0,.int .u64 0,.int .u64 0,.int .u64 0,.int .u64 0,.int .u64 0,.int .u64 0,.int .u64 0,.int .u64 0,.int .u64 0,.int .u64 0,.int .u64 0,.int .u64 0,.int .u64 0,.int .u64 0,.int .u64 0,.int .u64 0,.int .u64 0,.int .u64 0,.int .u64 0,.int .u64 0,.int .u64 0,.int .u64 0,.int .u64 0,.int .u64 0,.int .u64 0,.int .u64 0,.int .u64 0,.int .u64 0,.int .u64 0,.int .u64 0,.int .u64 0,.int .u64 0,.int .u64 0,.int .u64 0,.int .u64 0,.int .u64 0,.int .u64 0,.int .u64 0,.int .u64 0,.int .u64 0,.int .u64 0,.int .u64 0,.int .u64 0,.int .u64 0,.int .u64 0] 436 fun h1=>
 QI 0 h1 fun I2 x_5 h6 m4=>
 sB (decide (x_5<(p0.n:Int)))
 (NB p0.a fun b7 o8=>Ib x_5 p0.n /\
 ∃x9,rI h6 ⟨b7,o8+Int.toNat x_5*1,none⟩ x9 /\
 sB (decide (x9>=0))
 (sB (decide (x9<4096))
 ((64:Int)≠0/\(0<=((IntKind.wrap .i64 (Int.tdiv x9 64)):Int)/\((IntKind.wrap .i64 (Int.tdiv x9 64)):Int)<(64:Nat)) /\
 ∃x10:Int,hc h6 (aS h (0+Int.toNat (IntKind.wrap .i64 (Int.tdiv x9 64))*1))=some (.int .u64 x10) /\
 (64:Int)≠0/\0<=(Int.tmod x9 64)/\(0<=((IntKind.wrap .i64 (Int.tdiv x9 64)):Int)/\((IntKind.wrap .i64 (Int.tdiv x9 64)):Int)<(64:Nat)) /\
 Wp h6 (aS h (0+Int.toNat (IntKind.wrap .i64 (Int.tdiv x9 64))*1)) 1 [.int .u64 (orI .u64 x10 (shlI .u64 1 (Int.tmod x9 64)))] fun h11=>
 ∃m12,m12<m4/\I2 (IntKind.wrap .i64 (x_5+1)) h11 m12)
 (∃m13,m13<m4/\I2 (IntKind.wrap .i64 (x_5+1)) h6 m13))
 (∃m14,m14<m4/\I2 (IntKind.wrap .i64 (x_5+1)) h6 m14))
 (Fn Pz 303 #[vI 64,.func (.func 304) #[] #[.pointer (some (aS h 0))]] h6
 (fun v15 h17=>∃x16,iS v15 x16 /\
 R (vS x16) h17))
theorem vc269 (p0:Sl) (H:@W269 h R p0):Fn Pz 269 #[vS p0] h R:=fnI (A:=(.s .z (.s .z (.s (.s .z (.b (.l [(8,.one (.int .i64))] .z))) .z)))) (by kernel_rfl) H

def W267 (p0 p1:Sl):Prop:=
 QI 0 h fun I1 x_4 h5 m3=>
 sB (decide (x_4<(imin (p0.n:Int) 64)))
 (NB p0.a fun b6 o7=>Ib x_4 p0.n /\
 ∃x8:Int,hc h5 ⟨b6,o7+Int.toNat x_4*1,none⟩=some (.int .u64 x8) /\
 Fn Pz 268 #[vS p1,vI x_4] h5
 (fun v9 h11=>∃x10:Int,v9=.int .u64 x10 /\
 Sm [⟨b6,o7+Int.toNat x_4*1,none⟩] h5 h11 /\
 sB ((clrI .u64 x8 x10) != 0)
 (R (.bool false) h11)
 (∃m12,m12<m3/\I1 (IntKind.wrap .i64 (x_4+1)) h11 m12)))
 (R (.bool true) h5)
theorem vc267 (p0 p1:Sl) (H:@W267 h R p0 p1):Fn Pz 267 #[vS p0,vS p1] h R:=fnI (A:=(.s .z (.s (.s .z (.b (.l [(9,.one (.int .i64))] .z))) .z))) (by kernel_rfl) H

def W214 (p0 p1:Sl):Prop:=
 Fn Pz 267 #[vS p0,vS p1] h
 (fun v1 h3=>∃x2,iB v1 x2 /\
 sB x2
 (Fn Pz 267 #[vS p1,vS p0] h3
 (fun v4 h6=>∃x5,iB v4 x5 /\
 R (.bool x5) h6))
 (R (.bool false) h3))
theorem vc214 (p0 p1:Sl) (H:@W214 h R p0 p1):Fn Pz 214 #[vS p0,vS p1] h R:=fnI (A:=.z) (by kernel_rfl) H

end Go.VC
end

section
namespace Go.VC
open Go.Proofs Go.LexS
theorem word58 (ws:List Nat) (s:Sl) (i:Nat) (h:Heap) (hr:Rw h 1 s (ws.map wC)) (hl:ws.length<=64) :
  Fn Pz 268 #[.slice s.a s.n s.c,.int .i64 i] h fun v h'=>v=.int .u64 ((ws.getD i 0:Nat):Int)/\h'=h:=by
 apply vc268;unfold W268;have hn:=hr.ln;rw[imin_min];refine sBi (fun c1=>?_) (fun c1=>?_)
 ·refine hr.nbI (by omega) (by omega) fun b1 o2 d1 g1 t1=>?_;refine⟨_,t1.hd,?_,rfl⟩;rw[Yo,show ws[i]?=some d1 from g1];rfl
 ·refine⟨?_,rfl⟩;rw[Yo,Yl (by omega)];rfl
theorem has29 (p:Nat->Bool) (s:Sl) (n:Int) (h:Heap) (hr:SetV h s p) :
  Fn Pz 215 #[.slice s.a s.n s.c,.int .i64 n] h fun v h'=>v=.bool (decide (0<=n/\n<4096)&&p n.toNat)/\h'=h:=by
 apply vc215;unfold W215;obtain⟨ws,h1,h2,h3,h4⟩:=hr.ex;refine sBi (fun c1=>?_) (fun c1=>?_)
 ·refine sBi (fun c2=>?_) (fun c2=>?_)
  ·obtain⟨m,rfl⟩:=Int.eq_ofNat_of_zero_le c1;refine⟨by omega,?_⟩;have e1:IntKind.wrap .i64 (Int.tdiv (m:Int) 64)=((m/64:Nat):Int):=by
    have:Int.tdiv (m:Int) 64=((m/64:Nat):Int):=rfl;rw[this];exact w64 (by omega) (by omega)
   rw[e1];refine (word58 ws s (m/64) h h1 h2).mono ?_;rintro _ h5 ⟨rfl,rfl⟩;have e2:Int.tmod (m:Int) 64=((m%64:Nat):Int):=rfl;refine⟨_,rfl,by omega,by rw[e2];omega,?_,rfl⟩;rw[e2,bit_has (by
    rw[Yo];cases hw:ws[m/64]? with
    | none=>exact Nat.two_pow_pos 64
    | some w=>exact h3 w (Yb hw)) (by omega)]
   rw[decide_eq_true (by omega),Bool.true_and];have:=h4 m;unfold memB at this;rw[show ((m:Int)).toNat=m from rfl,<-this]
  ·exact⟨by rw[decide_eq_false (by omega)];rfl,rfl⟩
 ·exact⟨by rw[decide_eq_false (by omega)];rfl,rfl⟩
theorem sub136 (p q:Nat->Bool) (a b:Sl) (h:Heap) (ha:SetV h a p) (hb:SetV h b q) :
  Fn Pz 267 #[.slice a.a a.n a.c,.slice b.a b.n b.c] h fun v h'=>(∃r:Bool,v=.bool r/\(r=true ↔ ∀k,p k=true->q k=true))/\h'=h:=by
 apply vc267;unfold W267;obtain⟨ws,h1,h2,h3,h4⟩:=ha.ex;obtain⟨us,g1,g2,g3,g4⟩:=hb.ex;have hn:=h1.ln;have hlt:∀(l:List Nat),(∀w∈l,w<2^64)->∀i,l.getD i 0<2^64:=fun l hl i=>by
  rw[Yo];cases hw:l[i]? with
  | none=>exact Nat.two_pow_pos 64
  | some w=>exact hl w (Yb hw)
 rw[imin_min,show min (a.n:Int) 64=(a.n:Int) by omega];refine up_loop (n:=a.n) (fun i h'=>h'=h/\∀j,j<i->∀k,k<64->(ws.getD j 0).testBit k=true->(us.getD j 0).testBit k=true) ⟨rfl,fun j hj=>by omega⟩ ?_;rintro-i h5 hi ⟨rfl,hq⟩;refine sB_intro (fun l=>?_) (fun l=>?_)
 ·replace l:=lt_t l;refine h1.nbI (by omega) (by omega) fun b6 o7 d6 g6 t6=>?_;replace g6:ws[i]?=some d6:=g6;have hd:d6=ws.getD i 0:=by rw[Yo,g6];rfl
  refine⟨_,t6.hd,?_⟩;refine (word58 us b i h5 g1 g2).mono ?_;rintro _ h11 ⟨rfl,rfl⟩;refine⟨_,rfl,fun _ _ _ _ hv=>hv,?_⟩;have hz:=clr_zero (a:=d6) (b:=us.getD i 0) (h3 _ (Yb g6)) (hlt us g3 i);refine sBn (fun c2=>?_) (fun c2=>?_)
  ·refine⟨⟨_,rfl,⟨fun e=>(by cases e),fun hall=>absurd (hz.2 fun k hk hb=>?_) c2⟩⟩,rfl⟩;have:=hall (64*i+k);rw[<-h4,<-g4] at this;unfold memB at this;rw[show (64*i+k)/64=i by omega,show (64*i+k)%64=k by omega] at this;exact this (by rw[<-hd];exact hb)
  ·refine Up.next l (by omega) ⟨rfl,fun j hj k hk hb=>?_⟩;by_cases e:j=i
   ·subst e;rw[<-hd] at hb;exact hz.1 c2 k hk hb
   ·exact hq j (by omega) k hk hb
 ·replace l:=lt_f l;refine⟨⟨_,rfl,⟨fun _ k hk=>?_,fun _=>rfl⟩⟩,rfl⟩;rw[<-h4] at hk;rw[<-g4];unfold memB at hk ⊢;by_cases hkl:k/64<i
  ·exact hq _ hkl _ (by omega) hk
  ·rw[Yo,Yl (by omega)] at hk;simp at hk
theorem equal86 (p q:Nat->Bool) (a b:Sl) (h:Heap) (ha:SetV h a p) (hb:SetV h b q) :
  Fn Pz 214 #[.slice a.a a.n a.c,.slice b.a b.n b.c] h fun v h'=>(∃r:Bool,v=.bool r/\(r=true ↔ p=q))/\h'=h:=by
 apply vc214;unfold W214;refine (sub136 p q a b h ha hb).mono ?_;rintro _ h3 ⟨⟨r,rfl,hr⟩,rfl⟩;refine⟨_,rfl,sB_intro (fun c=>?_) (fun c=>?_)⟩
 ·refine (sub136 q p b a h3 hb ha).mono ?_;rintro _ h6 ⟨⟨r2,rfl,hr2⟩,rfl⟩;refine⟨_,rfl,⟨_,rfl,⟨fun h=>?_,fun h=>?_⟩⟩,rfl⟩
  ·funext k
   have h1:=hr.1 c k;have h2:=hr2.1 h k;cases hp:p k<;>cases hq:q k<;>simp_all
  ·rw[hr2];intro k hk;rw[h];exact hk
 ·refine⟨⟨_,rfl,⟨fun h=>(by cases h),fun h=>?_⟩⟩,rfl⟩;rw[<-c,hr];intro k hk;rw[<-h];exact hk
theorem cal101:callable Pz 304=true:=by kernel_rfl
theorem made121 (n:Nat):madeL Pz 181 n=((List.replicate n 0).map wC).flatten:=by
 have e:zeroC Pz 181=[.int .u64 0]:=by kernel_rfl
 unfold madeL;rw[e,List.map_replicate];rfl
theorem wrows (L:List Nat):∀r∈L.map wC,r.length=1:=fun r hr=>by obtain⟨x,_,rfl⟩:=Yp.1 hr;rfl
theorem wflat (ws:List Nat) (i:Nat):((ws.map wC).flatten)[i]?=(ws[i]?).map fun w=>.int .u64 (w:Int):=by
 by_cases h:i<ws.length
 ·have:=getElem?_flatten (k:=1) (ws.map wC) i 0 (wC ws[i]) (wrows ws) (by rw[Yd,Yi h];rfl) (by omega);rw[Nat.mul_one,Nat.add_zero] at this;rw[this,Yi h];rfl
 ·have hl:((ws.map wC).flatten).length=ws.length:=by rw[flatten_len _ (wrows ws),Yc,Nat.mul_one]
  rw[Yl (by omega),Yl (by omega)];rfl
theorem wsplice {ws:List Nat} {i:Nat} (hi:i<ws.length) (w:Nat):splice ((ws.map wC).flatten) (i*1) [.int .u64 (w:Int)]=((ws.set i w).map wC).flatten:=by
 have:=splice_flat (n:=1) (j:=0) (vs:=[.int .u64 (w:Int)]) (row:=wC ws[i]) (ws.map wC) i (wrows ws) (by rw[Yd,Yi hi];rfl) (by simp);rw[Nat.add_zero] at this;rw[this,List.map_set];rfl
structure SI (ws:List Nat) (k:Nat) (p:Nat->Bool):Prop where
 pl:ws.length<=64
 pk:k<=ws.length
 pw:∀w∈ws,w<2^64
 pz:∀(i w:Nat),k<=i->ws[i]?=some w->w=0
 pm:∀j,memB ws j=p j
def setB (b:Nat) (ws:List Nat):It:=.blk b (ws.map wC).flatten 181
theorem SI.v {ws:List Nat} {k:Nat} {p:Nat->Bool} (hS:SI ws k p) {h:Heap} {b:Nat} (ho:Own h b (ws.map wC).flatten 181) (c:Nat):SetV h ⟨some ⟨b,0,none⟩,k,c⟩ p:=by
 refine⟨ws.take k,⟨by rw[Yc,Yu];have:=hS.pk;simp only;omega,fun _=>⟨b,0,rfl,fun i row hi j v hj=>?_⟩⟩,by rw[Yu];have:=hS.pl;omega,fun w hw=>hS.pw w (List.mem_of_mem_take hw),fun j=>by rw[memB_take hS.pz];exact hS.pm j⟩;rw[Yd] at hi;obtain⟨w,hw,rfl⟩:=Yya.1 hi;have hj0:j=0:=by have:=(Ya.1 hj).1;simpa [wC] using this
 subst hj0;have hv:v=.int .u64 (w:Int):=by simpa [wC] using hj.symm
 subst hv;rw[addk_at,Own.hc ho,wflat];rw[Yyf] at hw;split at hw
 ·rw[show 0+i*1+0=i by omega,hw];rfl
 ·cases hw
theorem build100 (ws:List Nat) (p:Nat->Bool) (b:Nat) (h:Heap) (hl:ws.length=64) (hw:∀w∈ws,w<2^64) (hm:∀j,memB ws j=p j) (hb:∀(i w:Nat),ws[i]?=some w->hc h ⟨b,i,none⟩=some (.int .u64 (w:Int))) :
  Fn Pz 303 #[.int .i64 64,.func (.func 304) #[] #[.pointer (some ⟨b,0,none⟩)]] h fun v h'=>Ext h h'/\∃(k:Nat),v=.slice (some ⟨h.size,0,none⟩) k k/\Own h' h.size (ws.map wC).flatten 181/\SI ws k p:=by
 apply vc303;unfold W303 V303b V303a;have hs:=St.refl h;rw[show imin (64:Int) 64=64 from rfl,show Int.toNat 64=64 from rfl,made121];refine⟨by decide,?_⟩;refine hs.newb fun h1 hs=>?_;refine up_loop (n:=64) (fun i h'=>∃us:List Nat,us.length=64/\us.take i=ws.take i/\St h h' [.blk h.size (us.map wC).flatten 181]) ⟨List.replicate 64 0,by rw[Yg],rfl,hs⟩ ?_;rintro-i h6 hi ⟨us,hul,hut,hs⟩;refine sB_intro (fun l=>?_) (fun l=>?_)
 ·replace l:=lt_t l;rw[cal101,cond_true];obtain⟨w,hw1⟩:=get_some (l:=ws) (i:=i) (by omega);have hfn:Fn Pz 304 #[.int .i64 (i:Int),.pointer (some ⟨b,0,none⟩)] h6 fun v h'=>v=.int .u64 (w:Int)/\h'=h6:=by
   apply vc304 (i:Int) b 0;unfold W304;refine⟨by omega,_,?_,rfl,rfl⟩;have:=hc_ext hs.ext (hb i w hw1);rw[show (0+Int.toNat (i:Int)*1)=i by simp];exact this
  refine hfn.mono ?_;rintro _ h9 ⟨rfl,rfl⟩;refine⟨_,rfl,by omega,?_⟩;rw[show (0+Int.toNat (i:Int)*1)=i*1 by simp];refine hs.put 0 rfl (o:=i*1) (vs:=[.int .u64 (w:Int)]) rfl (by rw[flatten_len _ (wrows us),Yc,Yv];omega) fun h10 hs=>?_;refine Up.next l (by omega) ⟨us.set i w,by rw[Yyh];exact hul,?_,?_⟩
  ·rw[take_snoc hw1,<-hut,take_snoc (x:=w) (by rw[Yq (by omega)]),List.take_set_of_le (Yyt _)]
  ·rw[<-wsplice (by omega)];exact hs
 ·replace l:=lt_f l;have hi64:i=64:=by omega
  subst hi64;rw[Yj (by omega),Yj (by omega)] at hut;subst hut;refine⟨fun n h' m=>∃k:Nat,n=k/\m=k/\k<=64/\h'=h6/\∀i w,k<=i->us[i]?=some w->w=0,⟨_,64,rfl,rfl,by omega,rfl,fun i w hi hw=>by have:=(Ya.1 hw).1;omega⟩,?_⟩;rintro-_ h16 m ⟨k,rfl,rfl,hk,rfl,hz⟩;have hfin:∀v:Value,v=.slice (subA (some ⟨h.size,0,none⟩) (Int.toNat 0) (Int.toNat (m:Int)) 1) (Int.toNat (m:Int)-Int.toNat 0) (Int.toNat (m:Int)-Int.toNat 0) ->
    Ext h h16/\∃(k:Nat),v=.slice (some ⟨h.size,0,none⟩) k k/\Own h16 h.size (us.map wC).flatten 181/\SI us k p:=by
   rintro v rfl;refine⟨hs.ext,m,?_,hs.get (k:=0) rfl,⟨by omega,by omega,hw,hz,hm⟩⟩;rw[show subA (some (⟨h.size,0,none⟩:Addr)) (Int.toNat 0) (Int.toNat (m:Int)) 1=some ⟨h.size,0,none⟩ from subA_zero _ _ _];rfl
  refine sBi (fun c1=>?_) (fun c1=>?_)
  ·have hk1:IntKind.wrap .i64 ((m:Int)-1)=((m-1:Nat):Int):=by rw[w64 (by omega) (by omega)];omega
   rw[hk1];obtain⟨w,hw2⟩:=get_some (l:=us) (i:=m-1) (by omega);refine⟨by omega,_,hs.rd 0 rfl (by rw[show (0+Int.toNat ((m-1:Nat):Int)*1)=m-1 by simp,wflat,hw2];rfl),?_⟩;refine sBe (fun c2=>?_) (fun c2=>?_)
   ·refine⟨_,by omega,m-1,rfl,rfl,by omega,rfl,fun i w' hi hw'=>?_⟩;by_cases e:i=m-1
    ·subst e;rw[hw2] at hw';cases hw';omega
    ·exact hz i w' (by omega) hw'
   ·exact⟨by omega,hfin _ rfl⟩
  ·exact⟨by omega,hfin _ rfl⟩
theorem make55 (l:List Int) (s:Sl) (h:Heap) (hr:Rw h 1 s (l.map inC)) (hm:l.length<=1048576) :
  Fn Pz 269 #[.slice s.a s.n s.c] h fun v h'=>Ext h h'/\∃(b k:Nat) (ws:List Nat),v=.slice (some ⟨b,0,none⟩) k k/\h.size<=b/\Own h' b (ws.map wC).flatten 181/\SI ws k fun j=>decide (((j:Nat):Int)∈l/\j<4096):=by
 apply vc269;unfold W269;have hn:=hr.ln;have hs:=St.refl h;refine hs.newb fun h1 hs=>?_;refine up_loop (n:=s.n) (fun i h'=>∃ws:List Nat,ws.length=64/\(∀w∈ws,w<2^64)/\(∀j,memB ws j=decide (((j:Nat):Int)∈l.take i/\j<4096))/\St h h' [.blk h.size (ws.map wC).flatten 436]) ⟨List.replicate 64 0,by rw[Yg],fun w hw=>by rw[List.eq_of_mem_replicate hw];decide,fun j=>by rw[memB_zero,Yyk];exact (decide_eq_false (fun h=>by cases h.1)).symm,hs⟩ ?_;rintro-i h6 hi ⟨ws,hwl,hw,hmem,hs⟩;refine sB_intro (fun l2=>?_) (fun l2=>?_)
 ·replace l2:=lt_t l2;refine (hr.ext hs.ext).nbI (by omega) (by omega) fun b7 o8 d7 g7 t7=>?_;replace g7:l[i]?=some d7:=g7;refine⟨_,t7.hd,?_⟩;have skip:¬(0<=d7/\d7<4096)->∃m,m<s.n-i/\Up s.n (fun i h'=>∃ws:List Nat,ws.length=64/\(∀w∈ws,w<2^64)/\(∀j,memB ws j=decide (((j:Nat):Int)∈l.take i/\j<4096))/\St h h' [.blk h.size (ws.map wC).flatten 436]) (IntKind.wrap .i64 ((i:Int)+1)) h6 m:=fun hno=>
   Up.next l2 (by omega) ⟨ws,hwl,hw,fun j=>by
    rw[hmem j,take_snoc g7];have:(j:Int)∈List.take i l/\j<4096 ↔ (j:Int)∈List.take i l++[d7]/\j<4096:=by
     rw[Yk,Ye];constructor
     ·rintro⟨h1,h2⟩;exact⟨.inl h1,h2⟩
     ·rintro⟨h1 | h1,h2⟩
      ·exact⟨h1,h2⟩
      ·omega
    exact decide_eq_decide.2 this,hs⟩
  refine sBi (fun c1=>?_) (fun c1=>?_)
  ·refine sBi (fun c2=>?_) (fun c2=>?_)
   ·obtain⟨n,rfl⟩:=Int.eq_ofNat_of_zero_le c1;have e1:IntKind.wrap .i64 (Int.tdiv (n:Int) 64)=((n/64:Nat):Int):=by
     have:Int.tdiv (n:Int) 64=((n/64:Nat):Int):=rfl;rw[this];exact w64 (by omega) (by omega)
    have e2:Int.tmod (n:Int) 64=((n%64:Nat):Int):=rfl;have e3:(0+Int.toNat ((n/64:Nat):Int)*1)=n/64*1:=Nat.zero_add _;rw[e1,e2,e3];have hnl:n/64<ws.length:=by omega
    have hg:ws[n/64]?=some (ws.getD (n/64) 0):=by rw[Yo,Yi hnl];rfl
    have hlt:=hw _ (Yb hg);refine⟨by omega,by omega,_,hs.rd 0 rfl (by rw[Nat.mul_one,wflat,hg];rfl),by omega,by omega,by omega,?_⟩;have h2k:2^(n%64)<2^64:=Nat.pow_lt_pow_right (by omega) (by omega);rw[shl_one (by omega),or_nat hlt h2k];refine hs.put 0 rfl (o:=n/64*1) (vs:=[.int .u64 ((ws.getD (n/64) 0|||2^(n%64):Nat):Int)]) rfl (by rw[flatten_len _ (wrows ws),Yc,Yv];omega) fun h11 hs=>?_;refine Up.next l2 (by omega) ⟨ws.set (n/64) (ws.getD (n/64) 0|||2^(n%64)),by rw[Yyh];exact hwl,fun w hw'=>?_,fun j=>?_,?_⟩
    ·rcases List.mem_or_eq_of_mem_set hw' with hw' | rfl
     ·exact hw w hw'
     ·exact Nat.or_lt_two_pow hlt h2k
    ·rw[memB_set hnl,hmem j,take_snoc g7,<-Bool.decide_or];refine decide_eq_decide.2 ?_;rw[Yk,Ye];constructor
     ·rintro (rfl | ⟨h1,h2⟩)
      ·exact⟨.inr rfl,by omega⟩
      ·exact⟨.inl h1,h2⟩
     ·rintro⟨h1 | h1,h2⟩
      ·exact .inr ⟨h1,h2⟩
      ·exact .inl (by omega)
    ·have hs2:=hs;rw[show (List.set [It.blk h.size (ws.map wC).flatten 436] 0 (.blk h.size (splice (ws.map wC).flatten (n/64*1) [.int .u64 ((ws.getD (n/64) 0|||2^(n%64):Nat):Int)]) 436))=[.blk h.size (splice (ws.map wC).flatten (n/64*1) [.int .u64 ((ws.getD (n/64) 0|||2^(n%64):Nat):Int)]) 436] from rfl,wsplice hnl] at hs2;exact hs2
   ·exact skip (by omega)
  ·exact skip (by omega)
 ·replace l2:=lt_f l2;rw[Yj (by omega)] at hmem;refine (build100 ws _ h.size h6 hwl hw hmem fun i w hiw=>hs.rd 0 rfl (by rw[wflat,hiw];rfl)).mono ?_;rintro _ h17 ⟨E,k,rfl,ho,hS⟩;exact⟨⟨some ⟨h6.size,0,none⟩,k,k⟩,rfl,(hs.step E).ext,_,k,ws,rfl,hs.ext.1,ho,hS⟩
end Go.VC
end
