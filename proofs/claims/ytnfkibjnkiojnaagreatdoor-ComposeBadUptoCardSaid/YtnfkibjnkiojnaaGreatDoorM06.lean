/- VcSt2. -/
import Derived.Test.YtnfkibjnkiojnaaGreatDoorM04
import Derived.ArgAppend
import Derived.Test.YtnfkibjnkiojnaaGreatDoorM01
set_option linter.unusedVariables false
set_option linter.unusedSimpArgs false
set_option maxRecDepth 100000

section
/- For every program: queues, rows that are written, blocks that become slices. -/
namespace Go.VC
open Go.RowKit

theorem run_append_room_at {P:Program} (w:World) (t ty e:TypeId) (i:TypeInfo) (ht:P.underlying t=some (.slice e)) (hi:P.info? e=some i)
    (g o sLen sCap:Nat) (cur:Array Value) (hg:w.heap[g]?=some (.cells cur e (0,0)))
    (a:Addr) (m c:Nat) (news:List Value) (hl:news.length=m*i.size) (hnews:∀ j u,news[j]?=some u->w.cell? (a.add j)=some u) (h1:∀ u ∈ news,u.oneCell'=true)
    (hroom:sLen+m<=sCap) (hfit:o+sLen*i.size+news.length<=cur.size) :
    (Builtin.append_ #[t,t] ty #[.slice (some ⟨g,o,none⟩) sLen sCap,.slice (some a) m c]).run P w =
      .ok (.slice (some ⟨g,o,none⟩) (sLen+m) sCap) (w.setRow g (cur.toList.take (o+sLen*i.size)++news++cur.toList.drop (o+sLen*i.size+news.length)).toArray):=by
  have hf:=run_firstCells_some (P:=P) w i.size m a m c news hl hnews
  have hst:=run_storeCells_at P g (o+sLen*i.size) e news 0 cur w hg (by simpa using hfit) h1
  simp only [Nat.add_zero] at hst
  simp [Builtin.append_,run_underlying ht,sizeOf,typeInfo,hi,Builtin.lenOf,hroom,hf,Addr.add_lit,hst]
theorem OwnS.toQ {h:Heap} {base:Nat} {e:TypeId} {k:Nat} {s:Sl} {xs:List Value} (ho:OwnS h base e k s xs):OwnQ h e k s xs:=by
  refine ⟨ho.1,?_⟩
  rcases ho.2 with h1 | ⟨g,cur,ha,_,hg,hn,hc,hz,ht⟩
  · exact .inl h1
  · exact .inr ⟨g,0,cur,ha,hg,hn,hc,by omega,by rw [List.drop_zero]; exact ht⟩
theorem App_q {P:Program} {t e size bytes:Nat} (hT:appB P t e size bytes=true) {h:Heap} {s:Sl} {xs:List Value} (ho:OwnQ h e size s xs)
    {x:Addr} {m c:Nat} {news:List Value} (hx:atC h x news) (hl:news.length=m*size) (h1:news.all oneB=true) (hbytes:(s.n+m)*bytes<=140737488355328) (h63:s.n+m<=maxLen)
    {K:Sl->Heap->Prop} (hK:∀ (r:Sl) (h':Heap),r.n=s.n+m->OwnQ h' e size r (xs++news)->h.size<=h'.size->(∀ k,k<h.size->s.a.map (·.block) ≠ some k->h'[k]?=h[k]?) ->
      (∀ b,r.a.map (·.block)=some b->h.size<=b\/s.a.map (·.block)=some b)->K r h') :
    App P t t (.slice s.a s.n s.c) (.slice (some x) m c) h K:=by
  rcases ho.2 with ⟨ha,hn0,hc0⟩ | ⟨g,o,cur,ha,hgg,hnc,hcm,hcs,htake⟩
  · have ho':OwnS h 0 e size s xs:=⟨ho.1,.inl ⟨ha,hn0,hc0⟩⟩
    exact App_own2 hT ho' hx hl h1 hbytes h63 fun r h' hn hor hsz hk hw=>hK r h' hn hor.toQ hsz (fun k hk' _=>hk k hk' fun g hg=>by rw [ha] at hg; cases hg) hw
  · intro ty w hw
    subst hw
    unfold appB at hT
    simp only [Yt] at hT
    obtain ⟨⟨⟨⟨⟨⟨⟨hs,he⟩,ht⟩,hz⟩,hzl⟩,hsz⟩,hby⟩,hpos⟩:=hT
    have hu:=sliceB_e hs
    rw [beqT he] at hu
    obtain ⟨i,hi⟩:=isT_info ht
    obtain ⟨z,hz'⟩:=Option.isSome_iff_exists.1 hz
    rw [hi] at hz'
    simp only [Option.bind_some] at hz'
    have e1:i.size=size:=by have:=beqT hsz; simpa [szOf,hi] using this
    have e2:i.bytes=bytes:=by have:=beqT hby; simpa [byOf,hi] using this
    have e3:z.cells.size=size:=by have:=beqT hzl; simpa [zeroC,hi,hz'] using this
    have hnews:∀ j u,news[j]?=some u->w.cell? (x.add j)=some u:=fun j u hj=>by rw [addk_add]; exact hx j u hj
    have hone:∀ u ∈ news,u.oneCell'=true:=fun u hu=>by
      rw [List.all_eq_true] at h1
      exact oneB_cell (h1 u hu)
    have hnsz:s.n*size<=s.c*size:=Nat.mul_le_mul_right _ hnc
    have hxs:=ho.1
    by_cases hroom:s.n+m<=s.c
    · have hms:(s.n+m)*size<=s.c*size:=Nat.mul_le_mul_right _ hroom
      rw [Nat.add_mul] at hms
      have hfit:o+s.n*size+news.length<=cur.size:=by omega
      have hr:=run_append_room_at (P:=P) w t ty e i hu hi g o s.n s.c cur hgg x m c news (by rw [e1]; exact hl) hnews hone hroom (by rw [e1]; exact hfit)
      rw [e1] at hr
      have hown:Own w.heap g cur.toList e:=hgg
      obtain ⟨h2,h3⟩:=setRow_own (ys:=cur.toList.take (o+s.n*size)++news++cur.toList.drop (o+s.n*size+news.length)) hown
      rw [ha]
      refine ⟨_,_,hr,⟨⟨some ⟨g,o,none⟩,s.n+m,s.c⟩,rfl,?_⟩,rfl,rfl,rfl⟩
      have hsz2:(w.setRow g (cur.toList.take (o+s.n*size)++news++cur.toList.drop (o+s.n*size+news.length)).toArray).heap.size=w.heap.size:=h3.1
      refine hK _ _ rfl ⟨by rw [Yh,hl,hxs,Nat.add_mul],.inr ⟨g,o,_,rfl,h2,hroom,hcm,?_,?_⟩⟩ (by rw [hsz2]; exact Yyt _) (fun k hk hne=>h3.2 k fun e=>hne (by rw [e,ha]; rfl)) (fun b hb=>.inr (by rw [ha]; exact hb))
      · show o+s.c*size<=(cur.toList.take (o+s.n*size)++news++cur.toList.drop (o+s.n*size+news.length)).length
        simp only [Yh,Yu,List.length_drop,Array.length_toList]
        omega
      · show ((cur.toList.take (o+s.n*size)++news++cur.toList.drop (o+s.n*size+news.length)).drop o).take ((s.n+m)*size)=xs++news
        have hcl:cur.toList.length=cur.size:=Array.length_toList
        have e4:cur.toList.take (o+s.n*size)=cur.toList.take o++xs:=by rw [List.take_add,htake]
        rw [e4,Yz,Yz,<- Yz xs,List.drop_append_of_le_length (by rw [Yu]; omega)]
        rw [List.drop_eq_nil_of_le (by rw [Yu]; omega),List.nil_append]
        rw [Yyq (by rw [Yh,hl,hxs,Nat.add_mul]; omega)]
        exact Yj (by rw [Yh,hl,hxs,Nat.add_mul]; omega)
    · have holds:∀ j u,xs[j]?=some u->w.cell? ((⟨g,o,none⟩:Addr).add j)=some u:=by
        intro j u hj
        have hadd:(⟨g,o,none⟩:Addr).add j=⟨g,o+j,none⟩:=by unfold Addr.add; split <;> simp_all
        rw [hadd,cell_of_row w g (o+j) cur e (0,0) hgg]
        rw [<- htake,Yyf] at hj
        split at hj
        · rw [List.getElem?_drop] at hj; simpa using hj
        · cases hj
      obtain ⟨v',w',hr,hown,hg⟩:=run_append_arg_grows (P:=P) w t ty e i z size bytes hu hi hz' e1 e2 e3 (by simpa using hpos) ⟨g,o,none⟩ s.n s.c xs hxs holds x m c news hl hnews (by omega) h63 hbytes
      obtain ⟨r,hv,hn,hor⟩:=OwnS.of_row hown
      rw [ha]
      refine ⟨v',w',hr,⟨r,hv,hK r w'.heap hn hor.toQ hg.size (fun k hk _=>hg.block k hk (by simp)) fun b hb=>?_⟩,hg.os,hg.tape,hg.output⟩
      exact .inl (own_at_zero hor hb).2.2
theorem St.toQ {h0 h:Heap} {L:List It} {s:Sl} {e:TypeId} {k:Nat} {rows:List (List Value)} (hs:St h0 h (.sl s e k rows::L)) (_hk:0<1):St h0 h (.q s e k rows::L):=by
  have h1:=hs.get (k:=0) rfl
  have h2:=hs.turn (k:=0) (j:=.q s e k rows) rfl (Yyt _) ⟨h1.1.toQ,h1.2⟩ (fun b hb=>.inr hb) (fun _ _ _=>rfl)
  exact h2
theorem OwnQ.rw {h:Heap} {e k:Nat} {s:Sl} {rows:List (List Value)} (ho:OwnQ h e k s rows.flatten) (hk:∀ r ∈ rows,r.length=k) (hk0:0<k):Rw h k s rows:=by
  have hl:=ho.1
  rw [flatten_len rows hk] at hl
  have hn:rows.length=s.n:=Nat.eq_of_mul_eq_mul_right hk0 hl
  refine ⟨hn.symm,fun hp=>?_⟩
  rcases ho.2 with ⟨_,h0,_⟩ | ⟨g,o,cur,ha,hg,h1,h2,h3,h4⟩
  · omega
  · refine ⟨g,o,ha,fun i row hi=>?_⟩
    have hown:Own h g cur.toList e:=hg
    refine Own.atC hown fun j v hv=>?_
    have hrl:=hk row (Yb hi)
    have hj:j<k:=by have:=(Ya.1 hv).1; omega
    have h5:=getElem?_flatten rows i j row hk hi hj
    rw [<- h4,Yyf] at h5
    split at h5
    · rw [List.getElem?_drop] at h5
      rw [Nat.add_assoc,h5]; exact hv
    · rw [hv] at h5; cases h5
theorem St.qrw {h0 h:Heap} {L:List It} (hs:St h0 h L) (k:Nat) {s:Sl} {e:TypeId} {n:Nat} {rows:List (List Value)} (hk:L[k]?=some (.q s e n rows)) (hn:0<n):Rw h n s rows:=by
  have:=hs.get hk
  exact this.1.rw this.2 hn
theorem St.qlen {h0 h:Heap} {L:List It} (hs:St h0 h L) (k:Nat) {s:Sl} {e:TypeId} {rows:List (List Value)} (hk:L[k]?=some (.q s e 1 rows)):s.n=rows.length/\s.n<=s.c:=by
  have h1:=hs.get hk
  refine ⟨(hs.qrw k hk (by omega)).1,?_⟩
  rcases h1.1.2 with ⟨_,h2,h3⟩ | ⟨g,o,cur,ha,_,h2,_⟩
  · omega
  · exact h2
theorem St.qtail {h0 h:Heap} {L:List It} {s:Sl} {e:TypeId} {n:Nat} {row:List Value} {rows:List (List Value)} (hs:St h0 h (.q s e n (row::rows)::L)):St h0 h (.q ⟨subA s.a (Int.toNat 1) s.c n,Int.toNat (s.n:Nat) - Int.toNat 1,s.c - Int.toNat 1⟩ e n rows::L):=by
  have h1:=hs.get (k:=0) rfl
  obtain ⟨ho,hr⟩:=h1
  have hrow:=hr row (by simp)
  have hlen:=ho.1
  rw [Yyu,Yh,hrow] at hlen
  have key:OwnQ h e n ⟨subA s.a (Int.toNat 1) s.c n,Int.toNat (s.n:Nat) - Int.toNat 1,s.c - Int.toNat 1⟩ rows.flatten/\(∀ b,(subA s.a (Int.toNat 1) s.c n).map (·.block)=some b->s.a.map (·.block)=some b):=by
    have e1:Int.toNat 1=1:=rfl
    have e2:Int.toNat (s.n:Int)=s.n:=Ys _
    rw [e1,e2]
    have hcases:s.n=0\/∃ m,s.n=m+1:=by cases s.n with
      | zero=>exact .inl rfl
      | succ m=>exact .inr ⟨m,rfl⟩
    have hl2:rows.flatten.length=(s.n - 1)*n:=by
      rcases hcases with h0' | ⟨m,hm⟩
      · rw [h0'] at hlen ⊢; simp at hlen ⊢; exact hlen.2
      · rw [hm] at hlen ⊢; rw [Nat.succ_mul] at hlen; simp only [Nat.add_sub_cancel]; omega
    rcases ho.2 with ⟨ha,hn0,hc0⟩ | ⟨g,o,cur,ha,hg,hnc,hcm,hcs,ht⟩
    · refine ⟨⟨hl2,.inl ⟨?_,by show s.n - 1=0; omega,by show s.c - 1=0; omega⟩⟩,?_⟩
      · show subA s.a 1 s.c n=none
        unfold subA; rw [ha]; split <;> rfl
      · intro b hb
        unfold subA at hb; rw [ha] at hb ⊢
        split at hb <;> exact hb
    · have hsub:∃ o',subA s.a 1 s.c n=some ⟨g,o',none⟩/\(o'=o/\s.c=1\/o'=o+n):=by
        unfold subA
        by_cases hc1:s.c=1
        · exact ⟨o,by rw [if_pos hc1,ha],.inl ⟨rfl,hc1⟩⟩
        · refine ⟨o+n,by rw [if_neg hc1,ha,Option.map_some,Nat.one_mul,Addr.add_lit],.inr rfl⟩
      obtain ⟨o',hso,ho'⟩:=hsub
      refine ⟨⟨hl2,.inr ⟨g,o',cur,hso,hg,by show s.n - 1<=s.c - 1; omega,by show s.c - 1<=maxLen; omega,?_,?_⟩⟩,?_⟩
      · show o'+(s.c - 1)*n<=cur.size
        rcases ho' with ⟨rfl,hc1⟩ | rfl
        · rw [hc1]; rw [hc1] at hcs; omega
        · rcases Nat.eq_zero_or_pos s.c with hz | hz
          · have:s.n=0:=by omega
            rw [this] at hlen; simp at hlen
            rw [hz] at hcs ⊢; omega
          · have:s.c*n=(s.c - 1)*n+n:=by rw [<- Nat.succ_mul]; congr 1; omega
            omega
      · show (cur.toList.drop o').take ((s.n - 1)*n)=rows.flatten
        rcases hcases with h0' | ⟨m,hm⟩
        · have hf0:rows.flatten=[]:=List.length_eq_zero_iff.1 (by rw [hl2,h0',Nat.zero_sub,Nat.zero_mul])
          rw [h0',Nat.zero_sub,Nat.zero_mul,Yyk,hf0]
        · rw [hm,Nat.add_sub_cancel]
          rcases ho' with ⟨rfl,hc1⟩ | rfl
          · have hm0:m=0:=by omega
            subst hm0
            have hf0:rows.flatten=[]:=List.length_eq_zero_iff.1 (by rw [hl2,hm,Nat.add_sub_cancel,Nat.zero_mul])
            rw [Nat.zero_mul,Yyk,hf0]
          · rw [hm,Yyu,Nat.succ_mul,Nat.add_comm (m*n) n,List.take_add,List.drop_drop] at ht
            have hlc:cur.toList.length=cur.size:=Array.length_toList
            have h6:n<=(cur.toList.drop o).length:=by
              rw [List.length_drop,hlc]
              have:1*n<=s.c*n:=Nat.mul_le_mul_right _ (by omega)
              omega
            have:=List.append_inj ht (by rw [Yu,hrow]; omega)
            exact this.2
      · intro b hb
        rw [hso] at hb; rw [ha]; exact hb
  exact hs.turn (k:=0) (j:=.q ⟨subA s.a (Int.toNat 1) s.c n,Int.toNat (s.n:Nat) - Int.toNat 1,s.c - Int.toNat 1⟩ e n rows) rfl (Yyt _) ⟨key.1,fun r hr'=>hr r (Yn _ hr')⟩ (fun b hb=>.inr (key.2 b hb)) (fun _ _ _=>rfl)
theorem St.qapp {P:Program} {h0 h:Heap} {L:List It} (hs:St h0 h L) (k:Nat) {s:Sl} {t e:TypeId} {n bytes:Nat} {rows:List (List Value)} (hk:L[k]?=some (.q s e n rows)) (hT:appB P t e n bytes=true)
    {m c:Nat} (news:List (List Value)) {cells:List Value} (hc:cells=news.flatten) {e2:TypeId} (hl:news.length=m) (_hn:0<n) (hr:∀ r ∈ news,r.length=n) (h1:news.flatten.all oneB=true) (hbytes:(s.n+m)*bytes<=140737488355328) (h63:s.n+m<=maxLen)
    {K:Sl->Heap->Prop} (hK:∀ (r:Sl) (h':Heap),r.n=s.n+m->St h0 h' (L.set k (.q r e n (rows++news)))->K r h') :
    ∀ h2:Heap,h2=h.push (.cells ⟨cells⟩ e2)->App P t t (.slice s.a s.n s.c) (.slice (some ⟨h.size,0,none⟩) m c) h2 K:=by
  subst hc
  refine hs.newb fun h2 hs2=>?_
  have hk2:(It.blk h.size news.flatten e2::L)[k+1]?=some (.q s e n rows):=hk
  have ho:=hs2.get hk2
  have hx:=hs2.at 0 rfl (n:=news.flatten.length) (vs:=news.flatten) (o:=0) (by rw [List.drop_zero,Yye])
  refine App_q hT ho.1 hx (by rw [flatten_len news hr,hl]) h1 hbytes h63 fun r h' hn hor hsz hkeep hwhere=>hK r h' hn ?_
  have hor2:(It.q r e n (rows++news)).ok h':=⟨by rw [List.flatten_append]; exact hor,fun q hq=>by rcases Yk.1 hq with hq | hq; exact ho.2 q hq; exact hr q hq⟩
  have h3:=hs2.turn (k:=k+1) hk2 hsz hor2 hwhere fun b hb hne=>hkeep b hb hne
  exact h3.drop 1
theorem St.set {α:Type} {h0 h:Heap} {L:List It} (hs:St h0 h L) (k:Nat) {s:Sl} {e:TypeId} {n:Nat} {cs:α->List Value} {l:List α} (hk:L[k]?=some (.sl s e n (l.map cs))) (hn:0<n) {x:Int} (hx0:0<=x) (hx1:x<(s.n:Nat)) (y:α) {vs:List Value} (hv:vs=cs y)
    {m:Nat} (hm:m=vs.length) {K:Nat->Nat->Heap->Prop} (hK:∀ b o h',St h0 h' (L.set k (.sl s e n ((l.set x.toNat y).map cs)))->K b o h') (hy:(cs y).length=n) :
    NB s.a fun b o=>(0<=x/\x<(s.n:Nat))/\(okAt h ⟨b,o+x.toNat*n,none⟩ m/\∀ h',h'=hputs h ⟨b,o+x.toNat*n,none⟩ 0 vs->K b o h'):=by
  subst hv
  have hln:=(hs.rows k hk hn).ln
  have hlt:x.toNat<l.length:=by omega
  have hrl:=(hs.get hk).2 (cs l[x.toNat]) (Yp.2 ⟨_,List.getElem_mem hlt,rfl⟩)
  refine hs.nbput k hk hn (i:=x.toNat) (row:=cs l[x.toNat]) (by rw [Yd,Yi hlt]; rfl) 0 (by omega) (fun b o h' h1=>hK b o h' ?_) hm ⟨hx0,hx1⟩
  have e1:splice (cs l[x.toNat]) 0 (cs y)=cs y:=by
    unfold splice
    rw [Yyk,List.nil_append,List.drop_eq_nil_of_le (by omega),Yw]
  rw [e1] at h1
  rw [List.map_set]
  exact h1
theorem St.blkS {h0 h:Heap} {L:List It} {b:Nat} {xs:List Value} {e:TypeId} (hs:St h0 h (.blk b xs e::L)) (m n:Nat) (rows:List (List Value)) (hx:xs=rows.flatten) (hr:∀ r ∈ rows,r.length=n) (hl:rows.length=m) (hm:m<=maxLen):St h0 h (.sl ⟨some ⟨b,0,none⟩,m,m⟩ e n rows::L):=by
  have h1:Own h b xs e:=hs.get (k:=0) rfl
  subst hx
  have hfl:=flatten_len rows hr
  refine hs.turn (k:=0) (j:=.sl ⟨some ⟨b,0,none⟩,m,m⟩ e n rows) rfl (Yyt _) ⟨⟨by rw [hfl,hl],.inr ⟨b,_,rfl,Nat.zero_le _,h1,Yyt _,hm,?_,?_⟩⟩,hr⟩ (fun c hc=>.inr hc) (fun _ _ _=>rfl)
  · show rows.flatten.length=_
    rw [hfl,hl]
  · show rows.flatten.take (m*n)=_
    exact Yj (by rw [hfl,hl]; exact Yyt _)
end Go.VC
end
