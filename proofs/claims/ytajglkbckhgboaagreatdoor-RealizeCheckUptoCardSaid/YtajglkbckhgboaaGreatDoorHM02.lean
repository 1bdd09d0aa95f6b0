/- VcEnd VcOpen VcRow VcCopy VcSt VcSt2 VcMap VcMono VcSort VcClr VcRange VcArgs. -/
import Derived.Test.YtajglkbckhgboaaGreatDoorHM01
import Derived.ChangeSame
import Derived.ChangeMaps5
import Derived.JoinedOf
import Derived.JoinedAt
import Derived.RowKit3
import Derived.ProofKit
import Derived.OpenShut
import Derived.Carry
import Derived.ChangeArms
import Derived.Laws.IdiomStrings
import Derived.Lib.BufferRead
import Derived.Laws.CopyRow
import Derived.Lib.BufferWrite
import Derived.Lib.MakeNoZero
import Derived.Lib.AppendStr
import Derived.ArgAppend
import Derived.Maps.Keyed
import Derived.Shelf.SlSortCmp.NoneTotal
import Derived.RangeFuncBox
import Derived.RangeFuncLeaves
import Derived.Shelf.Abstract
import Derived.OwnWalkIn
import Derived.TacticsInMore
import Derived.LoopNIn
import Derived.LoopIn
import Derived.WideShapes
set_option linter.all false
set_option maxRecDepth 100000
set_option maxHeartbeats 8000000

section
namespace Go.VC
open Go.ChangeShapes Go.WideShapes Go.RowKit
theorem ke{H:Type}{enc:TypeId × Value->H}{P:Program}(hl:laidOutB P=true){W W':World}(hb:Below W.heap.size W W'){sp:Nat->Bool}:
    ∀(ts:List TypeId) (vs:List Value) (ds:List (DataW H)) (ps:List MemPlace),(∀t∈ts,P.readableRec t=true/\t<P.types.size)->DataW.TrodAll enc P W 0 (fun _=>true) true ts vs ds ps ->
      (∀x∈ps,x.block<W.heap.size)->(∀x∈ps,sp x.block=true)->DataW.TrodAll enc P W' 0 sp true ts vs ds ps
  | [],vs,ds,ps,_,h,_,_=>by
    obtain⟨rfl,rfl,rfl⟩:=trodAll_nil h
    exact trodAll_mk0
  | t::ts,vs,ds,ps,ht,h,bR,Fa=>by
    obtain⟨v,vs',d,ds',p,q,rfl,rfl,rfl,h0,r0⟩:=trodAll_cons h
    have h1:=ht t Yx
    exact trodAll_cons_mk (WideElems.Trod_stays hl h1.1 h1.2 h0 (fun x hx=>hb.same (bR x (List.mem_append_left _ hx))) (fun x hx=>Fa x (List.mem_append_left _ hx)))
      (ke hl hb ts vs' ds' q (fun t JO=>ht t (Yn _ JO)) r0 (fun x hx=>bR x (List.mem_append_right _ hx)) (fun x hx=>Fa x (List.mem_append_right _ hx)))
theorem Gc{H:Type}{enc:TypeId × Value->H}{P:Program}{f:Func}{s:ChangeSpec}{apart fresh handsOn again:Bool}{W W':World}{args:Array Value}{ds gs:List (DataW H)}{before:List MemPlace}{tb:TypeId}
    (hl:laidOutB P=true) (hts:∀t∈f.params.toList,P.readableRec t=true/\t<P.types.size) (Nj:s.vars=[])
    (hW:DataW.Whole enc P f.params.toList s.vars apart W args.toList ds gs before)
    (acq:(s.fn H (ds++gs)).results=[.lit (.bool true)]) (NL:(s.fn H (ds++gs)).args=ds) (hvr:(s.fn H (ds++gs)).vars=[])
    (hrt:f.resultTypes=#[tb]) (htb:P.underlying tb=some .bool) (hE:Ext W.heap W'.heap) (hos:W'.os=W.os) (G9:W'.tape=W.tape) (xk:W'.output=W.output) :
    s.post enc P f apart fresh handsOn again W args (.bool true) W':=by
  have hb:Below W.heap.size W W':=⟨hos,G9,xk,hE.1,hE.2⟩
  have hk:W.keptBut W' (· ∈ before):=⟨hos,xk,fun i hi=>by
    rw[hE.2 i hi]
    exact (World.keptBut_refl W (· ∈ before)).2.2 i hi⟩
  have hfz:∀a:Addr,a.block<W.heap.size->W'.frozen? a=W.frozen? a:=fun a ha=>xw (h:=W.heap) (h':=W'.heap) (hE.2 _ ha)
  have bR:=hW.lt
  have hold:∀p∈before,(fun b=>decide (b<W.heap.size)) p.block=true:=fun p hp=>by simpa using bR p hp
  have WN:=hW
  obtain⟨p,q,hA,hV,Nw,hz,hn⟩:=hW
  rw[Nj] at hV
  obtain⟨rfl,rfl⟩:=trodVars_none hV
  have SB:before=p:=by rw[Nw,Yw]
  have targs:∀sp:Nat->Bool,(∀x∈before,sp x.block=true)->DataW.TrodAll enc P W' 0 sp true f.params.toList args.toList (s.fn H (ds++[])).args p:=fun sp Fa=>by
    rw[NL]
    exact ke hl hb _ _ _ _ hts hA (fun x hx=>bR x (by rw[SB];exact hx)) (fun x hx=>Fa x (by rw[SB];exact hx))
  have Vf:∀(b:Nat) (sp:Nat->Bool) (hd:Bool),DataW.TrodAll enc P W' b sp hd f.resultTypes.toList ((Value.bool true).resultList f.resultTypes.size) (s.fn H (ds++[])).results []:=fun b sp hd=>by
    rw[acq,hrt]
    exact trodAll_cons_mk (shut_bool htb _) trodAll_mk0
  have MU:∀sp:Nat->Bool,DataW.TrodVars enc P W' sp s.vars (s.fn H (ds++[])).vars []:=fun sp=>by
    rw[Nj,hvr];rfl
  refine⟨ds,[],before,[],p,[],WN,Vf _ _ _,targs _ hold,MU _,World.keptBut_mono (fun x hx=>⟨hx,?_⟩) hk,fun _=>?_⟩
  . rw[SB] at hx;exact Or.inr (by simpa using hx)
  . refine⟨ok_one hrt rfl (okWide_bool_mk htb _),_,_,([]++p)++[],⟨[]++p,[],trodAll_append (targs _ (fun _ _=>rfl)) (Vf _ _ _),MU _,rfl,?_,?_⟩,?_⟩
    . intro b off hp
      have pH:MemPlace.cell b off∈before:=by rw[SB];simpa using hp
      rw[hfz _ (bR _ pH)]
      exact hz b off pH
    . intro ha
      have:=hn ha
      rw[SB] at this
      simpa using this
    . intro x hx _
      rw[SB]
      simpa using hx
theorem Fn.calls{P:Program}{f:FuncId}{args:Array Value}{W:World}{R:Value->Heap->Prop}(hf:Fn P f args W.heap R):
    Calls P f args W fun e w'=>∃v,e=.returned v/\R v w'.heap/\w'.os=W.os/\w'.tape=W.tape/\w'.output=W.output:=(hf W rfl).mono fun _ _ ⟨v,a,b,c,d,e,_⟩=>⟨v,a,b,c,d,e⟩
def vp(P:Program)(W:World)(t:TypeId)(cs:List Value):Prop:=
  ∃(H:Type) (enc:TypeId × Value->H) (n:Nat) (x:DataW H × List MemPlace),DataW.trod enc P W 0 (fun _=>true) true n t cs=some x
theorem vp.int{P:Program}{W:World}{t:TypeId}{cs:List Value}{k:IntKind}(ht:P.underlying t=some (.int k))(h:vp P W t cs):∃n,cs=[.int k n]/\(Lit.int k n).wf=true:=by
  obtain⟨H,enc,n,x,h⟩:=h
  obtain⟨m,h1,_,h2⟩:=DataW.trod_int ht h
  exact⟨m,h1,h2⟩
theorem vp.str{P:Program}{W:World}{t:TypeId}{cs:List Value}(ht:P.underlying t=some .string)(h:vp P W t cs):∃s:ByteArray,cs=[.string s]/\s.size<=maxLen:=by
  obtain⟨H,enc,n,x,h⟩:=h
  obtain⟨m,h1,_,h2⟩:=DataW.trod_string ht h
  exact⟨m,h1,h2⟩
theorem vp.bool{P:Program}{W:World}{t:TypeId}{cs:List Value}(ht:P.underlying t=some .bool)(h:vp P W t cs):∃b,cs=[.bool b]:=by
  obtain⟨H,enc,n,x,h⟩:=h
  cases n with
  | zero=>simp[DataW.trod] at h
  | succ n=>
    unfold DataW.trod at h
    rw[ht] at h
    split at h<;>simp_all
theorem vp.struct{P:Program}{W:World}{t:TypeId}{cs:List Value}{fs:Array Field}(ht:P.underlying t=some (.struct fs))(h:vp P W t cs):
    cs.length=P.cellsOf t/\∀(i:Nat) (f:Field),fs[i]?=some f->vp P W f.type ((cs.drop f.offset).take (P.cellsOf f.type)):=by
  obtain⟨H,enc,n,x,h⟩:=h
  obtain⟨xs,m,_,_,hl,hx,hf⟩:=DataW.trod_struct ht h
  refine⟨hl,fun i f hi=>?_⟩
  have bR:i<xs.length:=by rw[hx];exact (yH.1 hi).1
  exact⟨H,enc,m,xs[i],by rw[hf i f hi,Yi bR]⟩
theorem qG{α:Type}{f:Nat->Option α}:∀(n:Nat) {r:List α},(List.range n).mapM f=some r->r.length=n/\∀i,i<n->f i=r[i]?
  | 0,r,h=>by simp at h;subst h;exact⟨rfl,fun i hi=>by omega⟩
  | n+1,r,h=>by
    rw[List.range_succ,List.mapM_append] at h
    simp only[List.mapM_cons,List.mapM_nil,Option.bind_eq_bind,Option.pure_def,Option.bind_eq_some_iff,Option.some.injEq] at h
    obtain⟨a,ha,b,⟨c,hc,d,rfl,rfl⟩,rfl⟩:=h
    obtain⟨h1,h2⟩:=qG n ha
    refine⟨by simp[h1],fun i hi=>?_⟩
    by_cases cN:i<n
    . rw[jw (by omega)];exact h2 i cN
    . have:i=n:=by omega
      subst this
      rw[tR (by omega),h1,hc];simp
theorem rj{W:World}{base:Nat}{a:Addr}{n:Nat}{cs:List Value}(h:W.cells? base a n=some cs):cs.length=n/\∀i v,cs[i]?=some v->W.cell? (a.add i)=some v:=by
  unfold World.cells? at h
  split at h
  . obtain⟨h1,h2⟩:=qG n h
    exact⟨h1,fun i v hi=>by rw[h2 i (by have:=(Ya.1 hi).1;omega)];exact hi⟩
  . cases h
theorem Co(b o n:Nat):(⟨b,o,none⟩:Addr).add n=⟨b,o+n,none⟩:=by
  unfold Addr.add
  by_cases h:n=0
  . rw[if_pos h,h];rfl
  . rw[if_neg h]
end Go.VC
end

section
namespace Go.VC
open Go.RowKit
theorem ll(s:ByteArray):s.size=s.data.toList.length:=(Array.length_toList).symm
theorem HN(s:ByteArray)(a b:Nat):(s.extract a b).data.toList=(s.data.toList.drop a).take (b-a):=by
  rw[ByteArray.data_extract]
  simp[List.extract_eq_take_drop]
theorem jt{s:ByteArray}{i:Nat}(h:i<s.size):∃b:UInt8,s.data.toList[i]?=some b/\iu s i=b.toNat:=by
  have hl:i<s.data.toList.length:=by rw[<-ll];exact h
  refine⟨s.data.toList[i],Yi hl,?_⟩
  unfold iu
  rw[Yo,Yi hl];rfl
def bs(l:List UInt8):ByteArray:=⟨⟨l⟩⟩
theorem vd(l:List UInt8):(bs l).size=l.length:=rfl
theorem df(l:List UInt8):(bs l).data.toList=l:=rfl
theorem drop_cons{L:List UInt8}{j:Nat}{b:UInt8}(h:L[j]?=some b):L.drop j=b::L.drop (j+1):=by
  obtain⟨hl,he⟩:=Ya.1 h
  rw[List.drop_eq_getElem_cons hl,he]
theorem cM.len{h:Heap}{base:Nat}{e:TypeId}{size:Nat}{s:Sl}{xs:List Value}(ho:cM h base e size s xs):xs.length=s.n*size:=ho.1
theorem cM.mono{h:Heap}{b b':Nat}{e:TypeId}{size:Nat}{s:Sl}{xs:List Value}(ho:cM h b e size s xs)(hb:b'<=b):cM h b' e size s xs:=by
  obtain⟨h1,h2⟩:=ho
  refine⟨h1,?_⟩
  rcases h2 with h2 | ⟨g,cur,ha,hg,r⟩
  . exact .inl h2
  . exact .inr ⟨g,cur,ha,mn hb hg,r⟩
theorem cM.cap{h:Heap}{b:Nat}{e:TypeId}{size:Nat}{s:Sl}{xs:List Value}(ho:cM h b e size s xs):s.n<=s.c:=by
  rcases ho.2 with ⟨_,h0,h1⟩ | ⟨g,cur,ha,hb,hh,hn,_⟩
  . omega
  . exact hn
theorem pW(a b:ByteArray):(ByteArray.toList a==ByteArray.toList b)=decide (a.data.toList=b.data.toList):=by
  rw[ByteArray.toList_eq,ByteArray.toList_eq]
  by_cases h:a.data.toList=b.data.toList
  . rw[h,beq_self_eq_true,decide_eq_true rfl]
  . rw[decide_eq_false h];exact beq_eq_false_iff_ne.2 h
theorem mi{h h':Heap}(hE:Ext h h'){a:Addr}{vs:List Value}(hv:a6 h a vs):a6 h' a vs:=fun i v hi=>by
  have h1:=hv i v hi
  have:=hE.hc (NI h1)
  rw[this];exact h1
theorem jR(p:UInt8->Bool)(L:List UInt8):L.all p=true ↔ ∀(b:UInt8) (j:Nat),L[j]?=some b->p b=true:=by
  rw[List.all_eq_true]
  exact⟨fun h b j hb=>h b (Yb hb),fun h b hb=>by obtain⟨j,hj⟩:=Yf.1 hb;exact h b j hj⟩
theorem yK{l vs:List Value}(h:l.length=vs.length):aH l (0+0) vs=vs:=by
  unfold aH
  rw[mq,List.nil_append,Nat.zero_add,List.drop_eq_nil_of_le (by omega),Yw]
theorem cJ(a:Option Addr)(c size:Nat):aQ a 0 c size=a:=by
  unfold aQ
  split
  . rfl
  . cases a with
    | none=>rfl
    | some a=>rw[Nat.zero_mul];rfl
theorem JG{P:Program}{t e size bytes:Nat}(hT:cI P t e size bytes=true){h:Heap}{base:Nat}{s:Sl}{xs:List Value}(ho:cM h base e size s xs){K:Sl->Heap->Prop}(hK:K s h):
    App P t t (.slice s.a s.n s.c) (.slice none 0 0) h K:=by
  intro ty w hw
  subst hw
  unfold cI at hT
  simp only[Yt] at hT
  obtain⟨⟨⟨⟨⟨⟨⟨hs,he⟩,ht⟩,hz⟩,JL⟩,fA⟩,BW⟩,fB⟩:=hT
  have hu:=cT hs
  rw[eI he] at hu
  obtain⟨i,hi⟩:=gP ht
  exact⟨_,w,run_append_owned_none w base t ty e i size hu hi _ s.n xs ho.row,⟨s,rfl,hK⟩,rfl,rfl,rfl⟩
/-! ### rows of cells -/
def Rw(h:Heap)(k:Nat)(s:Sl)(rows:List (List Value)):Prop:=
  s.n=rows.length/\(0<rows.length->∃b o,s.a=some ⟨b,o,none⟩/\∀(i:Nat) (row:List Value),rows[i]?=some row->a6 h ⟨b,o+i*k,none⟩ row)
theorem a6.hd{h:Heap}{a:Addr}{v:Value}{vs:List Value}(ha:a6 h a (v::vs)):hc h a=some v:=ha 0 v rfl
theorem a6.nth{h:Heap}{b o:Nat}{vs:List Value}(ha:a6 h ⟨b,o,none⟩ vs)(i:Nat){v:Value}(hv:vs[i]?=some v):hc h ⟨b,o+i,none⟩=some v:=by
  have:=ha i v hv
  rwa [fe] at this
theorem Rw.nil{h:Heap}{k:Nat}:Rw h k ⟨none,0,0⟩ []:=⟨rfl,fun hp=>absurd hp (by simp)⟩
theorem Rw.empty{h:Heap}{k:Nat}{s:Sl}(hs:s.n=0):Rw h k s []:=⟨hs,fun hp=>absurd hp (by simp)⟩
theorem Rw.ext{h h':Heap}(hE:Ext h h'){k:Nat}{s:Sl}{rows:List (List Value)}(hr:Rw h k s rows):Rw h' k s rows:=by
  refine⟨hr.1,fun hp=>?_⟩
  obtain⟨b,o,ha,dq⟩:=hr.2 hp
  exact⟨b,o,ha,fun i row hi=>fW hE (dq i row hi)⟩
theorem Rw.nb{h:Heap}{k:Nat}{s:Sl}{rows:List (List Value)}(hr:Rw h k s rows){i:Nat}{row:List Value}(hi:rows[i]?=some row){F:Nat->Nat->Prop}
    (hF:∀b o,s.a=some ⟨b,o,none⟩->a6 h ⟨b,o+i*k,none⟩ row->F b o):NB s.a F:=by
  have hl:=(Ya.1 hi).1
  obtain⟨b,o,ha,dq⟩:=hr.2 (by omega)
  rw[ha,C4]
  exact hF b o ha (dq i row hi)
theorem getElem?_flatten{α:Type}{k:Nat}:∀(rows:List (List α)) (i j:Nat) (row:List α),(∀r∈rows,r.length=k)->rows[i]?=some row->j<k->rows.flatten[i*k+j]?=row[j]?
  | [],i,j,row,_,h,_=>by simp at h
  | a::rows,0,j,row,hk,h,hj=>by
    rw[List.getElem?_cons_zero] at h;cases h
    have:=hk a (by simp)
    rw[ox,Nat.zero_mul,Nat.zero_add,jw (by omega)]
  | a::rows,i+1,j,row,hk,h,hj=>by
    rw[List.getElem?_cons_succ] at h
    have ha:=hk a (by simp)
    rw[ox,tR (by rw[Nat.succ_mul];omega),show (i+1)*k+j-a.length=i*k+j by rw[Nat.succ_mul];omega]
    exact getElem?_flatten rows i j row (fun r hr=>hk r (Yn _ hr)) h hj
theorem aZ{α:Type}{k:Nat}:∀(rows:List (List α)),(∀r∈rows,r.length=k)->rows.flatten.length=rows.length*k
  | [],_=>by simp
  | a::rows,h=>by rw[ox,Yh,aZ rows fun r hr=>h r (Yn _ hr),h a (by simp),j8,Nat.succ_mul];omega
theorem cM.rw{h:Heap}{base e k:Nat}{s:Sl}{rows:List (List Value)}(ho:cM h base e k s rows.flatten)(hk:∀r∈rows,r.length=k)(Fg:0<k):Rw h k s rows:=by
  have hl:=ho.len
  rw[aZ rows hk] at hl
  have hn:rows.length=s.n:=Nat.eq_of_mul_eq_mul_right Fg hl
  refine⟨hn.symm,fun hp=>?_⟩
  rcases ho.2 with ⟨_,h0,_⟩ | ⟨g,cur,ha,_⟩
  . omega
  . refine⟨g,0,ha,fun i row hi j v hj=>?_⟩
    have hr:=hk row (Yb hi)
    have Wq:j<k:=by have:=(Ya.1 hj).1;omega
    rw[fe,Nat.zero_add]
    exact ho.hc ha (by rw[getElem?_flatten rows i j row hk hi Wq];exact hj)
theorem xT{h:Heap}{k b:Nat}:∀(rows:List (List Value)) (o:Nat),(∀r∈rows,r.length=k)->(∀(i:Nat) (row:List Value),rows[i]?=some row->a6 h ⟨b,o+i*k,none⟩ row)->a6 h ⟨b,o,none⟩ rows.flatten
  | [],o,_,_=>fun i v hv=>by simp at hv
  | r::rows,o,hk,hr=>by
    intro n v hv
    have h0:=hk r (by simp)
    rw[ox] at hv
    by_cases hn:n<r.length
    . rw[jw hn] at hv
      have:=hr 0 r rfl n v hv
      rwa [Nat.zero_mul,Nat.add_zero] at this
    . rw[tR (by omega)] at hv
      have:=xT rows (o+k) (fun x hx=>hk x (Yn _ hx)) (fun i row hi=>by
        have:=hr (i+1) row hi
        rw[Nat.succ_mul] at this
        rwa [show o+k+i*k=o+(i*k+k) by omega]) (n-r.length) v hv
      rw[fe] at this ⊢
      rwa [show o+k+(n-r.length)=o+n by omega] at this
theorem get_some{α:Type}{l:List α}{i:Nat}(h:i<l.length):∃x,l[i]?=some x:=⟨l[i],Yi h⟩
theorem aj{α:Type}{l:List α}{i:Nat}{x:α}(h:l[i]?=some x):l.take (i+1)=l.take i++[x]:=by rw[List.take_add_one,h];rfl
theorem Im{α:Type}{l:List α}{p:α->Bool}{i:Nat}{x:α}(h:l[i]?=some x)(hp:p x=true):l.any p=true:=List.any_eq_true.2 ⟨x,Yb h,hp⟩
theorem Io{α:Type}{l:List α}{p:α->Bool}(h:∀(i:Nat) (x:α),l[i]?=some x->p x=false):l.any p=false:=by
  rw[Bool.eq_false_iff]
  intro hc
  obtain⟨x,hx,hp⟩:=List.any_eq_true.1 hc
  obtain⟨i,hi⟩:=Yf.1 hx
  rw[h i x hi] at hp;cases hp
theorem eh{α:Type}{l:List α}{p:α->Bool}{i:Nat}{x:α}(h:l[i]?=some x)(hp:p x=false)(ha:∀(j:Nat) (y:α),j<i->l[j]?=some y->p y=false)(j:Nat)(y:α)(hj:j<i+1)(hy:l[j]?=some y):p y=false:=by
  by_cases e:j=i
  . subst e;rw[h] at hy;cases hy;exact hp
  . exact ha j y (by omega) hy
theorem ak{h:Heap}{xs:List Value}{e:TypeId}{K:Heap->Prop}(hK:∀h2,Ext h h2->Own h2 h.size xs e->K h2):∀h2:Heap,h2=h.push (.cells ⟨xs⟩ e)->K h2:=by
  rintro h2 rfl;exact hK _ (Ext.push ..) Own.push
theorem ao{h:Heap}{zs vs:List Value}{e:TypeId}{K:Heap->Prop}(hl:zs.length=vs.length)(hK:∀h3,Ext h h3->Own h3 h.size vs e->K h3):
    ∀h2:Heap,h2=h.push (.cells ⟨zs⟩ e)->je h2 ⟨h.size,0,none⟩ vs.length/\∀h3:Heap,h3=bI h2 ⟨h.size,0,none⟩ 0 vs->K h3:=by
  rintro h2 rfl
  have o:Own (h.push (.cells ⟨zs⟩ e)) h.size zs e:=Own.push
  refine⟨o.je (by omega),?_⟩
  rintro h3 rfl
  have hb:kr h.size (h.push (.cells ⟨zs⟩ e)) (bI (h.push (.cells ⟨zs⟩ e)) ⟨h.size,0,none⟩ 0 vs):=kr.bI (a:=⟨h.size,0,none⟩) vs 0 _
  refine hK _ ?_ ?_
  . have h1:=Ext.push h (.cells ⟨zs⟩ e)
    have h2:=Ext.Gz hb (bc h.size)
    exact (Kp.trans (h1.kp (bc _)) (Kp.but hb (bc _))).ext
  . have:=Own.bI vs 0 (h.push (.cells ⟨zs⟩ e)) zs (o:=0) o (by omega)
    rw[yK hl] at this
    exact this
theorem Ext.sm{h h':Heap}(hE:Ext h h'){al:List Addr}:Sm al h h':=fun a _ k v hv=>ay hE hv
/-! ### counting loops -/
def Up(n:Nat)(Q:Nat->Heap->Prop)(x:Int)(h:Heap)(m:Nat):Prop:=∃i:Nat,x=i/\m=n-i/\i<=n/\Q i h
theorem Up.zero{n:Nat}{Q:Nat->Heap->Prop}{h:Heap}(h0:Q 0 h):∃m,Up n Q 0 h m:=⟨_,0,rfl,rfl,by omega,h0⟩
theorem Up.next{n i:Nat}{Q:Nat->Heap->Prop}{h:Heap}(hi:i<n)(hn:n<=9223372036854775807)(h1:Q (i+1) h):∃m,m<n-i/\Up n Q (IntKind.wrap .i64 ((i:Int)+1)) h m:=
  ⟨_,by omega,i+1,by rw[a7 (by omega) (by omega)];omega,rfl,by omega,h1⟩
theorem bU{i n:Nat}(h:decide ((i:Int)<(n:Int))=true):i<n:=by have:=cd h;omega
theorem cj{i n:Nat}(h:decide ((i:Int)<(n:Int))=false):n<=i:=by have:=eU h;omega
theorem eB{n:Nat}{h:Heap}{B:(Int->Heap->Nat->Prop)->Env->Int->Heap->Nat->Prop}(Q:Nat->Heap->Prop)(h0:Q 0 h)
    (hB:∀(e:Env) (i:Nat) (h':Heap),i<=n->Q i h'->B (Up n Q) e i h' (n-i)):∃I:Int->Heap->Nat->Prop,(∃m,I 0 h m)/\∀(e:Env) (x:Int) (h':Heap) (m:Nat),I x h' m->B I e x h' m:=
  ⟨Up n Q,Up.zero h0,by rintro e x h' m ⟨i,rfl,rfl,hi,hq⟩;exact hB e i h' hi hq⟩
theorem p7{w:World}{b:Nat}{xs ys:List Value}{ty:TypeId}(ho:Own w.heap b xs ty):Own (w.setRow b ys.toArray).heap b ys ty/\kr b w.heap (w.setRow b ys.toArray).heap:=by
  refine⟨setRow_heap w b ⟨xs⟩ ys.toArray ty (0,0) ho,?_⟩
  unfold World.setRow
  refine⟨by simp,fun k hk=>?_⟩
  rw[Array.getElem?_modify,if_neg (by omega)]
def Av(h:Heap)(e:TypeId)(k:Nat)(s:Sl)(xs:List Value):Prop:=
  xs.length=s.n*k/\((s.a=none/\s.n=0/\s.c=0)\/∃g o cur,s.a=some ⟨g,o,none⟩/\h[g]?=some (.cells cur e (0,0))/\s.n<=s.c/\s.c<=maxLen/\o+s.c*k<=cur.size/\(cur.toList.drop o).take (s.n*k)=xs)
inductive It where
  | ae (b:Nat) (xs:List Value) (e:TypeId)
  | sl (s:Sl) (e:TypeId) (k:Nat) (rows:List (List Value))
  | q (s:Sl) (e:TypeId) (k:Nat) (rows:List (List Value))
  | mp (b:Nat) (kvs:List (Value × Value))
  | raw (b:Nat) (o:Obj)
def It.at:It->Option Nat
  | .ae b _ _=>some b
  | .sl s _ _ _=>s.a.map (·.block)
  | .q s _ _ _=>s.a.map (·.block)
  | .mp b _=>some b
  | .raw b _=>some b
def Bn(es:Array MapEntry)(clock:Nat):Prop:=(∀x∈es.toList,x.born<clock)/\(es.toList.map (·.born)).Nodup
def It.ok(h:Heap):It->Prop
  | .ae b xs e=>Own h b xs e
  | .sl s e k rows=>cM h 0 e k s rows.flatten/\∀r∈rows,r.length=k
  | .q s e k rows=>Av h e k s rows.flatten/\∀r∈rows,r.length=k
  | .mp b kvs=>∃es clock,h[b]?=some (.map es clock)/\es.toList.map (fun e:MapEntry=>(e.key,e.val))=kvs/\Bn es clock
  | .raw b o=>h[b]?=some o
def It.fr(n:Nat)(i:It):Prop:=∀b,i.at=some b->n<=b
def It.apart(i j:It):Prop:=∀b,i.at=some b->j.at≠some b
structure St (h0 h:Heap) (L:List It):Prop where
  ext:Ext h0 h
  ok:∀i∈L,i.ok h/\i.fr h0.size
  ap:L.Pairwise It.apart
theorem fS{h:Heap}{base:Nat}{e:TypeId}{k:Nat}{s:Sl}{xs:List Value}(ho:cM h base e k s xs){b:Nat}(hb:s.a.map (·.block)=some b):s.a=some ⟨b,0,none⟩/\b<h.size/\base<=b:=by
  rcases ho.2 with ⟨ha,_⟩ | ⟨g,cur,ha,hg,hh,_⟩
  . rw[ha] at hb;cases hb
  . rw[ha] at hb
    simp only[Option.map_some,Option.some.injEq] at hb
    subst hb
    exact⟨ha,(yH.1 hh).1,hg⟩
theorem It.ok.lt{h:Heap}{i:It}(ho:i.ok h){b:Nat}(hb:i.at=some b):b<h.size:=by
  cases i with
  | ae c xs e=>cases hb;exact Own.lt ho
  | sl s e k rows=>exact (fS ho.1 hb).2.1
  | q s e k rows=>
    replace hb:s.a.map (·.block)=some b:=hb
    rcases ho.1.2 with ⟨h1,_⟩ | ⟨g,o,cur,ha,hg,_⟩
    . rw[h1] at hb;cases hb
    . rw[ha] at hb;cases hb
      exact (yH.1 hg).1
  | mp c kvs=>
    cases hb
    obtain⟨es,clock,hg,_⟩:=ho
    exact (yH.1 hg).1
  | raw c o=>
    cases hb
    exact (yH.1 ho).1
theorem It.ok.br{h h':Heap}{i:It}(ho:i.ok h)(hk:∀b,i.at=some b->h'[b]?=h[b]?):i.ok h':=by
  cases i with
  | ae c xs e=>exact (hk c rfl).trans ho
  | sl s e k rows=>exact⟨ho.1.kp fun g hg _=>hk g (by show s.a.map (·.block)=_;rw[hg];rfl),ho.2⟩
  | q s e k rows=>
    refine⟨⟨ho.1.1,?_⟩,ho.2⟩
    rcases ho.1.2 with h1 | ⟨g,o,cur,ha,hg,r⟩
    . exact .inl h1
    . exact .inr ⟨g,o,cur,ha,(hk g (by show s.a.map (·.block)=_;rw[ha];rfl)).trans hg,r⟩
  | mp c kvs=>
    obtain⟨es,clock,hg,he⟩:=ho
    exact⟨es,clock,(hk c rfl).trans hg,he⟩
  | raw c o=>exact (hk c rfl).trans ho
theorem St.refl(h:Heap):St h h []:=⟨⟨bc _,fun _ _=>rfl⟩,fun _ hi=>(by cases hi),.nil⟩
theorem St.step{h0 h h':Heap}{L:List It}(hs:St h0 h L)(E:Ext h h'):St h0 h' L:=
  ⟨hs.ext.trans E,fun i hi=>⟨(hs.ok i hi).1.br fun b hb=>E.2 b ((hs.ok i hi).1.lt hb),(hs.ok i hi).2⟩,hs.ap⟩
theorem St.more{h0 h h':Heap}{L:List It}(hs:St h0 h L)(E:Ext h h'){i:It}(ho:i.ok h')(hf:i.fr h.size):St h0 h' (i::L):=by
  refine⟨hs.ext.trans E,fun j hj=>?_,List.pairwise_cons.2 ⟨fun j hj b hb hc=>?_,hs.ap⟩⟩
  . rcases Yr.1 hj with rfl | hj
    . exact⟨ho,fun b hb=>mn hs.ext.1 (hf b hb)⟩
    . exact (hs.step E).ok j hj
  . have h1:=(hs.ok j hj).1.lt hc
    have h2:=hf b hb
    omega
theorem St.ak{h0 h:Heap}{L:List It}(hs:St h0 h L){xs:List Value}{e:TypeId}{K:Heap->Prop}(hK:∀h2,St h0 h2 (.ae h.size xs e::L)->K h2):∀h2:Heap,h2=h.push (.cells ⟨xs⟩ e)->K h2:=
  VC.ak fun h2 E o=>hK h2 (hs.more E (i:=.ae h.size xs e) o fun b hb=>by cases hb;exact bc _)
theorem St.ao{h0 h:Heap}{L:List It}(hs:St h0 h L){zs vs:List Value}{e:TypeId}{K:Heap->Prop}{n:Nat}(hn:n=vs.length)(hl:zs.length=vs.length)(hK:∀h3,St h0 h3 (.ae h.size vs e::L)->K h3):
    ∀h2:Heap,h2=h.push (.cells ⟨zs⟩ e)->je h2 ⟨h.size,0,none⟩ n/\∀h3:Heap,h3=bI h2 ⟨h.size,0,none⟩ 0 vs->K h3:=by
  subst hn
  exact VC.ao hl fun h3 E o=>hK h3 (hs.more E (i:=.ae h.size vs e) o fun b hb=>by cases hb;exact bc _)
theorem St.get{h0 h:Heap}{L:List It}(hs:St h0 h L){k:Nat}{i:It}(hk:L[k]?=some i):i.ok h:=(hs.ok i (Yb hk)).1
theorem St.rd{h0 h:Heap}{L:List It}(hs:St h0 h L)(k:Nat){b:Nat}{xs:List Value}{e:TypeId}(hk:L[k]?=some (.ae b xs e)){i:Nat}{v:Value}(hi:xs[i]?=some v):hc h ⟨b,i,none⟩=some v:=by
  have:=hs.get hk
  rw[Own.hc this];exact hi
theorem St.at{h0 h:Heap}{L:List It}(hs:St h0 h L)(k:Nat){b:Nat}{xs:List Value}{e:TypeId}(hk:L[k]?=some (.ae b xs e)){o n:Nat}{vs:List Value}(hv:(xs.drop o).take n=vs):a6 h ⟨b,o,none⟩ vs:=by
  refine Own.a6 (hs.get hk) fun i v hi=>?_
  subst hv
  rw[tQ] at hi
  split at hi
  . rw[List.getElem?_drop] at hi;exact hi
  . cases hi
theorem St.sub{h0 h:Heap}{L L':List It}(hs:St h0 h L)(hl:L'.Sublist L):St h0 h L':=⟨hs.ext,fun i hi=>hs.ok i (hl.subset hi),hs.ap.sublist hl⟩
theorem St.drop{h0 h:Heap}{L:List It}(hs:St h0 h L)(n:Nat):St h0 h (L.drop n):=hs.sub (List.drop_sublist n L)
theorem St.XF{h0 h:Heap}{L:List It}(hs:St h0 h L)(n:Nat):St h0 h (L.eraseIdx n):=hs.sub (List.eraseIdx_sublist L n)
theorem St.iA{h0 h h':Heap}{L:List It}(hs:St h0 h L){k:Nat}{i j:It}(hk:L[k]?=some i)(fA:h.size<=h'.size)(ho:j.ok h')(hf:∀b,j.at=some b->h.size<=b\/i.at=some b)
    (tu:∀b,b<h.size->i.at≠some b->h'[b]?=h[b]?):St h0 h' (L.set k j):=by
  have hi:=Yb hk
  have qP:k<L.length:=(Ya.1 hk).1
  have Ps:L[k]=i:=(Ya.1 hk).2
  have qx:∀b,i.at=some b->h0.size<=b:=(hs.ok i hi).2
  have apart:∀(m:Nat) (x:It),L[m]?=some x->m≠k->∀b,x.at=some b->i.at≠some b:=by
    intro m x hm JQ b hb hc
    have Ff:=(Ya.1 hm).1
    have yy:=(Ya.1 hm).2
    have hp:=List.pairwise_iff_getElem.1 hs.ap
    rcases Nat.lt_or_gt_of_ne JQ with bR | bR
    . have:=hp m k Ff qP bR b (by rw[yy];exact hb)
      rw[Ps] at this;exact this hc
    . have:=hp k m qP Ff bR b (by rw[Ps];exact hc)
      rw[yy] at this;exact this hb
  refine⟨⟨mn hs.ext.1 fA,fun b hb=>?_⟩,fun x hx=>?_,?_⟩
  . rw[tu b (Nat.lt_of_lt_of_le hb hs.ext.1) fun hc=>by have:=qx b hc;omega]
    exact hs.ext.2 b hb
  . obtain⟨m,hm⟩:=Yf.1 hx
    by_cases JQ:m=k
    . subst JQ
      rw[Yq qP] at hm;cases hm
      refine⟨ho,fun b hb=>?_⟩
      rcases hf b hb with h1 | h1
      . exact mn hs.ext.1 h1
      . exact qx b h1
    . rw[Yy (fun e=>JQ e.symm)] at hm
      have si:=hs.ok x (Yb hm)
      exact⟨si.1.br fun b hb=>tu b (si.1.lt hb) (apart m x hm JQ b hb),si.2⟩
  . rw[List.pairwise_iff_getElem]
    intro a b ha hb mA y hy hz
    rw[jT] at ha hb
    rw[List.getElem_set] at hy hz
    have hp:=List.pairwise_iff_getElem.1 hs.ap a b ha hb mA y
    have la:∀m (hm:m<L.length),(L[m]).at=some y->y<h.size:=fun m hm he=>(hs.ok _ (List.getElem_mem hm)).1.lt he
    split at hy
    . rename_i hka
      split at hz
      . omega
      . rename_i Pt
        rcases hf y hy with h1 | h1
        . have:=la b hb hz;omega
        . exact apart b L[b] (Yi hb) (fun e=>Pt e.symm) y hz h1
    . rename_i hka
      split at hz
      . rename_i Pt
        rcases hf y hz with h1 | h1
        . have:=la a ha hy;omega
        . exact apart a L[a] (Yi ha) (fun e=>hka e.symm) y hy h1
      . exact hp hy hz
theorem St.put{h0 h:Heap}{L:List It}(hs:St h0 h L)(k:Nat){b:Nat}{xs:List Value}{e:TypeId}(hk:L[k]?=some (.ae b xs e)){o n:Nat}{vs:List Value}(hn:n=vs.length)(hl:o+vs.length<=xs.length){K:Heap->Prop}
    (hK:∀h',St h0 h' (L.set k (.ae b (aH xs o vs) e))->K h'):je h ⟨b,o,none⟩ n/\∀h',h'=bI h ⟨b,o,none⟩ 0 vs->K h':=by
  subst hn
  have ho:Own h b xs e:=hs.get hk
  refine⟨ho.je hl,?_⟩
  rintro h' rfl
  have hb:kr b h (bI h ⟨b,o,none⟩ 0 vs):=kr.bI (a:=⟨b,o,none⟩) vs 0 h
  refine hK _ (hs.iA hk (by rw[hb.1];exact bc _) ?_ (fun c hc=>.inr hc) fun c _ hc=>hb.2 c fun e=>hc (by rw[e];rfl))
  exact Own.bI vs 0 h xs ho (by omega)
theorem St.rw{h0 h:Heap}{L:List It}(hs:St h0 h L)(k:Nat){s:Sl}{e:TypeId}{n:Nat}{rows:List (List Value)}(hk:L[k]?=some (.sl s e n rows))(hn:0<n):Rw h n s rows:=by
  have:=hs.get hk
  exact this.1.rw this.2 hn
theorem St.len{h0 h:Heap}{L:List It}(hs:St h0 h L)(k:Nat){s:Sl}{e:TypeId}{n:Nat}{rows:List (List Value)}(hk:L[k]?=some (.sl s e n rows))(hn:0<n):s.n=rows.length/\s.n<=s.c/\(s.a=none->s.n=0/\s.c=0):=by
  have h1:=hs.get hk
  refine⟨(hs.rw k hk hn).1,h1.1.cap,fun ha=>?_⟩
  rcases h1.1.2 with ⟨_,h2,h3⟩ | ⟨g,cur,hg,_⟩
  . exact⟨h2,h3⟩
  . rw[ha] at hg;cases hg
theorem St.LP{h0 h h':Heap}{L:List It}(hs:St h0 h L)(E:Ext h h'){s:Sl}{e:TypeId}{k:Nat}{rows:List (List Value)}(ho:cM h' h.size e k s rows.flatten)(hr:∀r∈rows,r.length=k):St h0 h' (.sl s e k rows::L):=
  hs.more E ⟨ho.mono (Nat.zero_le _),hr⟩ fun b hb=>by exact (fS ho hb).2.2
theorem St.Xl{h0 h:Heap}{L:List It}(hs:St h0 h L)(k:Nat){s:Sl}{e:TypeId}{n:Nat}{rows:List (List Value)}(hk:L[k]?=some (.sl s e n rows)):cM h h0.size e n s rows.flatten:=by
  have h1:=hs.get hk
  have hf:=(hs.ok _ (Yb hk)).2
  obtain⟨h2,h3⟩:=h1.1
  refine⟨h2,?_⟩
  rcases h3 with h3 | ⟨g,cur,ha,_,r⟩
  . exact .inl h3
  . exact .inr ⟨g,cur,ha,hf g (by show s.a.map (·.block)=_;rw[ha];rfl),r⟩
theorem St.bJ{h0 h:Heap}{L:List It}(hs:St h0 h L)(e:TypeId)(k:Nat):St h0 h (.sl ⟨.none,0,0⟩ e k []::L):=
  hs.more ⟨bc _,fun _ _=>rfl⟩ ⟨cM.nil,fun _ hr=>by cases hr⟩ fun b hb=>by cases hb
theorem yp{P:Program}{t e size bytes:Nat}(hT:cI P t e size bytes=true){h:Heap}{s:Sl}{xs:List Value}(ho:cM h 0 e size s xs)
    {x:Addr} {m c:Nat} {news:List Value} (hx:a6 h x news) (hl:news.length=m*size) (h1:news.all dR=true) (cZ:(s.n+m)*bytes<=140737488355328) (rM:s.n+m<=maxLen)
    {K:Sl->Heap->Prop} (hK:∀(r:Sl) (h':Heap),r.n=s.n+m->cM h' 0 e size r (xs++news)->h.size<=h'.size->(∀k,k<h.size->(∀g,s.a=some ⟨g,0,none⟩->k≠g)->h'[k]?=h[k]?) ->
      (∀b,r.a.map (·.block)=some b->h.size<=b\/s.a.map (·.block)=some b)->K r h') :
    App P t t (.slice s.a s.n s.c) (.slice (some x) m c) h K:=by
  intro ty w hw
  subst hw
  unfold cI at hT
  simp only[Yt] at hT
  obtain⟨⟨⟨⟨⟨⟨⟨hs,he⟩,ht⟩,hz⟩,JL⟩,fA⟩,BW⟩,fB⟩:=hT
  have hu:=cT hs
  rw[eI he] at hu
  obtain⟨i,hi⟩:=gP ht
  obtain⟨z,nq⟩:=Option.isSome_iff_exists.1 hz
  rw[hi] at nq
  simp only[Option.bind_some] at nq
  have e1:i.size=size:=by have:=eI fA;simpa [a8,hi] using this
  have e2:i.bytes=bytes:=by have:=eI BW;simpa [xQ,hi] using this
  have e3:z.cells.size=size:=by have:=eI JL;simpa [bV,hi,nq] using this
  have lS:∀j u,news[j]?=some u->w.cell? (x.add j)=some u:=fun j u hj=>by rw[jv];exact hx j u hj
  have sq:∀u∈news,u.oneCell'=true:=fun u hu=>by
    rw[List.all_eq_true] at h1
    exact nc (h1 u hu)
  obtain⟨v',w',hr,nu,hg,_⟩:=run_append_own (P:=P) w 0 t ty e i z size bytes hu hi nq e1 e2 e3 (by simpa using fB) _ s.n xs ho.row x m c news hl lS sq rM cZ (Nat.zero_le _)
  obtain⟨r,hv,hn,nZ⟩:=cM.Gy nu
  refine⟨v',w',hr,⟨r,hv,hK r w'.heap hn nZ hg.size ?_ ?_⟩,hg.os,hg.tape,hg.output⟩
  . intro k hk bH
    refine hg.block k hk ?_
    intro e
    rcases ho.2 with ⟨ha,_⟩ | ⟨g,cur,ha,_⟩
    . rw[ha] at e;cases e
    . rw[ha] at e
      simp only[Value.ownBlock,Option.some.injEq] at e
      exact bH g ha e
  . have agO:s.n+m<=9223372036854775807:=by simp only[maxLen] at rM;omega
    have fin:∀(a:Addr) (n c2:Nat) (w2:World),(Builtin.append_ #[t,t] ty #[.slice s.a s.n s.c,.slice (some x) m c]).run P w=.ok (.slice (some a) n c2) w2->∀b,r.a.map (·.block)=some b->a.block=b:=by
      intro a n c2 w2 sk b hb
      rw[hr] at sk
      injection sk with e4 _
      rw[hv] at e4
      injection e4 with e5 _ _
      rw[e5] at hb
      exact fH hb
    intro b hb
    rcases ho.2 with ⟨ha,vG,fV⟩ | ⟨g,cur,ha,_,Wu,D7,BV,BU,Ha⟩
    . by_cases hm:m=0
      . have jJ:xs=[]:=List.eq_nil_of_length_eq_zero (by have:=ho.1;rw[vG] at this;simpa using this)
        have jY:=nZ.1
        rcases nZ.2 with ⟨h5,_⟩ | ⟨g5,ahD,h5,_⟩
        . rw[h5] at hb;cases hb
        . subst hm
          have ags:news=[]:=List.eq_nil_of_length_eq_zero (by simpa using hl)
          have sk:(Builtin.append_ #[t,t] ty #[.slice s.a s.n s.c,.slice (some x) 0 c]).run P w=.ok (.slice none 0 0) w:=by
            rw[ha,vG,fV]
            simp[Builtin.append_,run_underlying hu,sizeOf,typeInfo,hi,Builtin.lenOf,Builtin.firstCells,loadCells,loadCellsFrom]
          rw[hr] at sk
          injection sk with e4 _
          rw[hv] at e4
          injection e4 with e5 _ _
          rw[e5] at hb;cases hb
      . have sk:=run_append_nil (P:=P) w t ty e i z hu hi nq x m c news (by rw[e1];exact hl) lS (by omega) (by omega) (by rw[e2];rw[vG] at cZ;simp only[Nat.zero_add] at cZ;omega)
        refine .inl ?_
        have:=fin ⟨w.heap.size,0,none⟩ _ _ _ (by rw[ha,vG,fV];exact sk) b hb
        show w.heap.size<=b
        rw[<-this];exact bc _
    . by_cases nY:s.n+m<=s.c
      . have uM:s.n*i.size+news.length<=cur.size:=by rw[hl,BU,e1,<-Nat.add_mul];exact Nat.mul_le_mul_right _ nY
        have sk:=run_append_room (P:=P) w t ty e i hu hi g s.n s.c cur Wu x m c news (by rw[e1];exact hl) lS sq nY uM
        right
        have:=fin ⟨g,0,none⟩ _ _ _ (by rw[ha];exact sk) b hb
        rw[ha,<-this];rfl
      . have holds:∀j u,xs[j]?=some u->w.cell? ((⟨g,0,none⟩:Addr).add j)=some u:=ho.row.cells (g:=g) (by rw[ha];rfl)
        have sk:=run_append_grow (P:=P) w t ty e i z hu hi nq ⟨g,0,none⟩ s.n s.c xs (by rw[e1];exact ho.1) holds x m c news (by rw[e1];exact hl) lS (by omega) (by omega) (growslice_fits (by omega) (by rw[e2];exact cZ))
        refine .inl ?_
        have:=fin ⟨w.heap.size,0,none⟩ _ _ _ (by rw[ha];exact sk) b hb
        show w.heap.size<=b
        rw[<-this];exact bc _
theorem St.appended{P:Program}{h0 h:Heap}{L:List It}(hs:St h0 h L)(k:Nat){s:Sl}{t e:TypeId}{n bytes:Nat}{rows:List (List Value)}(hk:L[k]?=some (.sl s e n rows))(hT:cI P t e n bytes=true)
    {x:Addr} {m c:Nat} {news:List (List Value)} (hx:a6 h x news.flatten) (hl:news.length=m) (hr:∀r∈news,r.length=n) (h1:news.flatten.all dR=true) (cZ:(s.n+m)*bytes<=140737488355328) (rM:s.n+m<=maxLen)
    {K:Sl->Heap->Prop} (hK:∀(r:Sl) (h':Heap),r.n=s.n+m->St h0 h' (L.set k (.sl r e n (rows++news)))->K r h'):App P t t (.slice s.a s.n s.c) (.slice (some x) m c) h K:=by
  have ho:=hs.get hk
  refine yp hT ho.1 hx (by rw[aZ news hr,hl]) h1 cZ rM fun r h' hn nZ fA tu zD=>hK r h' hn ?_
  have Pl:(It.sl r e n (rows++news)).ok h':=⟨by rw[List.flatten_append];exact nZ,fun q hq=>by rcases Yk.1 hq with hq | hq;exact ho.2 q hq;exact hr q hq⟩
  exact hs.iA hk fA Pl zD fun b hb bH=>tu b hb fun g hg e=>by subst e;exact bH (by show s.a.map (·.block)=_;rw[hg];rfl)
theorem St.app{P:Program}{h0 h:Heap}{L:List It}(hs:St h0 h L)(k:Nat){s:Sl}{t e:TypeId}{n bytes:Nat}{rows:List (List Value)}(hk:L[k]?=some (.sl s e n rows))(hT:cI P t e n bytes=true)
    {m c:Nat} (news:List (List Value)) {cells:List Value} (hc:cells=news.flatten) {e2:TypeId} (hl:news.length=m) (hr:∀r∈news,r.length=n) (h1:news.flatten.all dR=true) (cZ:(s.n+m)*bytes<=140737488355328) (rM:s.n+m<=maxLen)
    {K:Sl->Heap->Prop} (hK:∀(r:Sl) (h':Heap),r.n=s.n+m->St h0 h' (L.set k (.sl r e n (rows++news)))->K r h') :
    ∀h2:Heap,h2=h.push (.cells ⟨cells⟩ e2)->App P t t (.slice s.a s.n s.c) (.slice (some ⟨h.size,0,none⟩) m c) h2 K:=by
  subst hc
  refine hs.ak fun h2 bG=>?_
  refine bG.appended (k+1) hk hT (bG.at 0 rfl (n:=news.flatten.length) (by rw[List.drop_zero,yd])) hl hr h1 cZ rM fun r h' hn h3=>hK r h' hn ?_
  exact h3.drop 1
theorem St.dY{P:Program}{h0 h:Heap}{L:List It}(hs:St h0 h L)(k:Nat){s y:Sl}{t e:TypeId}{n bytes:Nat}{rows news:List (List Value)}(hk:L[k]?=some (.sl s e n rows))(hT:cI P t e n bytes=true)
    (hy:Rw h n y news) (hr:∀r∈news,r.length=n) (Fe:y.a=none->y.n=0/\y.c=0) (h1:news.flatten.all dR=true) (cZ:(s.n+y.n)*bytes<=140737488355328) (rM:s.n+y.n<=maxLen)
    {K:Sl->Heap->Prop} (hK:∀(r:Sl) (h':Heap),r.n=s.n+y.n->St h0 h' (L.set k (.sl r e n (rows++news)))->K r h'):App P t t (.slice s.a s.n s.c) (.slice y.a y.n y.c) h K:=by
  cases Ni:y.a with
  | none=>
    obtain⟨h2,h3⟩:=Fe Ni
    have Pg:news=[]:=List.length_eq_zero_iff.1 (by have:=hy.1;omega)
    subst Pg
    rw[h2,h3]
    refine JG hT (hs.get hk).1 (hK s h (by omega) ?_)
    rw[Yw]
    have e:L.set k (.sl s e n rows)=L:=by
      apply yG
      intro m
      by_cases hm:k=m
      . subst hm;rw[Yq (Ya.1 hk).1,hk]
      . rw[Yy hm]
    rw[e];exact hs
  | some x=>
    have hx:a6 h x news.flatten:=by
      by_cases HF:0<news.length
      . obtain⟨b,o,ha,dq⟩:=hy.2 HF
        rw[Ni] at ha;cases ha
        exact xT news o hr dq
      . have Pg:news=[]:=List.length_eq_zero_iff.1 (by omega)
        subst Pg
        intro i v hv;simp at hv
    exact hs.appended k hk hT hx hy.1.symm hr h1 cZ rM hK
theorem nN{l m vs:List Value}{p:Nat}(h:p+vs.length<=l.length):aH (l++m) p vs=aH l p vs++m:=by
  unfold aH
  rw[S6 (by omega),List.drop_append_of_le_length (by omega)]
  simp only[Yz]
theorem ua{l m vs:List Value}{p:Nat}:aH (l++m) (l.length+p) vs=l++aH m p vs:=by
  unfold aH
  rw[List.take_length_add_append,show l.length+p+vs.length=l.length+(p+vs.length) by omega,List.drop_length_add_append]
  simp only[Yz]
theorem vZ{l vs:List Value}{p N:Nat}(h:p+vs.length<=N)(hN:N<=l.length):(aH l p vs).take N=aH (l.take N) p vs:=by
  have e:l=l.take N++l.drop N:=(List.take_append_drop N l).symm
  have hl:(l.take N).length=N:=by rw[Yu];omega
  have e2:aH l p vs=aH (l.take N) p vs++l.drop N:=by
    conv=>lhs;rw[e]
    exact nN (by omega)
  rw[e2]
  have h3:(aH (l.take N) p vs).length=N:=by
    unfold aH
    simp only[Yh,Yu,List.length_drop];omega
  rw[S6 (by omega),Yj (by omega)]
theorem kx{l vs:List Value}{p:Nat}(h:p+vs.length<=l.length):(aH l p vs).length=l.length:=by
  unfold aH
  simp only[Yh,Yu,List.length_drop];omega
theorem iX{n j:Nat}{vs row:List Value}:∀(rows:List (List Value)) (i:Nat),(∀r∈rows,r.length=n)->rows[i]?=some row->j+vs.length<=n->aH rows.flatten (i*n+j) vs=(rows.set i (aH row j vs)).flatten
  | [],i,_,h,_=>by simp at h
  | a::rows,0,hr,h,hj=>by
    rw[List.getElem?_cons_zero] at h;cases h
    have:=hr row (by simp)
    rw[ox,List.set_cons_zero,ox,Nat.zero_mul,Nat.zero_add]
    exact nN (by omega)
  | a::rows,i+1,hr,h,hj=>by
    rw[List.getElem?_cons_succ] at h
    have ha:=hr a (by simp)
    rw[ox,List.set_cons_succ,ox,<-iX rows i (fun r hm=>hr r (Yn _ hm)) h hj]
    rw[<-ua,ha,show (i+1)*n+j=n+(i*n+j) by rw[Nat.succ_mul];omega]
theorem St.Vz{h0 h:Heap}{L:List It}(hs:St h0 h L)(k:Nat){s:Sl}{e:TypeId}{n:Nat}{rows:List (List Value)}(hk:L[k]?=some (.sl s e n rows))(vG:0<n){i:Nat}{row vs:List Value}(hi:rows[i]?=some row)(j:Nat)(hv:j+vs.length<=n)
    {K:Nat->Nat->Heap->Prop} (hK:∀b o h',St h0 h' (L.set k (.sl s e n (rows.set i (aH row j vs))))->K b o h') {m:Nat} (hm:m=vs.length) {B:Prop} (hB:B) :
    NB s.a fun b o=>B/\(je h ⟨b,o+i*n+j,none⟩ m/\∀h',h'=bI h ⟨b,o+i*n+j,none⟩ 0 vs->K b o h'):=by
  subst hm
  have ho:=hs.get hk
  have hlen:=ho.1.len
  have n4:=(Ya.1 hi).1
  have xi:=ho.2 row (Yb hi)
  rw[aZ rows ho.2] at hlen
  have jY:rows.length=s.n:=Nat.eq_of_mul_eq_mul_right vG hlen
  rcases ho.1.2 with ⟨_,HF,_⟩ | ⟨g,cur,ha,hb,hh,D7,BV,BU,ht⟩
  . omega
  . rw[ha,C4]
    refine⟨hB,?_⟩
    have nu:Own h g cur.toList e:=hh
    have h1:(i+1)*n<=s.n*n:=Nat.mul_le_mul_right _ (by omega)
    have h2:s.n*n<=s.c*n:=Nat.mul_le_mul_right _ D7
    rw[Nat.succ_mul] at h1
    have eN:cur.toList.length=s.c*n:=by rw[Array.length_toList];exact BU
    have uM:i*n+j+vs.length<=cur.toList.length:=by omega
    rw[Nat.zero_add]
    refine⟨nu.je uM,?_⟩
    rintro h' rfl
    have hbt:kr g h (bI h ⟨g,i*n+j,none⟩ 0 vs):=kr.bI (a:=⟨g,i*n+j,none⟩) vs 0 h
    have We:=Own.bI vs 0 h cur.toList (o:=i*n+j) nu (by omega)
    rw[Nat.add_zero] at We
    refine hK _ _ _ (hs.iA hk (by rw[hbt.1];exact bc _) ⟨⟨?_,.inr ⟨g,⟨aH cur.toList (i*n+j) vs⟩,ha,Nat.zero_le _,We,D7,BV,?_,?_⟩⟩,?_⟩ (fun c hc=>.inr hc) fun c _ hc=>hbt.2 c fun e=>hc (by rw[e];show s.a.map (·.block)=_;rw[ha];rfl))
    . rw[<-iX rows i ho.2 hi hv,kx (by rw[aZ rows ho.2];omega),aZ rows ho.2,jY]
    . show (aH cur.toList (i*n+j) vs).length=_
      rw[kx uM];exact eN
    . show (aH cur.toList (i*n+j) vs).take (s.n*n)=_
      rw[vZ (by omega) (by omega),ht,iX rows i ho.2 hi hv]
    . intro r hr
      rcases List.mem_or_eq_of_mem_set hr with hr | rfl
      . exact ho.2 r hr
      . rw[kx (by omega)];exact xi
theorem aM{p:Prop}[Decidable p]{a b:Prop}(h1:p->a)(h2:¬p->b):sB (decide p) a b:=aa (fun h=>h1 (cd h)) (fun h=>h2 (eU h))
theorem dp{x y:Int}{a b:Prop}(h1:x=y->a)(h2:x≠y->b):sB (x==y) a b:=aa (fun h=>h1 (by simpa using h)) (fun h=>h2 (by simpa using h))
theorem fZ{x y:Int}{a b:Prop}(h1:x≠y->a)(h2:x=y->b):sB (x != y) a b:=aa (fun h=>h1 (by simpa using h)) (fun h=>h2 (by simpa using h))
theorem sBs{x y:List UInt8}{a b:Prop}(h1:x=y->a)(h2:x≠y->b):sB (ByteArray.toList (bs x)==ByteArray.toList (bs y)) a b:=by
  rw[pW]
  exact aM (p:=x=y) h1 h2
theorem dF{p:Prop}[Decidable p](h:¬p):Value.bool false=.bool (decide p):=by rw[decide_eq_false h]
theorem dT{p:Prop}[Decidable p](h:p):Value.bool true=.bool (decide p):=by rw[decide_eq_true h]
theorem xd(x y:Int):iJ x y=min x y:=by unfold iJ;rw[Int.min_def];split<;>split<;>omega
theorem xe(x y:Int):imax x y=max x y:=by unfold imax;rw[Int.max_def];split<;>split<;>omega
theorem Rw.aD{α:Type}{h:Heap}{k:Nat}{s:Sl}{cs:α->List Value}{L:List α}(hr:Rw h k s (L.map cs)){x:Int}(h0:0<=x)(h1:x<s.n){F:Nat->Nat->Prop}
    (hF:∀b o d,L[x.toNat]?=some d->a6 h ⟨b,o+x.toNat*k,none⟩ (cs d)->F b o):NB s.a fun b o=>(0<=x/\x<(s.n:Nat))/\F b o:=by
  have hn:=hr.1
  rw[Yc] at hn
  have hl:x.toNat<L.length:=by omega
  refine hr.nb (i:=x.toNat) (row:=cs L[x.toNat]) (by rw[Yd,Yi hl];rfl) fun b o _ Hw=>⟨⟨h0,h1⟩,hF b o _ (Yi hl) Hw⟩
theorem Rw.ln{α:Type}{h:Heap}{k:Nat}{s:Sl}{cs:α->List Value}{L:List α}(hr:Rw h k s (L.map cs)):s.n=L.length:=by have:=hr.1;rwa [Yc] at this
theorem a6.sub{h:Heap}{b o:Nat}{vs us:List Value}(ha:a6 h ⟨b,o,none⟩ vs)(i n:Nat)(hu:(vs.drop i).take n=us):a6 h ⟨b,o+i,none⟩ us:=by
  subst hu
  intro j v hj
  rw[tQ] at hj
  split at hj
  . rw[List.getElem?_drop] at hj
    have:=ha.nth (i+j) hj
    rw[fe,Nat.add_assoc];exact this
  . cases hj
theorem a6.Dd{h:Heap}{b o:Nat}{vs us:List Value}(ha:a6 h ⟨b,o,none⟩ vs)(n:Nat)(hu:vs.take n=us):a6 h ⟨b,o,none⟩ us:=ha.sub 0 n hu
theorem St.rows{α:Type}{h0 h:Heap}{L:List It}(hs:St h0 h L)(k:Nat){s:Sl}{e:TypeId}{n:Nat}{cs:α->List Value}{l:List α}(hk:L[k]?=some (.sl s e n (l.map cs)))(hn:0<n):Rw h n s (l.map cs):=hs.rw k hk hn
theorem aL{n:Nat}{h0 h:Heap}{L:List It}{B:(Int->Heap->Nat->Prop)->Env->Int->Heap->Nat->Prop}(hs:St h0 h L)(Q:Nat->Prop)(q0:Q 0)
    (hB:∀(e:Env) (i:Nat) (h':Heap),i<=n->St h0 h' L/\Q i->B (Up n fun i h'=>St h0 h' L/\Q i) e i h' (n-i)):∃I:Int->Heap->Nat->Prop,(∃m,I 0 h m)/\∀(e:Env) (x:Int) (h':Heap) (m:Nat),I x h' m->B I e x h' m:=
  eB (fun i h'=>St h0 h' L/\Q i) ⟨hs,q0⟩ hB
def Fu(n:Nat)(Q:Nat->Sl->Heap->Prop)(s:Sl)(x:Int)(h:Heap)(m:Nat):Prop:=∃i:Nat,x=i/\m=n-i/\i<=n/\Q i s h
theorem gH{n:Nat}{h0 h:Heap}{L:List It}{e:TypeId}{k:Nat}{s0:Sl}{r0:List (List Value)}{B:(Sl->Int->Heap->Nat->Prop)->Env->Sl->Int->Heap->Nat->Prop}(hs:St h0 h (.sl s0 e k r0::L))(Q:Nat->List (List Value)->Prop)(q0:Q 0 r0)
    (hB:∀(ρ:Env) (i:Nat) (s:Sl) (h':Heap) (rows:List (List Value)),i<=n->St h0 h' (.sl s e k rows::L)->Q i rows->B (Fu n fun i s h'=>∃rows,St h0 h' (.sl s e k rows::L)/\Q i rows) ρ s i h' (n-i)) :
    ∃I:Sl->Int->Heap->Nat->Prop,(∃m,I s0 0 h m)/\∀(ρ:Env) (s:Sl) (x:Int) (h':Heap) (m:Nat),I s x h' m->B I ρ s x h' m:=
  ⟨Fu n fun i s h'=>∃rows,St h0 h' (.sl s e k rows::L)/\Q i rows,⟨_,0,rfl,rfl,by omega,r0,hs,q0⟩,by rintro ρ s x h' m ⟨i,rfl,rfl,hi,rows,h1,h2⟩;exact hB ρ i s h' rows hi h1 h2⟩
theorem Fu.next{n i:Nat}{Q:Nat->Sl->Heap->Prop}{s:Sl}{h:Heap}(hi:i<n)(hn:n<=9223372036854775807)(h1:Q (i+1) s h):∃m,m<n-i/\Fu n Q s (IntKind.wrap .i64 ((i:Int)+1)) h m:=
  ⟨_,by omega,i+1,by rw[a7 (by omega) (by omega)];omega,rfl,by omega,h1⟩
theorem kA{P:Program}(w:World)(t ty e:TypeId)(i:TypeInfo)(ht:P.underlying t=some (.slice e))(hi:P.info? e=some i)
    (g o qd Dk:Nat) (cur:Array Value) (hg:w.heap[g]?=some (.cells cur e (0,0)))
    (a:Addr) (m c:Nat) (news:List Value) (hl:news.length=m*i.size) (lS:∀j u,news[j]?=some u->w.cell? (a.add j)=some u) (h1:∀u∈news,u.oneCell'=true)
    (nY:qd+m<=Dk) (uM:o+qd*i.size+news.length<=cur.size) :
    (Builtin.append_ #[t,t] ty #[.slice (some ⟨g,o,none⟩) qd Dk,.slice (some a) m c]).run P w =
      .ok (.slice (some ⟨g,o,none⟩) (qd+m) Dk) (w.setRow g (cur.toList.take (o+qd*i.size)++news++cur.toList.drop (o+qd*i.size+news.length)).toArray):=by
  have hf:=run_firstCells_some (P:=P) w i.size m a m c news hl lS
  have oL:=run_storeCells_at P g (o+qd*i.size) e news 0 cur w hg (by simpa using uM) h1
  simp only[Nat.add_zero] at oL
  simp[Builtin.append_,run_underlying ht,sizeOf,typeInfo,hi,Builtin.lenOf,nY,hf,Addr.add_lit,oL]
theorem cM.toQ{h:Heap}{base:Nat}{e:TypeId}{k:Nat}{s:Sl}{xs:List Value}(ho:cM h base e k s xs):Av h e k s xs:=by
  refine⟨ho.1,?_⟩
  rcases ho.2 with h1 | ⟨g,cur,ha,_,hg,hn,hc,hz,ht⟩
  . exact .inl h1
  . exact .inr ⟨g,0,cur,ha,hg,hn,hc,by omega,by rw[List.drop_zero];exact ht⟩
theorem aaC{P:Program}{t e size bytes:Nat}(hT:cI P t e size bytes=true){h:Heap}{s:Sl}{xs:List Value}(ho:Av h e size s xs)
    {x:Addr} {m c:Nat} {news:List Value} (hx:a6 h x news) (hl:news.length=m*size) (h1:news.all dR=true) (cZ:(s.n+m)*bytes<=140737488355328) (rM:s.n+m<=maxLen)
    {K:Sl->Heap->Prop} (hK:∀(r:Sl) (h':Heap),r.n=s.n+m->Av h' e size r (xs++news)->h.size<=h'.size->(∀k,k<h.size->s.a.map (·.block)≠some k->h'[k]?=h[k]?) ->
      (∀b,r.a.map (·.block)=some b->h.size<=b\/s.a.map (·.block)=some b)->K r h') :
    App P t t (.slice s.a s.n s.c) (.slice (some x) m c) h K:=by
  rcases ho.2 with ⟨ha,vG,fV⟩ | ⟨g,o,cur,ha,Wu,D7,BV,BU,Ha⟩
  . have k6:cM h 0 e size s xs:=⟨ho.1,.inl ⟨ha,vG,fV⟩⟩
    exact yp hT k6 hx hl h1 cZ rM fun r h' hn nZ fA hk hw=>hK r h' hn nZ.toQ fA (fun k tv _=>hk k tv fun g hg=>by rw[ha] at hg;cases hg) hw
  . intro ty w hw
    subst hw
    unfold cI at hT
    simp only[Yt] at hT
    obtain⟨⟨⟨⟨⟨⟨⟨hs,he⟩,ht⟩,hz⟩,JL⟩,fA⟩,BW⟩,fB⟩:=hT
    have hu:=cT hs
    rw[eI he] at hu
    obtain⟨i,hi⟩:=gP ht
    obtain⟨z,nq⟩:=Option.isSome_iff_exists.1 hz
    rw[hi] at nq
    simp only[Option.bind_some] at nq
    have e1:i.size=size:=by have:=eI fA;simpa [a8,hi] using this
    have e2:i.bytes=bytes:=by have:=eI BW;simpa [xQ,hi] using this
    have e3:z.cells.size=size:=by have:=eI JL;simpa [bV,hi,nq] using this
    have lS:∀j u,news[j]?=some u->w.cell? (x.add j)=some u:=fun j u hj=>by rw[jv];exact hx j u hj
    have sq:∀u∈news,u.oneCell'=true:=fun u hu=>by
      rw[List.all_eq_true] at h1
      exact nc (h1 u hu)
    have agq:s.n*size<=s.c*size:=Nat.mul_le_mul_right _ D7
    have Sq:=ho.1
    by_cases nY:s.n+m<=s.c
    . have D9:(s.n+m)*size<=s.c*size:=Nat.mul_le_mul_right _ nY
      rw[Nat.add_mul] at D9
      have uM:o+s.n*size+news.length<=cur.size:=by omega
      have hr:=kA (P:=P) w t ty e i hu hi g o s.n s.c cur Wu x m c news (by rw[e1];exact hl) lS sq nY (by rw[e1];exact uM)
      rw[e1] at hr
      have nu:Own w.heap g cur.toList e:=Wu
      obtain⟨h2,h3⟩:=p7 (ys:=cur.toList.take (o+s.n*size)++news++cur.toList.drop (o+s.n*size+news.length)) nu
      rw[ha]
      refine⟨_,_,hr,⟨⟨some ⟨g,o,none⟩,s.n+m,s.c⟩,rfl,?_⟩,rfl,rfl,rfl⟩
      have acn:(w.setRow g (cur.toList.take (o+s.n*size)++news++cur.toList.drop (o+s.n*size+news.length)).toArray).heap.size=w.heap.size:=h3.1
      refine hK _ _ rfl ⟨by rw[Yh,hl,Sq,Nat.add_mul],.inr ⟨g,o,_,rfl,h2,nY,BV,?_,?_⟩⟩ (by rw[acn];exact bc _) (fun k hk bH=>h3.2 k fun e=>bH (by rw[e,ha];rfl)) (fun b hb=>.inr (by rw[ha];exact hb))
      . show o+s.c*size<=(cur.toList.take (o+s.n*size)++news++cur.toList.drop (o+s.n*size+news.length)).length
        simp only[Yh,Yu,List.length_drop,Array.length_toList]
        omega
      . show ((cur.toList.take (o+s.n*size)++news++cur.toList.drop (o+s.n*size+news.length)).drop o).take ((s.n+m)*size)=xs++news
        have eN:cur.toList.length=cur.size:=Array.length_toList
        have e4:cur.toList.take (o+s.n*size)=cur.toList.take o++xs:=by rw[List.take_add,Ha]
        rw[e4,Yz,Yz,<-Yz xs,List.drop_append_of_le_length (by rw[Yu];omega)]
        rw[List.drop_eq_nil_of_le (by rw[Yu];omega),List.nil_append]
        rw[S6 (by rw[Yh,hl,Sq,Nat.add_mul];omega)]
        exact Yj (by rw[Yh,hl,Sq,Nat.add_mul];omega)
    . have holds:∀j u,xs[j]?=some u->w.cell? ((⟨g,o,none⟩:Addr).add j)=some u:=by
        intro j u hj
        have acY:(⟨g,o,none⟩:Addr).add j=⟨g,o+j,none⟩:=by unfold Addr.add;split<;>simp_all
        rw[acY,cell_of_row w g (o+j) cur e (0,0) Wu]
        rw[<-Ha,tQ] at hj
        split at hj
        . rw[List.getElem?_drop] at hj;simpa using hj
        . cases hj
      obtain⟨v',w',hr,nu,hg⟩:=run_append_arg_grows (P:=P) w t ty e i z size bytes hu hi nq e1 e2 e3 (by simpa using fB) ⟨g,o,none⟩ s.n s.c xs Sq holds x m c news hl lS (by omega) rM cZ
      obtain⟨r,hv,hn,nZ⟩:=cM.Gy nu
      rw[ha]
      refine⟨v',w',hr,⟨r,hv,hK r w'.heap hn nZ.toQ hg.size (fun k hk _=>hg.block k hk (by simp)) fun b hb=>?_⟩,hg.os,hg.tape,hg.output⟩
      exact .inl (fS nZ hb).2.2
theorem St.toQ{h0 h:Heap}{L:List It}{s:Sl}{e:TypeId}{k:Nat}{rows:List (List Value)}(hs:St h0 h (.sl s e k rows::L))(_hk:0<1):St h0 h (.q s e k rows::L):=by
  have h1:=hs.get (k:=0) rfl
  have h2:=hs.iA (k:=0) (j:=.q s e k rows) rfl (bc _) ⟨h1.1.toQ,h1.2⟩ (fun b hb=>.inr hb) (fun _ _ _=>rfl)
  exact h2
theorem Av.rw{h:Heap}{e k:Nat}{s:Sl}{rows:List (List Value)}(ho:Av h e k s rows.flatten)(hk:∀r∈rows,r.length=k)(Fg:0<k):Rw h k s rows:=by
  have hl:=ho.1
  rw[aZ rows hk] at hl
  have hn:rows.length=s.n:=Nat.eq_of_mul_eq_mul_right Fg hl
  refine⟨hn.symm,fun hp=>?_⟩
  rcases ho.2 with ⟨_,h0,_⟩ | ⟨g,o,cur,ha,hg,h1,h2,h3,h4⟩
  . omega
  . refine⟨g,o,ha,fun i row hi=>?_⟩
    have nu:Own h g cur.toList e:=hg
    refine Own.a6 nu fun j v hv=>?_
    have xi:=hk row (Yb hi)
    have hj:j<k:=by have:=(Ya.1 hv).1;omega
    have h5:=getElem?_flatten rows i j row hk hi hj
    rw[<-h4,tQ] at h5
    split at h5
    . rw[List.getElem?_drop] at h5
      rw[Nat.add_assoc,h5];exact hv
    . rw[hv] at h5;cases h5
theorem St.qrw{h0 h:Heap}{L:List It}(hs:St h0 h L)(k:Nat){s:Sl}{e:TypeId}{n:Nat}{rows:List (List Value)}(hk:L[k]?=some (.q s e n rows))(hn:0<n):Rw h n s rows:=by
  have:=hs.get hk
  exact this.1.rw this.2 hn
theorem St.Vp{h0 h:Heap}{L:List It}(hs:St h0 h L)(k:Nat){s:Sl}{e:TypeId}{rows:List (List Value)}(hk:L[k]?=some (.q s e 1 rows)):s.n=rows.length/\s.n<=s.c:=by
  have h1:=hs.get hk
  refine⟨(hs.qrw k hk (by omega)).1,?_⟩
  rcases h1.1.2 with ⟨_,h2,h3⟩ | ⟨g,o,cur,ha,_,h2,_⟩
  . omega
  . exact h2
theorem St.Vo{h0 h:Heap}{L:List It}{s:Sl}{e:TypeId}{n:Nat}{row:List Value}{rows:List (List Value)}(hs:St h0 h (.q s e n (row::rows)::L)):St h0 h (.q ⟨aQ s.a (Int.toNat 1) s.c n,Int.toNat (s.n:Nat)-Int.toNat 1,s.c-Int.toNat 1⟩ e n rows::L):=by
  have h1:=hs.get (k:=0) rfl
  obtain⟨ho,hr⟩:=h1
  have eR:=hr row (by simp)
  have hlen:=ho.1
  rw[ox,Yh,eR] at hlen
  have key:Av h e n ⟨aQ s.a (Int.toNat 1) s.c n,Int.toNat (s.n:Nat)-Int.toNat 1,s.c-Int.toNat 1⟩ rows.flatten/\(∀b,(aQ s.a (Int.toNat 1) s.c n).map (·.block)=some b->s.a.map (·.block)=some b):=by
    have e1:Int.toNat 1=1:=rfl
    have e2:Int.toNat (s.n:Int)=s.n:=Ys _
    rw[e1,e2]
    have Hs:s.n=0\/∃m,s.n=m+1:=by cases s.n with
      | zero=>exact .inl rfl
      | succ m=>exact .inr ⟨m,rfl⟩
    have ig:rows.flatten.length=(s.n-1)*n:=by
      rcases Hs with HF | ⟨m,hm⟩
      . rw[HF] at hlen ⊢;simp at hlen ⊢;exact hlen.2
      . rw[hm] at hlen ⊢;rw[Nat.succ_mul] at hlen;simp only[Nat.add_sub_cancel];omega
    rcases ho.2 with ⟨ha,vG,fV⟩ | ⟨g,o,cur,ha,hg,D7,BV,BU,ht⟩
    . refine⟨⟨ig,.inl ⟨?_,by show s.n-1=0;omega,by show s.c-1=0;omega⟩⟩,?_⟩
      . show aQ s.a 1 s.c n=none
        unfold aQ;rw[ha];split<;>rfl
      . intro b hb
        unfold aQ at hb;rw[ha] at hb ⊢
        split at hb<;>exact hb
    . have Pc:∃o',aQ s.a 1 s.c n=some ⟨g,o',none⟩/\(o'=o/\s.c=1\/o'=o+n):=by
        unfold aQ
        by_cases sy:s.c=1
        . exact⟨o,by rw[if_pos sy,ha],.inl ⟨rfl,sy⟩⟩
        . refine⟨o+n,by rw[if_neg sy,ha,Option.map_some,Nat.one_mul,Addr.add_lit],.inr rfl⟩
      obtain⟨o',Pd,k6⟩:=Pc
      refine⟨⟨ig,.inr ⟨g,o',cur,Pd,hg,by show s.n-1<=s.c-1;omega,by show s.c-1<=maxLen;omega,?_,?_⟩⟩,?_⟩
      . show o'+(s.c-1)*n<=cur.size
        rcases k6 with ⟨rfl,sy⟩ | rfl
        . rw[sy];rw[sy] at BU;omega
        . rcases Nat.eq_zero_or_pos s.c with hz | hz
          . have:s.n=0:=by omega
            rw[this] at hlen;simp at hlen
            rw[hz] at BU ⊢;omega
          . have:s.c*n=(s.c-1)*n+n:=by rw[<-Nat.succ_mul];congr 1;omega
            omega
      . show (cur.toList.drop o').take ((s.n-1)*n)=rows.flatten
        rcases Hs with HF | ⟨m,hm⟩
        . have sx:rows.flatten=[]:=List.length_eq_zero_iff.1 (by rw[ig,HF,Nat.zero_sub,Nat.zero_mul])
          rw[HF,Nat.zero_sub,Nat.zero_mul,mq,sx]
        . rw[hm,Nat.add_sub_cancel]
          rcases k6 with ⟨rfl,sy⟩ | rfl
          . have hm0:m=0:=by omega
            subst hm0
            have sx:rows.flatten=[]:=List.length_eq_zero_iff.1 (by rw[ig,hm,Nat.add_sub_cancel,Nat.zero_mul])
            rw[Nat.zero_mul,mq,sx]
          . rw[hm,ox,Nat.succ_mul,Nat.add_comm (m*n) n,List.take_add,List.drop_drop] at ht
            have Wm:cur.toList.length=cur.size:=Array.length_toList
            have h6:n<=(cur.toList.drop o).length:=by
              rw[List.length_drop,Wm]
              have:1*n<=s.c*n:=Nat.mul_le_mul_right _ (by omega)
              omega
            have:=List.append_inj ht (by rw[Yu,eR];omega)
            exact this.2
      . intro b hb
        rw[Pd] at hb;rw[ha];exact hb
  exact hs.iA (k:=0) (j:=.q ⟨aQ s.a (Int.toNat 1) s.c n,Int.toNat (s.n:Nat)-Int.toNat 1,s.c-Int.toNat 1⟩ e n rows) rfl (bc _) ⟨key.1,fun r hr'=>hr r (Yn _ hr')⟩ (fun b hb=>.inr (key.2 b hb)) (fun _ _ _=>rfl)
theorem St.abZ{P:Program}{h0 h:Heap}{L:List It}(hs:St h0 h L)(k:Nat){s:Sl}{t e:TypeId}{n bytes:Nat}{rows:List (List Value)}(hk:L[k]?=some (.q s e n rows))(hT:cI P t e n bytes=true)
    {m c:Nat} (news:List (List Value)) {cells:List Value} (hc:cells=news.flatten) {e2:TypeId} (hl:news.length=m) (_hn:0<n) (hr:∀r∈news,r.length=n) (h1:news.flatten.all dR=true) (cZ:(s.n+m)*bytes<=140737488355328) (rM:s.n+m<=maxLen)
    {K:Sl->Heap->Prop} (hK:∀(r:Sl) (h':Heap),r.n=s.n+m->St h0 h' (L.set k (.q r e n (rows++news)))->K r h') :
    ∀h2:Heap,h2=h.push (.cells ⟨cells⟩ e2)->App P t t (.slice s.a s.n s.c) (.slice (some ⟨h.size,0,none⟩) m c) h2 K:=by
  subst hc
  refine hs.ak fun h2 bG=>?_
  have jn:(It.ae h.size news.flatten e2::L)[k+1]?=some (.q s e n rows):=hk
  have ho:=bG.get jn
  have hx:=bG.at 0 rfl (n:=news.flatten.length) (vs:=news.flatten) (o:=0) (by rw[List.drop_zero,yd])
  refine aaC hT ho.1 hx (by rw[aZ news hr,hl]) h1 cZ rM fun r h' hn nZ fA tu zD=>hK r h' hn ?_
  have Pl:(It.q r e n (rows++news)).ok h':=⟨by rw[List.flatten_append];exact nZ,fun q hq=>by rcases Yk.1 hq with hq | hq;exact ho.2 q hq;exact hr q hq⟩
  have h3:=bG.iA (k:=k+1) jn fA Pl zD fun b hb bH=>tu b hb bH
  exact h3.drop 1
theorem St.set{α:Type}{h0 h:Heap}{L:List It}(hs:St h0 h L)(k:Nat){s:Sl}{e:TypeId}{n:Nat}{cs:α->List Value}{l:List α}(hk:L[k]?=some (.sl s e n (l.map cs)))(hn:0<n){x:Int}(jJ:0<=x)(Lj:x<(s.n:Nat))(y:α){vs:List Value}(hv:vs=cs y)
    {m:Nat} (hm:m=vs.length) {K:Nat->Nat->Heap->Prop} (hK:∀b o h',St h0 h' (L.set k (.sl s e n ((l.set x.toNat y).map cs)))->K b o h') (hy:(cs y).length=n) :
    NB s.a fun b o=>(0<=x/\x<(s.n:Nat))/\(je h ⟨b,o+x.toNat*n,none⟩ m/\∀h',h'=bI h ⟨b,o+x.toNat*n,none⟩ 0 vs->K b o h'):=by
  subst hv
  have sv:=(hs.rows k hk hn).ln
  have bR:x.toNat<l.length:=by omega
  have xi:=(hs.get hk).2 (cs l[x.toNat]) (Yp.2 ⟨_,List.getElem_mem bR,rfl⟩)
  refine hs.Vz k hk hn (i:=x.toNat) (row:=cs l[x.toNat]) (by rw[Yd,Yi bR];rfl) 0 (by omega) (fun b o h' h1=>hK b o h' ?_) hm ⟨jJ,Lj⟩
  have e1:aH (cs l[x.toNat]) 0 (cs y)=cs y:=by
    unfold aH
    rw[mq,List.nil_append,List.drop_eq_nil_of_le (by omega),Yw]
  rw[e1] at h1
  rw[List.map_set]
  exact h1
theorem St.dP{h0 h:Heap}{L:List It}{b:Nat}{xs:List Value}{e:TypeId}(hs:St h0 h (.ae b xs e::L))(m n:Nat)(rows:List (List Value))(hx:xs=rows.flatten)(hr:∀r∈rows,r.length=n)(hl:rows.length=m)(hm:m<=maxLen):St h0 h (.sl ⟨some ⟨b,0,none⟩,m,m⟩ e n rows::L):=by
  have h1:Own h b xs e:=hs.get (k:=0) rfl
  subst hx
  have fJ:=aZ rows hr
  refine hs.iA (k:=0) (j:=.sl ⟨some ⟨b,0,none⟩,m,m⟩ e n rows) rfl (bc _) ⟨⟨by rw[fJ,hl],.inr ⟨b,_,rfl,Nat.zero_le _,h1,bc _,hm,?_,?_⟩⟩,hr⟩ (fun c hc=>.inr hc) (fun _ _ _=>rfl)
  . show rows.flatten.length=_
    rw[fJ,hl]
  . show rows.flatten.take (m*n)=_
    exact Yj (by rw[fJ,hl];exact bc _)
end Go.VC
end

section
namespace Go.VC
open Go.RowKit Go.Maps Go.ChangeMaps
def aU{α β:Type}[DecidableEq α]:List (α × β)->α->Option β
  | [],_=>none
  | (x,y)::r,a=>if x=a then some y else aU r a
def cC{α β:Type}[DecidableEq α]:List (α × β)->α->β->List (α × β)
  | [],a,b=>[(a,b)]
  | (x,y)::r,a,b=>if x=a then (x,b)::r else (x,y)::cC r a b
theorem jF{α β:Type}[DecidableEq α]{a:α}:∀ {l:List (α × β)},(∀q∈l,q.1≠a)->aU l a=none
  | [],_=>rfl
  | (x,y)::r,h=>by rw[aU,if_neg (h (x,y) (by simp))];exact jF fun q hq=>h q (Yn _ hq)
theorem fh{α β:Type}[DecidableEq α]{a:α}{y:β}:∀ {l:List (α × β)} {j:Nat},(l.map Prod.fst).Nodup->l[j]?=some (a,y)->aU l a=some y
  | [],j,_,h=>by simp at h
  | (x,z)::r,0,_,h=>by simp at h;rw[aU,if_pos h.1,h.2]
  | (x,z)::r,j+1,hn,h=>by
    rw[List.getElem?_cons_succ] at h
    rw[gG,List.nodup_cons] at hn
    have:x≠a:=fun e=>hn.1 (by subst e;exact Yp.2 ⟨_,Yb h,rfl⟩)
    rw[aU,if_neg this]
    exact fh hn.2 h
theorem jE{α β:Type}[DecidableEq α]{a:α}{b:β}:∀ {l:List (α × β)},(∀q∈l,q.1≠a)->cC l a b=l++[(a,b)]
  | [],_=>rfl
  | (x,y)::r,h=>by rw[cC,if_neg (h (x,y) (by simp)),jE fun q hq=>h q (Yn _ hq)];rfl
theorem jD{α β:Type}[DecidableEq α]{a:α}{y b:β}:∀ {l:List (α × β)} {j:Nat},(l.map Prod.fst).Nodup->l[j]?=some (a,y)->cC l a b=l.set j (a,b)
  | [],j,_,h=>by simp at h
  | (x,z)::r,0,_,h=>by simp at h;rw[cC,if_pos h.1,List.set_cons_zero,h.1]
  | (x,z)::r,j+1,hn,h=>by
    rw[List.getElem?_cons_succ] at h
    rw[gG,List.nodup_cons] at hn
    have:x≠a:=fun e=>hn.1 (by subst e;exact Yp.2 ⟨_,Yb h,rfl⟩)
    rw[cC,if_neg this,List.set_cons_succ,jD hn.2 h]
theorem fg{α β:Type}[DecidableEq α](a:α)(b:β):∀(l:List (α × β)) (x:α),x∈(cC l a b).map Prod.fst ↔ x∈l.map Prod.fst\/x=a
  | [],x=>by simp[cC]
  | (c,y)::r,x=>by
    rw[cC]
    split
    . rename_i h;subst h
      simp only[gG,Yr]
      constructor
      . intro h;exact .inl h
      . rintro (h | rfl)
        . exact h
        . exact .inl rfl
    . simp only[gG,Yr,fg a b r x]
      constructor
      . rintro (h | h | h)
        . exact .inl (.inl h)
        . exact .inl (.inr h)
        . exact .inr h
      . rintro ((h | h) | h)
        . exact .inl h
        . exact .inr (.inl h)
        . exact .inr (.inr h)
theorem fv{α β:Type}[DecidableEq α](a:α)(b:β):∀(l:List (α × β)),(l.map Prod.fst).Nodup->((cC l a b).map Prod.fst).Nodup
  | [],_=>by simp[cC]
  | (c,y)::r,h=>by
    rw[cC]
    split
    . exact h
    . rename_i bH
      rw[gG,List.nodup_cons] at h ⊢
      refine⟨fun hm=>?_,fv a b r h.2⟩
      rcases (fg a b r c).1 hm with h1 | h1
      . exact h.1 h1
      . exact bH h1
theorem Bn.push{es:Array MapEntry}{clock:Nat}(hb:Bn es clock)(k v:Value):Bn (es.push ⟨k,v,clock⟩) (clock+1):=by
  obtain⟨h1,h2⟩:=hb
  refine⟨fun x hx=>?_,?_⟩
  . rw[Array.toList_push] at hx
    rcases Yk.1 hx with hx | hx
    . have:=h1 x hx;omega
    . rw[Ye.1 hx];exact Nat.lt_succ_self _
  . rw[Array.toList_push,Ym,List.nodup_append]
    refine⟨h2,by simp,fun a ha c hc e=>?_⟩
    simp only[gG,List.map_nil,Ye] at hc
    obtain⟨x,hx,rfl⟩:=Yp.1 ha
    have:=h1 x hx
    omega
theorem v8{α β:Type}{f:α->β}:∀ {l:List α} {j:Nat} {a b:α},l[j]?=some a->f b=f a->(l.set j b).map f=l.map f
  | [],_,_,_,h,_=>by simp at h
  | x::r,0,a,b,h,e=>by simp at h;subst h;simp[e]
  | x::r,j+1,a,b,h,e=>by simp at h;simp[v8 h e]
theorem Bn.modify{es:Array MapEntry}{clock j:Nat}{e0:MapEntry}{k v:Value}(hb:Bn es clock){vK:Array MapEntry}(hl:vK.toList=es.toList.set j { e0 with key:=k,val:=v })(h3:es.toList[j]?=some e0):Bn vK clock:=by
  obtain⟨h1,h2⟩:=hb
  have hm:vK.toList.map (·.born)=es.toList.map (·.born):=by rw[hl];exact v8 h3 rfl
  refine⟨fun x hx=>?_,by rw[hm];exact h2⟩
  have:x.born∈vK.toList.map (·.born):=Yp.2 ⟨x,hx,rfl⟩
  rw[hm] at this
  obtain⟨y,hy,e⟩:=Yp.1 this
  rw[<-e];exact h1 y hy
theorem St.Bu{P:Program}{h0 h:Heap}{L:List It}(hs:St h0 h L)(t:TypeId){K:Value->Heap->Prop}(hK:∀h',Ext h h'->St h0 h' (.mp h.size []::L)->K (.map (some h.size)) h'):bD P (Instr.makeMap t none) h K:=by
  intro w hw
  subst hw
  have hE:Ext w.heap (w.alloc (.map #[] 0)).heap:=⟨by show _<=(w.heap.push _).size;rw[Array.size_push];omega,fun i hi=>(MapKept.heap_alloc w _).2 i hi⟩
  refine⟨_,_,run_makeMap t w,?_,rfl,rfl,rfl⟩
  refine hK _ hE (hs.more hE (i:=.mp w.heap.size []) ⟨#[],0,(MapKept.heap_alloc w _).1,rfl,fun x hx=>(by simp at hx),(by simp)⟩ fun b hb=>?_)
  cases hb;exact bc _
section
variable {α β:Type} {P:Program} {t kt e:TypeId} {ck:α->Value} {cv:β->Value} {iH:α->Prop}
structure MT (P:Program) (t kt e:TypeId) (ck:α->Value) (iH:α->Prop) (z:Value):Prop where
  K:Keyed P kt
  ht:P.underlying t=some (.map kt e)
  key:∀a,iH a->∃l,keyOf P kt (ck a)=some l
  inj:∀a a',ck a=ck a'->a=a'
  z:∀w,(zeroValue e).run P w=.ok z w
theorem uE{z:Value}(M:MT P t kt e ck iH z){l:List (α × β)}{es:Array MapEntry}(he:es.toList.map (fun e:MapEntry=>(e.key,e.val))=l.map fun q=>(ck q.1,cv q.2))(hl:∀q∈l,iH q.1){a:α}(ha:iH a)(w:World):
    ((Instr.findKey kt (ck a) es.toList).run P w=.ok none w/\∀q∈l,q.1≠a)\/∃j y e0,(Instr.findKey kt (ck a) es.toList).run P w=.ok (some (j,cv y)) w/\l[j]?=some (a,y)/\es.toList[j]?=some e0/\e0.key=ck a/\e0.val=cv y:=by
  obtain⟨lx,BM⟩:=M.key a ha
  have j4:∀(j:Nat) (e0:MapEntry),es.toList[j]?=some e0->∃q,l[j]?=some q/\e0.key=ck q.1/\e0.val=cv q.2:=fun j e0 h=>by
    have h1:=congrArg (·[j]?) he
    simp only[Yd,h,Option.map_some] at h1
    obtain⟨q,hq,h2⟩:=sH.1 h1.symm
    exact⟨q,hq,(Prod.mk.inj h2).1.symm,(Prod.mk.inj h2).2.symm⟩
  have hks:∀e0∈es.toList,∃l,keyOf P kt e0.key=some l:=fun e0 hm=>by
    obtain⟨j,hj⟩:=Yf.1 hm
    obtain⟨q,hq,h2,_⟩:=j4 j e0 hj
    rw[h2];exact M.key _ (hl q (Yb hq))
  rcases M.K.find w BM es.toList hks with ⟨h1,h2⟩ | ⟨j,e0,h1,h2,h3⟩
  . refine .inl ⟨h1,fun q hq hc=>?_⟩
    obtain⟨j,hj⟩:=Yf.1 hq
    have h4:=congrArg (·[j]?) he
    simp only[Yd,hj,Option.map_some] at h4
    obtain⟨e0,JR,h5⟩:=sH.1 h4
    exact h2 e0 (Yb JR) (by rw[(Prod.mk.inj h5).1,hc])
  . obtain⟨q,hq,h4,h5⟩:=j4 j e0 h2
    have:q.1=a:=M.inj _ _ (by rw[<-h4,h3])
    obtain⟨q1,q2⟩:=q
    cases this
    exact .inr ⟨j,q2,e0,by rw[h1,h5],hq,h2,h3,h5⟩
theorem uG[DecidableEq α]{z:Value}(M:MT P t kt e ck iH z){h:Heap}{b:Nat}{l:List (α × β)}(hk:It.ok h (.mp b (l.map fun q=>(ck q.1,cv q.2))))(hl:∀q∈l,iH q.1)(hn:(l.map Prod.fst).Nodup){a:α}(ha:iH a)(c:Bool){R:Value->Heap->Prop}
    (hR:R (match aU l a with | none=>if c then .tuple ⟨[z,.bool false]⟩ else z | some y=>if c then .tuple ⟨[cv y,.bool true]⟩ else cv y) h):bD P (Instr.lookup t (.map (some b)) (ck a) c) h R:=by
  intro w hw
  subst hw
  obtain⟨es,clock,hb,he,Lz⟩:=hk
  obtain⟨lx,BM⟩:=M.key a ha
  rcases uE (cv:=cv) M he hl ha w with ⟨h1,h2⟩ | ⟨j,y,e0,h1,h2,h3,h4,h5⟩
  . rw[jF h2] at hR
    refine⟨_,w,?_,hR,rfl,rfl,rfl⟩
    simp[Instr.lookup,run_underlying M.ht,MapKept.run_getObj_map hb,M.K.check w _ BM,h1,M.z w,Result.andThen]
  . rw[fh hn h2] at hR
    refine⟨_,w,?_,hR,rfl,rfl,rfl⟩
    simp[Instr.lookup,run_underlying M.ht,MapKept.run_getObj_map hb,M.K.check w _ BM,h1,Result.andThen]
theorem St.GH[DecidableEq α]{z:Value}(M:MT P t kt e ck iH z){h0 h:Heap}{L:List It}(hs:St h0 h L)(k:Nat){b:Nat}{l:List (α × β)}(hk:L[k]?=some (.mp b (l.map fun q=>(ck q.1,cv q.2))))(hl:∀q∈l,iH q.1)(hn:(l.map Prod.fst).Nodup){a:α}(ha:iH a)(c:Bool){R:Value->Heap->Prop}
    (hR:R (match aU l a with | none=>if c then .tuple ⟨[z,.bool false]⟩ else z | some y=>if c then .tuple ⟨[cv y,.bool true]⟩ else cv y) h):bD P (Instr.lookup t (.map (some b)) (ck a) c) h R:=
  uG M (hs.get hk) hl hn ha c hR
theorem St.Bv[DecidableEq α]{z:Value}(M:MT P t kt e ck iH z){h0 h:Heap}{L:List It}(hs:St h0 h L)(k:Nat){b:Nat}{l:List (α × β)}(hk:L[k]?=some (.mp b (l.map fun q=>(ck q.1,cv q.2))))(hl:∀q∈l,iH q.1)(hn:(l.map Prod.fst).Nodup){a:α}(ha:iH a){R:Value->Heap->Prop}
    (hR:R (.tuple ⟨[(aU l a).elim z cv,.bool (aU l a).isSome]⟩) h):bD P (Instr.lookup t (.map (some b)) (ck a) true) h R:=by
  refine hs.GH M k hk hl hn ha true ?_
  generalize aU l a=o at *
  cases o<;>exact hR
theorem St.DN[DecidableEq α]{z:Value}(M:MT P t kt e ck iH z){h0 h:Heap}{L:List It}(hs:St h0 h L)(k:Nat){b:Nat}{l:List (α × β)}(hk:L[k]?=some (.mp b (l.map fun q=>(ck q.1,cv q.2))))(hl:∀q∈l,iH q.1)(hn:(l.map Prod.fst).Nodup){a:α}(ha:iH a)(y:β){R:Unit->Heap->Prop}
    (hR:∀h',St h0 h' (L.set k (.mp b ((cC l a y).map fun q=>(ck q.1,cv q.2))))->R () h'):bD P (Instr.mapUpdate t (.map (some b)) (ck a) (cv y)) h R:=by
  intro w hw
  subst hw
  obtain⟨es,clock,hb,he,Lz⟩:=hs.get hk
  obtain⟨lx,BM⟩:=M.key a ha
  have fin:∀(vK:Array MapEntry) (fF:Nat),vK.toList.map (fun e:MapEntry=>(e.key,e.val))=((cC l a y).map fun q=>(ck q.1,cv q.2))->Bn vK fF->R () (setBlock w b (.map vK fF)).heap:=by
    intro vK fF Lu acR
    refine hR _ (hs.iA hk (j:=.mp b ((cC l a y).map fun q=>(ck q.1,cv q.2))) ?_ ⟨vK,fF,heap_setBlock_same hb _,Lu,acR⟩ (fun c hc=>.inr hc) fun c _ hc=>heap_setBlock_other hb _ fun e=>hc (by rw[e];rfl))
    show w.heap.size<=(w.heap.setIfInBounds b _).size
    rw[Array.size_setIfInBounds];exact bc _
  rcases uE (cv:=cv) M he hl ha w with ⟨h1,h2⟩ | ⟨j,y0,e0,h1,h2,h3,h4,h5⟩
  . refine⟨(),setBlock w b (.map (es.push ⟨ck a,cv y,clock⟩) (clock+1)),?_,fin _ _ ?_ (Lz.push _ _),rfl,rfl,rfl⟩
    . simp[Instr.mapUpdate,run_underlying M.ht,MapKept.run_getObj_map hb,M.K.check w false BM,h1,MapKept.run_setObj_map _ hb,Result.andThen,setBlock]
    . rw[jE h2,Array.toList_push,Ym,he,Ym];rfl
  . have hj:es[j]?=some e0:=by simpa using h3
    have xm:(es.modify j (fun e'=>{ e' with key:=ck a,val:=cv y })).toList=es.toList.set j { e0 with key:=ck a,val:=cv y }:=by rw[Array.toList_modify,modify_eq_set _ _ _ _ h3]
    refine⟨(),setBlock w b (.map (es.modify j (fun e'=>{ e' with key:=ck a,val:=cv y })) clock),?_,fin _ _ ?_ (Lz.modify xm h3),rfl,rfl,rfl⟩
    . simp[Instr.mapUpdate,run_underlying M.ht,MapKept.run_getObj_map hb,M.K.check w false BM,h1,hj,h4,M.K.stays w BM,MapKept.run_setObj_map _ hb,Result.andThen,setBlock]
    . rw[jD hn h2,xm,List.map_set,he,List.map_set]
theorem find_born{l:List MapEntry}(hn:(l.map (·.born)).Nodup){j:Nat}{e0:MapEntry}(h:l[j]?=some e0):l.findIdx? (fun e=>((e.born:Nat):Int)==((e0.born:Nat):Int))=some j:=by
  induction l generalizing j with
  | nil=>simp at h
  | cons a r ih=>
    rw[gG,List.nodup_cons] at hn
    cases j with
    | zero=>
      rw[List.getElem?_cons_zero] at h;cases h
      rw[List.findIdx?_cons,beq_self_eq_true];rfl
    | succ j=>
      rw[List.getElem?_cons_succ] at h
      have bH:a.born≠e0.born:=fun e1=>hn.1 (Yp.2 ⟨e0,Yb h,e1.symm⟩)
      have hb:(((a.born:Nat):Int)==((e0.born:Nat):Int))=false:=by
        simp only[beq_eq_false_iff_ne,ne_eq,Int.natCast_inj]
        exact bH
      rw[List.findIdx?_cons,hb,ih hn.2 h];rfl
theorem qV{es:Array MapEntry}(hn:(es.toList.map (·.born)).Nodup){j:Nat}{e0:MapEntry}(h:es.toList[j]?=some e0):es.findIdx? (fun e=>((e.born:Nat):Int)==((e0.born:Nat):Int))=some j:=by
  rw[<-find_born hn h];cases es;simp
def Stm[DecidableEq α](P:Program)(t:TypeId)(ck:α->Value)(cv:β->Value)(b:Nat)(o:Obj)(st:Int)(l:List (α × β))(a:α):Prop:=
  ∀(w2:World) (y:β),w2.heap[b]?=some o->∃vK fF,(Instr.entryStore t (.map (some b)) (goInt st) (cv y)).run P w2=.ok () (setBlock w2 b (.map vK fF))/\vK.toList.map (fun e:MapEntry=>(e.key,e.val))=((cC l a y).map fun q=>(ck q.1,cv q.2))/\Bn vK fF
theorem St.OS[DecidableEq α]{z:Value}(M:MT P t kt e ck iH z){h0 h:Heap}{L:List It}(hs:St h0 h L)(k:Nat){b:Nat}{l:List (α × β)}(hk:L[k]?=some (.mp b (l.map fun q=>(ck q.1,cv q.2))))(hl:∀q∈l,iH q.1)(hn:(l.map Prod.fst).Nodup){a:α}(ha:iH a){R:Value->Heap->Prop}
    (hR:∀(st:Int) (o:Obj) (h':Heap),St h0 h' (L.set k (.raw b o))->Stm P t ck cv b o st l a->R (.tuple ⟨[(aU l a).elim z cv,.int .i64 st]⟩) h'):bD P (Instr.mapEntry t (.map (some b)) (ck a)) h R:=by
  intro w hw
  subst hw
  obtain⟨es,clock,hb,he,Lz⟩:=hs.get hk
  obtain⟨lx,BM⟩:=M.key a ha
  have iA:∀o:Obj,St h0 (setBlock w b o).heap (L.set k (.raw b o)):=fun o=>by
    refine hs.iA hk (j:=.raw b o) ?_ (heap_setBlock_same hb _) (fun c hc=>.inr hc) fun c _ hc=>heap_setBlock_other hb _ fun e=>hc (by rw[e];rfl)
    show w.heap.size<=(w.heap.setIfInBounds b _).size
    rw[Array.size_setIfInBounds];exact bc _
  rcases uE (cv:=cv) M he hl ha w with ⟨h1,h2⟩ | ⟨j,y0,e0,h1,h2,h3,h4,h5⟩
  . refine⟨.tuple #[z,goInt clock],setBlock w b (.map (es.push ⟨ck a,z,clock⟩) (clock+1)),?_,?_,rfl,rfl,rfl⟩
    . simp[Instr.mapEntry,run_underlying M.ht,MapKept.run_getObj_map hb,M.K.check w false BM,h1,M.z w,MapKept.run_setObj_map _ hb,Result.andThen,setBlock]
    . have h6:=hR clock _ _ (iA (.map (es.push ⟨ck a,z,clock⟩) (clock+1))) ?_
      . rw[jF h2] at h6;exact h6
      . intro w2 y D3
        have uL:(es.push ⟨ck a,z,clock⟩).findIdx? (fun e=>((e.born:Nat):Int)==((clock:Nat):Int))=some es.size:=
          qV (es:=es.push ⟨ck a,z,clock⟩) (e0:=⟨ck a,z,clock⟩) (Lz.push _ _).2 (by simp)
        have Ea:(es.push ⟨ck a,z,clock⟩).modify es.size (fun e=>{ e with val:=cv y })=es.push ⟨ck a,cv y,clock⟩:=by
          apply Array.ext'
          rw[Array.toList_modify,Array.toList_push,Array.toList_push,<-Array.length_toList]
          rw[modify_eq_set _ _ _ _ (show (es.toList++[(⟨ck a,z,clock⟩:MapEntry)])[es.toList.length]?=some ⟨ck a,z,clock⟩ by simp)]
          simp
        refine⟨es.push ⟨ck a,cv y,clock⟩,clock+1,?_,?_,Lz.push _ _⟩
        . simp[Instr.entryStore,MapKept.run_getObj_map D3,asInt,asIntOf,goInt,uL,Ea,MapKept.run_setObj_map _ D3,Result.andThen,setBlock]
        . rw[jE h2,Array.toList_push,Ym,he,Ym];rfl
  . have hj:es[j]?=some e0:=by simpa using h3
    have tn:es.modify j (fun e=>{ e with key:=ck a })=es:=by
      apply Array.ext'
      rw[Array.toList_modify,modify_eq_set _ _ _ _ h3]
      have:({ e0 with key:=ck a }:MapEntry)=e0:=by rw[<-h4]
      rw[this]
      obtain⟨xn,ig⟩:=Ya.1 h3
      rw[<-ig,List.set_getElem_self xn]
    refine⟨.tuple #[cv y0,goInt e0.born],setBlock w b (.map es clock),?_,?_,rfl,rfl,rfl⟩
    . simp[Instr.mapEntry,run_underlying M.ht,MapKept.run_getObj_map hb,M.K.check w false BM,h1,hj,h4,M.K.stays w BM,tn,MapKept.run_setObj_map _ hb,Result.andThen,setBlock]
    . have h6:=hR e0.born _ _ (iA (.map es clock)) ?_
      . rw[fh hn h2] at h6;exact h6
      . intro w2 y D3
        have uL:=qV Lz.2 h3
        have xm:(es.modify j (fun e'=>{ e' with val:=cv y })).toList=es.toList.set j { e0 with key:=ck a,val:=cv y }:=by rw[Array.toList_modify,modify_eq_set _ _ _ _ h3,<-h4]
        refine⟨es.modify j (fun e'=>{ e' with val:=cv y }),clock,?_,?_,Lz.modify xm h3⟩
        . simp[Instr.entryStore,MapKept.run_getObj_map D3,asInt,asIntOf,goInt,uL,MapKept.run_setObj_map _ D3,Result.andThen,setBlock]
        . rw[jD hn h2,xm,List.map_set,he,List.map_set]
theorem St.GC[DecidableEq α]{h0 h:Heap}{L:List It}(hs:St h0 h L)(k:Nat){b:Nat}{o:Obj}{l:List (α × β)}{a:α}{st:Int}(hk:L[k]?=some (.raw b o))(hm:Stm P t ck cv b o st l a)(y:β){R:Unit->Heap->Prop}
    (hR:∀h',St h0 h' (L.set k (.mp b ((cC l a y).map fun q=>(ck q.1,cv q.2))))->R () h'):bD P (Instr.entryStore t (.map (some b)) (.int .i64 st) (cv y)) h R:=by
  intro w hw
  subst hw
  have hb:w.heap[b]?=some o:=hs.get hk
  obtain⟨vK,fF,h1,h2,h3⟩:=hm w y hb
  have yA:b<w.heap.size:=(yH.1 hb).1
  have BH:(setBlock w b (.map vK fF)).heap[b]?=some (.map vK fF):=by
    show (w.heap.setIfInBounds b _)[b]?=_
    rw[Array.getElem?_setIfInBounds_self_of_lt yA]
  refine⟨(),_,h1,hR _ (hs.iA hk (j:=.mp b ((cC l a y).map fun q=>(ck q.1,cv q.2))) ?_ ⟨vK,fF,BH,h2,h3⟩ (fun c hc=>.inr hc) fun c _ hc=>?_),rfl,rfl,rfl⟩
  case refine_2=>
    show (w.heap.setIfInBounds b _)[c]?=_
    rw[Array.getElem?_setIfInBounds_ne (fun e=>hc (by rw[<-e];rfl))]
  show w.heap.size<=(w.heap.setIfInBounds b _).size
  rw[Array.size_setIfInBounds];exact bc _
end
end Go.VC
end

section
namespace Go.VC
theorem EF{α:Type}:∀(q:Ask α) (w:World),w.drawn<=(w.ask q).2.drawn:=by
  intro q
  induction q with
  | done a=>intro w;exact bc _
  | ask what range k ih=>
    intro w
    unfold World.ask
    simp only
    split
    . exact ih _ w
    . exact mn (Nat.le_succ _) (ih _ { w with drawn:=w.drawn+1 })
theorem Da(w:World)(c:Sys):w.drawn<=(w.sys c).2.drawn:=by
  have h:=EF (Kernel.perform c w.os) w
  unfold World.sys
  generalize w.ask (Kernel.perform c w.os)=r at h
  obtain⟨⟨a,os⟩,w'⟩:=r
  split
  . exact bc _
  . rename_i e;cases e;exact h
theorem oD{p:Program}{w:World}{at_:Addr}{u:TypeId}{k:Addr}{v:Value}{b:Bool}{w':World}{l:List Addr}(h:w.viewStore p at_ u k v b=.ok (w',l)):w'.drawn=w.drawn:=by
  unfold World.viewStore at h
  simp only[bind,Except.bind,pure,Except.pure] at h
  repeat' split at h
  all_goals first | (cases h;done) | (cases h;rfl) | skip
theorem qZ{p:Program}{w:World}{a:Addr}{v:Value}{b:Bool}{w':World}{l:List Addr}(h:w.farStore p a v b=.ok (w',l)):w'.drawn=w.drawn:=by
  unfold World.farStore at h
  repeat' split at h
  all_goals first | (cases h;done) | skip
  rename_i r hr
  cases h
  exact oD hr
theorem Dp{α:Type}(s:Sem α)(P:Program):∀(w:World) (v:α) (w':World),s.run P w=.ok v w'->w.drawn<=w'.drawn:=by
  induction s with
  | pure a=>intro w v w' h;cases h;exact bc _
  | load m a k ih=>
    intro w v w' h
    unfold Sem.run at h
    repeat' split at h
    all_goals first | exact ih _ w v w' h | (cases h;done)
  | store m a u k ih=>
    intro w v w' h
    cases u<;>simp only[Sem.run] at h<;>(first | (cases h;done) | skip)<;>(repeat' split at h) <;>
      first
        | (cases h;done)
        | exact ih (w.setCell a _) v w' h
        | (rename_i hf;exact (qZ hf) ▸ ih _ v w' h)
  | new o k ih=>intro w v w' h;exact ih _ { w with heap:=w.heap.push o } v w' h
  | shape r k ih=>intro w v w' h;exact ih _ w v w' h
  | freeze a n k ih=>
    intro w v w' h
    have:=ih (w.freeze a n) v w' h
    unfold World.freeze at this
    split at this<;>exact this
  | frozen a k ih=>intro w v w' h;exact ih _ w v w' h
  | getObj r k ih=>
    intro w v w' h
    unfold Sem.run at h
    repeat' split at h
    all_goals first | exact ih _ w v w' h | (cases h;done)
  | setObj r o k ih=>
    intro w v w' h
    unfold Sem.run at h
    repeat' split at h
    all_goals first | exact ih { w with heap:=w.heap.setIfInBounds r o } v w' h | (cases h;done)
  | choose q k ih=>
    intro w v w' h
    unfold Sem.run at h
    split at h
    . exact ih _ w v w' h
    . exact mn (Nat.le_succ _) (ih _ { w with drawn:=w.drawn+1 } v w' h)
  | sys c k ih=>
    intro w v w' h
    exact mn (Da w c) (ih _ (w.sys c).2 v w' h)
  | program k ih=>intro w v w' h;exact ih _ w v w' h
  | mark m k ih=>intro w v w' h;exact ih w v w' h
  | halt h0=>intro w v w' h;cases h
abbrev gL:aB:=⟨fun w w'=>w.drawn<=w'.drawn,fun _=>bc _,mn,fun _ _=>bc _,fun _=>Nat.le_succ _,fun s P w v w' h=>Dp s P w v w' h⟩
end Go.VC
end

section
namespace Go.VC
open Go.Proofs Go.Shelf Go.RowKit Go.Lib Go.Sort
theorem Ew{P:Program}{g:FuncId}{args:Array Value}{v:Value}{W:World}
    (hc:@Fn gL P g args W.heap fun u h'=>u=v/\Ext W.heap h') :
    Calls P g args W fun e w'=>e=.returned v/\∃q os',w'=grow (W.drewN q) os':=by
  refine (hc W rfl).mono ?_
  rintro e w' ⟨_,rfl,⟨rfl,hE⟩,h1,h2,h3,h4⟩
  refine⟨rfl,w'.drawn-W.drawn,w'.heap.extract W.heap.size w'.heap.size,?_⟩
  replace h4:W.drawn<=w'.drawn:=h4
  obtain⟨hp,tp,dr,os,ou⟩:=w'
  obtain⟨tq,tp0,dr0,os0,ou0⟩:=W
  simp only at h1 h2 h3 h4 hE
  subst h1 h2 h3
  unfold Sort.grow World.drewN
  simp only[World.mk.injEq,and_true,true_and]
  refine⟨?_,by omega⟩
  apply Array.ext_getElem?
  intro i
  rw[Array.getElem?_append]
  by_cases hi:i<tq.size
  . rw[if_pos hi];exact hE.2 i hi
  . rw[if_neg hi,Array.getElem?_extract]
    by_cases hj:i<hp.size
    . rw[if_pos (by omega)];congr 1;omega
    . rw[if_neg (by omega)];exact Array.getElem?_eq_none (by omega)
theorem wi{α:Type}[Inhabited α]{enc:α->List Value}{k:Nat}(l:List α){t:Nat}(ht:t<l.length*k)(hl:∀x,(enc x).length=k):
    (l.map enc).flatten[t]?=some ((enc l.toArray[t/k]!)[t%k]!):=by
  have hk:0<k:=by rcases Nat.eq_zero_or_pos k with h | h;(subst h;simp at ht);exact h
  have hi:t/k<l.length:=Nat.div_lt_of_lt_mul (by rwa [Nat.mul_comm] at ht)
  have hm:t%k<k:=Nat.mod_lt _ hk
  have he:l.toArray[t/k]! = l[t/k]:=by simp[hi]
  have h1:=getElem?_flatten (k:=k) (l.map enc) (t/k) (t%k) (enc l[t/k]) (fun r hr=>by obtain⟨x,_,rfl⟩:=Yp.1 hr;exact hl x) (by rw[Yd,Yi hi];rfl) hm
  rw[show t/k*k+t%k=t by rw[Nat.mul_comm];exact Nat.div_add_mod t k] at h1
  rw[h1,he,Yi (by rw[hl];exact hm),getElem!_pos _ _ (by rw[hl];exact hm)]
theorem v7{α:Type}[Inhabited α]{lt:α->α->Bool}{d:Array α}(h:SortedIn lt 0 d.size d):d.toList.Pairwise fun a b=>lt b a=false:=by
  rw[List.pairwise_iff_getElem]
  intro i j hi hj hij
  have:=h i j (Nat.zero_le _) hij (by simpa using hj)
  rw[getElem!_pos d i (by simpa using hi),getElem!_pos d j (by simpa using hj)] at this
  simpa using this
theorem p6{P:Program}{ρ:Ren}{α:Type}[Inhabited α](L:SlLaysF0.n6 P ρ)(k:Nat)(e:TypeId)(aE:∀w,(isAgg (ρ.t 24)).run P w=.ok true w)(zE:∀w,(Go.sizeOf (ρ.t 24)).run P w=.ok k w)
    (enc:α->List Value) (hl:∀x,(enc x).length=k) (h1:∀x,∀v∈enc x,v.oneCell'=true) (cf:α->α->Int) (hO:SWO (ltOf cf)) (g:Nat)
    (eg:∀args w,(callFunc g args).run P w=.ok (.enter g args) w)
    (acQ:∀(x y:α) (h:Heap),@Fn gL P g #[.agg ⟨enc x⟩,.agg ⟨enc y⟩] h fun v h'=>v=.int .i64 (cf x y)/\Ext h h')
    {h0 h:Heap} {Ls:List It} (hs:St h0 h Ls) (i:Nat) {s:Sl} {l:List α} (hi:Ls[i]?=some (.sl s e k (l.map enc))) (Fg:0<k) (hm:l.length<4611686018427387904) :
    Fn P (ρ.f 6) #[.slice s.a s.n s.c,.func (.func g) #[] #[]] h fun v h'=>v=.tuple ⟨[]⟩/\∃l':List α,l'.Perm l/\l'.Pairwise (fun a b=>ltOf cf b a=false)/\St h0 h' (Ls.set i (.sl s e k (l'.map enc))):=by
  intro w hw
  subst hw
  have j4:=hs.get hi
  have jX:=hs.rw i hi Fg
  have hn:s.n=l.length:=by have:=jX.1;simpa using this
  have ep:Ls.set i (.sl s e k (l.map enc))=Ls:=by
    obtain⟨a,b⟩:=Ya.1 hi
    rw[<-b];exact List.set_getElem_self a
  rcases j4.1.2 with ⟨ha,vG,fV⟩ | ⟨b,cur,ha,Eh,hh,D7,BV,fA,VT⟩
  . have rK:l=[]:=List.length_eq_zero_iff.1 (by omega)
    rw[ha,vG,fV]
    refine (AnyF.slices_SortFunc_none L none ((0:Nat):Nat) (.func (.func g) #[] #[]) w).mono ?_
    rintro e' w' ⟨rfl,rfl⟩
    refine⟨_,rfl,⟨rfl,l,List.Perm.refl _,by rw[rK];exact List.Pairwise.nil,?_⟩,rfl,rfl,rfl,trivial⟩
    rw[ep];exact hs
  . have hblk:b<w.heap.size:=(yH.1 hh).1
    have hkm:s.n*k<=s.c*k:=Nat.mul_le_mul_right _ D7
    have NH:∀t,t<s.n*k->cur[t]?=some ((enc l.toArray[t/k]!)[t%k]!):=by
      intro t ht
      have h2:=wi (enc:=enc) (k:=k) l (t:=t) (by rw[<-hn];exact ht) hl
      rw[<-VT,tQ,if_pos ht] at h2
      simpa using h2
    have hH:HoldsK enc k w b 0 l.toArray:=by
      intro t ht
      rw[size_flatK] at ht
      have JO:t<s.n*k:=by rw[hn];simpa using ht
      refine⟨?_,?_⟩
      . rw[get_flatK _ _ _ _ ht]
        unfold World.cell?
        simp only[hh,Nat.zero_add]
        rw[NH t JO];rfl
      . unfold World.frozen?
        simp only[hh]
        simp
    have WH:=AnyQ.slices_SortFunc L k aE zE enc hl h1 cf hO g #[] b 0 s.c l.toArray w eg
      (fun m os dk _ x y=>by
        have:=Ew (P:=P) (g:=g) (args:=#[.agg (enc x).toArray,.agg (enc y).toArray] ++ #[]) (W:=sortWorldK enc k w b 0 m dk os) (v:=.int .i64 (cf x y)) (by simpa using acQ x y _)
        exact this) hH hblk (by simpa using hm)
    have PR:(l.toArray.size:Nat)=s.n:=by rw[hn];simp
    rw[PR] at WH
    rw[ha]
    refine WH.mono ?_
    rintro e' w' ⟨rfl,d',n,os,hp,hsd,rfl⟩
    have Ll:d'.size=s.n:=by rw[hp.1];exact PR
    have V8:d'.toList.Perm l:=by
      have h2:=hp.2.2
      rw[<-PR,show d'.extract 0 l.toArray.size=d' by rw[<-hp.1];simp,show l.toArray.extract 0 l.toArray.size=l.toArray by simp] at h2
      exact h2
    have Hk:d'.toList.length=s.n:=by simpa using Ll
    refine⟨_,rfl,⟨rfl,d'.toList,V8,v7 (by rw[Ll];exact hsd),?_⟩,rfl,rfl,rfl,trivial⟩
    have Hu:(sortWorldK enc k w b 0 n d' os).heap[b]?=some (.cells (putCells id 0 (flatK enc k d') cur) e (0,0)):=by
      unfold sortWorldK Sort.grow putRowK putRow mapBlock
      show ((w.heap.modify b _)++os)[b]?=_
      rw[Array.getElem?_append_left (by simpa using hblk),Array.getElem?_modify,if_pos rfl,hh]
      rfl
    have Pk:∀c,c<w.heap.size->c≠b->(sortWorldK enc k w b 0 n d' os).heap[c]?=w.heap[c]?:=by
      intro c hc bH
      unfold sortWorldK Sort.grow putRowK putRow mapBlock
      show ((w.heap.modify b _)++os)[c]?=_
      rw[Array.getElem?_append_left (by simpa using hc),Array.getElem?_modify,if_neg (fun e=>bH e.symm)]
    refine hs.iA hi (by
        unfold sortWorldK Sort.grow putRowK putRow mapBlock
        show _<=((w.heap.modify b _)++os).size
        rw[Array.size_append,Array.size_modify]
        exact Nat.le_add_right _ _) (j:=.sl s e k (d'.toList.map enc)) ?_ (fun c hc=>.inr hc) (fun c hc bH=>Pk c hc fun e=>bH (by subst e;show s.a.map (·.block)=_;rw[ha];rfl))
    refine⟨⟨?_,.inr ⟨b,_,ha,Nat.zero_le _,Hu,D7,BV,by rw[<-fA];simp[putCells],?_⟩⟩,fun r hr=>by obtain⟨x,_,rfl⟩:=Yp.1 hr;exact hl x⟩
    . rw[aZ (k:=k) _ (fun r hr=>by obtain⟨x,_,rfl⟩:=Yp.1 hr;exact hl x),Yc,Hk]
    . apply yG
      intro t
      rw[tQ]
      by_cases ht:t<s.n*k
      . rw[if_pos ht,wi d'.toList (by rw[Hk];exact ht) hl]
        have hc:=NH t ht
        simp only[putCells,Array.getElem?_toList,Array.getElem?_mapIdx,hc,Option.map_some]
        rw[if_pos ⟨Nat.zero_le _,by rw[size_flatK,Ll];omega⟩,Nat.sub_zero,get_flatK _ _ _ _ (by rw[Ll];exact ht)]
        rfl
      . rw[if_neg ht,Yl (by rw[aZ (k:=k) _ (fun r hr=>by obtain⟨x,_,rfl⟩:=Yp.1 hr;exact hl x),Yc,Hk];omega)]
end Go.VC
end

section
namespace Go.VC
open Go.RowKit
theorem mI{b o i c k:Nat}(h:i<c):aQ (some ⟨b,o,none⟩) i c k=some ⟨b,o+i*k,none⟩:=by
  unfold aQ
  rw[if_neg (by omega)]
  show some ((⟨b,o,none⟩:Addr).add (i*k))=_
  rw[show (⟨b,o,none⟩:Addr).add (i*k)=⟨b,o+i*k,none⟩ from Co _ _ _]
theorem Rw.from{h:Heap}{k:Nat}{s:Sl}{rows:List (List Value)}(hr:Rw h k s rows){i:Nat}(hc:s.n<=s.c)(hi:i<s.n):Rw h k ⟨aQ s.a i s.c k,s.n-i,s.c-i⟩ (rows.drop i):=by
  obtain⟨h1,h2⟩:=hr
  refine⟨by rw[List.length_drop];show s.n-i=_;omega,fun _=>?_⟩
  obtain⟨b,o,ha,Hw⟩:=h2 (by omega)
  refine⟨b,o+i*k,by rw[ha];exact mI (by omega),fun j row hj=>?_⟩
  rw[List.getElem?_drop] at hj
  have:=Hw (i+j) row hj
  rw[Nat.add_mul,<-Nat.add_assoc] at this
  exact this
theorem fX(z:Array Value)(n:Nat):(Builtin.zeroCells z n).toList.length=n*z.size:=by
  simp[Builtin.zeroCells]
theorem rY{z:Array Value}{n:Nat}{v:Value}(h:v∈(Builtin.zeroCells z n).toList)(hz:0<z.size):v∈z.toList:=by
  simp only[Builtin.zeroCells] at h
  simp only[Array.mem_toList_iff,Array.mem_map] at h
  obtain⟨i,_,rfl⟩:=h
  rw[getElem!_pos z _ (Nat.mod_lt _ hz)]
  simp
theorem St.clear{P:Program}{h0 h:Heap}{L:List It}(hs:St h0 h L)(k:Nat){s:Sl}{e:TypeId}{n:Nat}{rows:List (List Value)}(hk:L[k]?=some (.sl s e n rows))(hn:0<n)(i:Nat)(hi:i<=s.n){t ty e2:TypeId}{z:Value}
    (hu:P.underlying t=some (.slice e2)) (hz:∀w,(zeroValue e2).run P w=.ok z w) (hzn:z.cells.size=n) (DX:z.cells.toList.all dR=true) {K:Value->Heap->Prop}
    (hK:∀v h',St h0 h' (L.set k (.sl ⟨s.a,i,s.c⟩ e n (rows.take i)))->K v h'):bD P (Builtin.clear_ #[t] ty #[.slice (aQ s.a i s.c n) (s.n-i) (s.c-i)]) h K:=by
  intro w hw
  subst hw
  have j4:=hs.get hk
  have sv:=(hs.rw k hk hn).1
  have xq:=j4.1.cap
  by_cases cN:i=s.n
  . refine⟨.tuple #[],w,?_,hK _ _ ?_,rfl,rfl,rfl⟩
    . rw[show s.n-i=0 by omega]
      cases aQ s.a i s.c n<;>simp[Builtin.clear_,run_underlying hu]
    . have e1:rows.take i=rows:=Yj (by omega)
      have e2:(⟨s.a,i,s.c⟩:Sl)=s:=by rw[cN]
      rw[e1,e2]
      obtain⟨a,b⟩:=Ya.1 hk
      rw[<-b,List.set_getElem_self a];exact hs
  . have bR:i<s.n:=by omega
    rcases j4.1.2 with ⟨_,vG,_⟩ | ⟨g,cur,ha,Eh,hh,D7,BV,fA,VT⟩
    . omega
    . have hm:(s.n-i)*n+i*n=s.n*n:=by rw[<-Nat.add_mul];congr 1;omega
      have hmc:s.n*n<=s.c*n:=Nat.mul_le_mul_right _ D7
      have Pc:aQ s.a i s.c n=some ⟨g,0+i*n,none⟩:=by rw[ha];exact mI (by omega)
      have hlen:=fX z.cells (s.n-i)
      rw[hzn] at hlen
      have sq:(Builtin.zeroCells z.cells (s.n-i)).toList.all dR=true:=by
        rw[List.all_eq_true] at DX ⊢
        exact fun v hv=>DX v (rY hv (by omega))
      have nu:Own w.heap g cur.toList e:=by unfold Own;rw[hh]
      have lR:=nu.je (o:=0+i*n) (n:=(Builtin.zeroCells z.cells (s.n-i)).toList.length) (by rw[hlen];simp;omega)
      obtain⟨w',hr,hh',hf⟩:=fm (P:=P) (a:=⟨g,0+i*n,none⟩) (Builtin.zeroCells z.cells (s.n-i)).toList 0 w sq (fun j hj=>by rw[show 0+j=j from Nat.zero_add j];exact lR j hj)
      have Ny:=Own.bI (o:=0+i*n) (Builtin.zeroCells z.cells (s.n-i)).toList 0 w.heap cur.toList nu (by rw[hlen];simp;omega)
      have PH:=kr.bI (a:=⟨g,0+i*n,none⟩) (Builtin.zeroCells z.cells (s.n-i)).toList 0 w.heap
      rw[<-hh'] at Ny PH
      refine⟨.tuple #[],w',?_,hK _ _ ?_,hf.1,hf.2.1,hf.2.2.1⟩
      . rw[Pc]
        obtain⟨m,hm⟩:∃m,s.n-i=m+1:=⟨s.n-i-1,by omega⟩
        rw[hm] at hr ⊢
        simp only[Nat.zero_add] at hr
        simp[Builtin.clear_,run_underlying hu,hz,hr]
      . refine hs.iA hk (by rw[PH.1];exact bc _) (j:=.sl ⟨s.a,i,s.c⟩ e n (rows.take i)) ?_ (fun b hb=>.inr hb) (fun b hb bH=>PH.2 b fun e=>bH (by subst e;show s.a.map (·.block)=_;rw[ha];rfl))
        have xi:∀r∈rows.take i,r.length=n:=fun r hr=>j4.2 r (List.mem_of_mem_take hr)
        refine⟨⟨by rw[aZ _ xi,Yu];show min i rows.length*n=i*n;rw[Nat.min_eq_left (by omega)],.inr ⟨g,_,ha,Nat.zero_le _,Ny,by show i<=s.c;omega,BV,?_,?_⟩⟩,xi⟩
        . show (aH _ _ _).length=s.c*n
          rw[<-fA]
          have:0+i*n+0+(Builtin.zeroCells z.cells (s.n-i)).toList.length<=cur.toList.length:=by rw[hlen];simp;omega
          unfold aH
          simp only[Yh,Yu,List.length_drop,Array.length_toList] at this ⊢
          omega
        . show (aH cur.toList (0+i*n+0) _).take (i*n)=_
          have h3:(rows.take i).flatten=rows.flatten.take (i*n):=by
            have h5:rows=rows.take i++rows.drop i:=(List.take_append_drop i rows).symm
            rw[congrArg List.flatten h5,List.flatten_append,S6 (by rw[aZ _ xi,Yu,Nat.min_eq_left (by omega)];exact bc _)]
            rw[Yj (l:=(rows.take i).flatten) (by rw[aZ _ xi,Yu,Nat.min_eq_left (by omega)];exact bc _)]
          rw[h3,<-VT,List.take_take,Nat.min_eq_left (by omega)]
          unfold aH
          rw[Yz,S6 (by rw[Yu,Array.length_toList];omega),List.take_take,Nat.min_eq_left (by omega)]
theorem C5{P:Program}{t u e:TypeId}(hu:P.underlying t=some (.slice e))(hs:(P.info? e).map (·.size)=some 1){h:Heap}{b o QD XR:Nat}{xs:List Value}{ty:TypeId}(ho:Own h b xs ty)
    {g2 o2 qd Dk:Nat} {l:List Value} (hn:l.length=min qd QD) (aco:∀(j:Nat) (c:Value),l[j]?=some c->hc h ⟨g2,o2+j,none⟩=some c) (uM:o+l.length<=xs.length) (h1:∀v∈l,v.oneCell'=true)
    {K:Int->Heap->Prop} (hK:∀h',kr b h h'->Own h' b (aH xs o l) ty->K l.length h') :
    Cpy P t u (.slice (some ⟨b,o,none⟩) QD XR) (.slice (some ⟨g2,o2,none⟩) qd Dk) h K:=by
  intro ty' w hw
  subst hw
  have gl:=run_copy_row (P:=P) w t u ty' e b o QD XR ⟨g2,o2,none⟩ qd Dk ⟨xs⟩ ty l hu hs ho hn
    (fun j v hj=>by
      have e:(⟨g2,o2,none⟩:Addr).add j=⟨g2,o2+j,none⟩:=Co _ _ _
      rw[e];exact aco j v hj)
    (by simp;omega) h1
  obtain⟨h2,h3⟩:=p7 (ys:=aH xs o l) ho
  exact⟨_,_,gl,⟨l.length,rfl,hK _ h3 h2⟩,rfl,rfl,rfl⟩
end Go.VC
end

section
namespace Go.VC
open Go.RowKit
variable {F:Fence} {n:Nat} {P:Program}
end Go.VC
end

section
namespace Go.VC
open Go.ChangeShapes Go.WideShapes Go.RowKit
def fieldAt(P:Program)(t:TypeId)(i:Nat):Option (TypeId × Nat):=match P.underlying t with
  | some (.struct fs)=>(fs[i]?).map fun f=>(f.type,f.offset)
  | _=>none
theorem vp.field{P:Program}{W:World}{t ft:TypeId}{cs:List Value}{i off:Nat}(h:vp P W t cs)(hf:fieldAt P t i=some (ft,off)):vp P W ft ((cs.drop off).take (P.cellsOf ft)):=by
  unfold fieldAt at hf
  split at hf
  . rename_i fs hu
    obtain⟨f,h1,h2⟩:=sH.1 hf
    cases h2
    exact (h.struct hu).2 i f h1
  . cases hf
theorem vp.HK{P:Program}{W:World}{t ft:TypeId}{cs:List Value}{i off:Nat}(h:vp P W t cs)(hf:fieldAt P t i=some (ft,off)):cs.length=P.cellsOf t:=by
  unfold fieldAt at hf
  split at hf
  . rename_i fs hu;exact (h.struct hu).1
  . cases hf
theorem vp.array{P:Program}{W:World}{t e:TypeId}{n:Nat}{cs:List Value}(ht:P.underlying t=some (.array n e))(h:vp P W t cs):
    cs.length=P.cellsOf t/\∀i,i<n->vp P W e ((cs.drop (i*P.cellsOf e)).take (P.cellsOf e)):=by
  obtain⟨H,enc,m,x,h⟩:=h
  obtain⟨xs,k,_,_,hl,hx,hf⟩:=DataW.trod_array ht h
  refine⟨hl,fun i hi=>?_⟩
  exact⟨H,enc,k,xs[i]'(by omega),by rw[hf i hi,Yi (by omega)]⟩
theorem yX{P:Program}{w:World}{r:Reach}{base:Nat}{t:TypeId}{v:Value}(ht:kW P t=true)(h:Value.okWide P w r base t v):∃cs,v=.agg cs:=by
  unfold kW at ht
  unfold Value.okWide at h
  split at ht
  . rename_i hu;simp only[hu] at h;obtain⟨cs,h1,_⟩:=h;exact⟨cs,h1⟩
  . rename_i hu;simp only[hu] at h;obtain⟨cs,h1,_⟩:=h;exact⟨cs,h1⟩
  . cases ht
/-! ### with the weights: no slice is greater than the reach -/
end Go.VC
end
