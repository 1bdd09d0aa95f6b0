/- VcEnd VcOpen VcRow VcCopy VcSt VcSt2 VcMap VcMono VcSort VcClr VcRange VcArgs. -/
import Derived.Test.YtajglkbckhgboaaGreatDoorIM01
import Derived.ChangeSame
import Derived.ChangeMaps5
import Derived.JoinedOf
import Derived.JoinedAt
import Derived.RowKit3
import Derived.ProofKit
import Derived.OpenShut
import Derived.Carry
import Derived.ChangeArms
import Derived.Laws.IdiomStrings
import Derived.Lib.BufferRead
import Derived.Laws.CopyRow
import Derived.Lib.BufferWrite
import Derived.Lib.MakeNoZero
import Derived.Lib.AppendStr
import Derived.ArgAppend
import Derived.Maps.Keyed
import Derived.Shelf.SlSortCmp.NoneTotal
import Derived.RangeFuncBox
import Derived.RangeFuncLeaves
import Derived.Shelf.Abstract
import Derived.OwnWalkIn
import Derived.TacticsInMore
import Derived.LoopNIn
import Derived.LoopIn
import Derived.WideShapes
set_option linter.all false
set_option maxRecDepth 100000
set_option maxHeartbeats 8000000

section
namespace Go.VC
open Go.ChangeShapes Go.WideShapes Go.RowKit
theorem jm{H:Type}{enc:TypeId × Value->H}{P:Program}(hl:laidOutB P=true){W W':World}(hb:Below W.heap.size W W'){sp:Nat->Bool}:
    ∀(ts:List TypeId) (vs:List Value) (ds:List (DataW H)) (ps:List MemPlace),(∀t∈ts,P.readableRec t=true/\t<P.types.size)->DataW.TrodAll enc P W 0 (fun _=>true) true ts vs ds ps ->
      (∀x∈ps,x.block<W.heap.size)->(∀x∈ps,sp x.block=true)->DataW.TrodAll enc P W' 0 sp true ts vs ds ps
  | [],vs,ds,ps,_,h,_,_=>by
    obtain⟨rfl,rfl,rfl⟩:=trodAll_nil h
    exact trodAll_mk0
  | t::ts,vs,ds,ps,ht,h,cG,Cm=>by
    obtain⟨v,vs',d,ds',p,q,rfl,rfl,rfl,h0,r0⟩:=trodAll_cons h
    have h1:=ht t Yx
    exact trodAll_cons_mk (WideElems.Trod_stays hl h1.1 h1.2 h0 (fun x hx=>hb.same (cG x (List.mem_append_left _ hx))) (fun x hx=>Cm x (List.mem_append_left _ hx)))
      (jm hl hb ts vs' ds' q (fun t oG=>ht t (Yn _ oG)) r0 (fun x hx=>cG x (List.mem_append_right _ hx)) (fun x hx=>Cm x (List.mem_append_right _ hx)))
theorem Dm{H:Type}{enc:TypeId × Value->H}{P:Program}{f:Func}{s:ChangeSpec}{apart fresh handsOn again:Bool}{W W':World}{args:Array Value}{ds gs:List (DataW H)}{before:List MemPlace}{tb:TypeId}
    (hl:laidOutB P=true) (mW:∀t∈f.params.toList,P.readableRec t=true/\t<P.types.size) (J7:s.vars=[])
    (hW:DataW.Whole enc P f.params.toList s.vars apart W args.toList ds gs before)
    (YJ:(s.fn H (ds++gs)).results=[.lit (.bool true)]) (Ku:(s.fn H (ds++gs)).args=ds) (hvr:(s.fn H (ds++gs)).vars=[])
    (hrt:f.resultTypes=#[tb]) (htb:P.underlying tb=some .bool) (hE:Ext W.heap W'.heap) (VJ:W'.os=W.os) (Eb:W'.tape=W.tape) (Ix:W'.output=W.output) :
    s.post enc P f apart fresh handsOn again W args (.bool true) W':=by
  have hb:Below W.heap.size W W':=⟨VJ,Eb,Ix,hE.1,hE.2⟩
  have hk:W.keptBut W' (· ∈ before):=⟨VJ,Ix,fun i hi=>by
    rw[hE.2 i hi]
    exact (World.keptBut_refl W (· ∈ before)).2.2 i hi⟩
  have hfz:∀a:Addr,a.block<W.heap.size->W'.frozen? a=W.frozen? a:=fun a ha=>uW (h:=W.heap) (h':=W'.heap) (hE.2 _ ha)
  have cG:=hW.lt
  have hold:∀p∈before,(fun b=>decide (b<W.heap.size)) p.block=true:=fun p hp=>by simpa using cG p hp
  have Sy:=hW
  obtain⟨p,q,hA,hV,Lz,hz,hn⟩:=hW
  rw[J7] at hV
  obtain⟨rfl,rfl⟩:=trodVars_none hV
  have OG:before=p:=by rw[Lz,Yw]
  have targs:∀sp:Nat->Bool,(∀x∈before,sp x.block=true)->DataW.TrodAll enc P W' 0 sp true f.params.toList args.toList (s.fn H (ds++[])).args p:=fun sp Cm=>by
    rw[Ku]
    exact jm hl hb _ _ _ _ mW hA (fun x hx=>cG x (by rw[OG];exact hx)) (fun x hx=>Cm x (by rw[OG];exact hx))
  have QX:∀(b:Nat) (sp:Nat->Bool) (hd:Bool),DataW.TrodAll enc P W' b sp hd f.resultTypes.toList ((Value.bool true).resultList f.resultTypes.size) (s.fn H (ds++[])).results []:=fun b sp hd=>by
    rw[YJ,hrt]
    exact trodAll_cons_mk (shut_bool htb _) trodAll_mk0
  have JO:∀sp:Nat->Bool,DataW.TrodVars enc P W' sp s.vars (s.fn H (ds++[])).vars []:=fun sp=>by
    rw[J7,hvr];rfl
  refine⟨ds,[],before,[],p,[],Sy,QX _ _ _,targs _ hold,JO _,World.keptBut_mono (fun x hx=>⟨hx,?_⟩) hk,fun _=>?_⟩
  . rw[OG] at hx;exact Or.inr (by simpa using hx)
  . refine⟨ok_one hrt rfl (okWide_bool_mk htb _),_,_,([]++p)++[],⟨[]++p,[],trodAll_append (targs _ (fun _ _=>rfl)) (QX _ _ _),JO _,rfl,?_,?_⟩,?_⟩
    . intro b off hp
      have pz:MemPlace.cell b off∈before:=by rw[OG];simpa using hp
      rw[hfz _ (cG _ pz)]
      exact hz b off pz
    . intro ha
      have:=hn ha
      rw[OG] at this
      simpa using this
    . intro x hx _
      rw[OG]
      simpa using hx
theorem Fn.calls{P:Program}{f:FuncId}{args:Array Value}{W:World}{R:Value->Heap->Prop}(hf:Fn P f args W.heap R):
    Calls P f args W fun e w'=>∃v,e=.returned v/\R v w'.heap/\w'.os=W.os/\w'.tape=W.tape/\w'.output=W.output:=(hf W rfl).mono fun _ _ ⟨v,a,b,c,d,e,_⟩=>⟨v,a,b,c,d,e⟩
def sC(P:Program)(W:World)(t:TypeId)(cs:List Value):Prop:=
  ∃(H:Type) (enc:TypeId × Value->H) (n:Nat) (x:DataW H × List MemPlace),DataW.trod enc P W 0 (fun _=>true) true n t cs=some x
theorem sC.int{P:Program}{W:World}{t:TypeId}{cs:List Value}{k:IntKind}(ht:P.underlying t=some (.int k))(h:sC P W t cs):∃n,cs=[.int k n]/\(Lit.int k n).wf=true:=by
  obtain⟨H,enc,n,x,h⟩:=h
  obtain⟨m,h1,_,h2⟩:=DataW.trod_int ht h
  exact⟨m,h1,h2⟩
theorem sC.str{P:Program}{W:World}{t:TypeId}{cs:List Value}(ht:P.underlying t=some .string)(h:sC P W t cs):∃s:ByteArray,cs=[.string s]/\s.size<=maxLen:=by
  obtain⟨H,enc,n,x,h⟩:=h
  obtain⟨m,h1,_,h2⟩:=DataW.trod_string ht h
  exact⟨m,h1,h2⟩
theorem sC.bool{P:Program}{W:World}{t:TypeId}{cs:List Value}(ht:P.underlying t=some .bool)(h:sC P W t cs):∃b,cs=[.bool b]:=by
  obtain⟨H,enc,n,x,h⟩:=h
  cases n with
  | zero=>simp[DataW.trod] at h
  | succ n=>
    unfold DataW.trod at h
    rw[ht] at h
    split at h<;>simp_all
theorem sC.struct{P:Program}{W:World}{t:TypeId}{cs:List Value}{fs:Array Field}(ht:P.underlying t=some (.struct fs))(h:sC P W t cs):
    cs.length=P.cellsOf t/\∀(i:Nat) (f:Field),fs[i]?=some f->sC P W f.type ((cs.drop f.offset).take (P.cellsOf f.type)):=by
  obtain⟨H,enc,n,x,h⟩:=h
  obtain⟨xs,m,_,_,hl,hx,hf⟩:=DataW.trod_struct ht h
  refine⟨hl,fun i f hi=>?_⟩
  have cG:i<xs.length:=by rw[hx];exact (wo.1 hi).1
  exact⟨H,enc,m,xs[i],by rw[hf i f hi,Yi cG]⟩
theorem nQ{α:Type}{f:Nat->Option α}:∀(n:Nat) {r:List α},(List.range n).mapM f=some r->r.length=n/\∀i,i<n->f i=r[i]?
  | 0,r,h=>by simp at h;subst h;exact⟨rfl,fun i hi=>by omega⟩
  | n+1,r,h=>by
    rw[List.range_succ,List.mapM_append] at h
    simp only[List.mapM_cons,List.mapM_nil,Option.bind_eq_bind,Option.pure_def,Option.bind_eq_some_iff,Option.some.injEq] at h
    obtain⟨a,ha,b,⟨c,hc,d,rfl,rfl⟩,rfl⟩:=h
    obtain⟨h1,h2⟩:=nQ n ha
    refine⟨by simp[h1],fun i hi=>?_⟩
    by_cases dQ:i<n
    . rw[jw (by omega)];exact h2 i dQ
    . have:i=n:=by omega
      subst this
      rw[qJ (by omega),h1,hc];simp
theorem oq{W:World}{base:Nat}{a:Addr}{n:Nat}{cs:List Value}(h:W.cells? base a n=some cs):cs.length=n/\∀i v,cs[i]?=some v->W.cell? (a.add i)=some v:=by
  unfold World.cells? at h
  split at h
  . obtain⟨h1,h2⟩:=nQ n h
    exact⟨h1,fun i v hi=>by rw[h2 i (by have:=(Ya.1 hi).1;omega)];exact hi⟩
  . cases h
theorem zK(b o n:Nat):(⟨b,o,none⟩:Addr).add n=⟨b,o+n,none⟩:=by
  unfold Addr.add
  by_cases h:n=0
  . rw[if_pos h,h];rfl
  . rw[if_neg h]
end Go.VC
end

section
namespace Go.VC
open Go.RowKit
theorem ki(s:ByteArray):s.size=s.data.toList.length:=(Array.length_toList).symm
theorem EY(s:ByteArray)(a b:Nat):(s.extract a b).data.toList=(s.data.toList.drop a).take (b-a):=by
  rw[ByteArray.data_extract]
  simp[List.extract_eq_take_drop]
theorem ir{s:ByteArray}{i:Nat}(h:i<s.size):∃b:UInt8,s.data.toList[i]?=some b/\ga s i=b.toNat:=by
  have hl:i<s.data.toList.length:=by rw[<-ki];exact h
  refine⟨s.data.toList[i],Yi hl,?_⟩
  unfold ga
  rw[Yo,Yi hl];rfl
def bs(l:List UInt8):ByteArray:=⟨⟨l⟩⟩
theorem sg(l:List UInt8):(bs l).size=l.length:=rfl
theorem cH(l:List UInt8):(bs l).data.toList=l:=rfl
theorem drop_cons{L:List UInt8}{j:Nat}{b:UInt8}(h:L[j]?=some b):L.drop j=b::L.drop (j+1):=by
  obtain⟨hl,he⟩:=Ya.1 h
  rw[List.drop_eq_getElem_cons hl,he]
theorem b9.len{h:Heap}{base:Nat}{e:TypeId}{size:Nat}{s:Sl}{xs:List Value}(ho:b9 h base e size s xs):xs.length=s.n*size:=ho.1
theorem b9.mono{h:Heap}{b b':Nat}{e:TypeId}{size:Nat}{s:Sl}{xs:List Value}(ho:b9 h b e size s xs)(hb:b'<=b):b9 h b' e size s xs:=by
  obtain⟨h1,h2⟩:=ho
  refine⟨h1,?_⟩
  rcases h2 with h2 | ⟨g,cur,ha,hg,r⟩
  . exact .inl h2
  . exact .inr ⟨g,cur,ha,mQ hb hg,r⟩
theorem b9.cap{h:Heap}{b:Nat}{e:TypeId}{size:Nat}{s:Sl}{xs:List Value}(ho:b9 h b e size s xs):s.n<=s.c:=by
  rcases ho.2 with ⟨_,h0,h1⟩ | ⟨g,cur,ha,hb,hh,hn,_⟩
  . omega
  . exact hn
theorem np(a b:ByteArray):(ByteArray.toList a==ByteArray.toList b)=decide (a.data.toList=b.data.toList):=by
  rw[ByteArray.toList_eq,ByteArray.toList_eq]
  by_cases h:a.data.toList=b.data.toList
  . rw[h,beq_self_eq_true,decide_eq_true rfl]
  . rw[decide_eq_false h];exact beq_eq_false_iff_ne.2 h
theorem FK{h h':Heap}(hE:Ext h h'){a:Addr}{vs:List Value}(hv:a8 h a vs):a8 h' a vs:=fun i v hi=>by
  have h1:=hv i v hi
  have:=hE.hc (uR h1)
  rw[this];exact h1
theorem iV(p:UInt8->Bool)(L:List UInt8):L.all p=true ↔ ∀(b:UInt8) (j:Nat),L[j]?=some b->p b=true:=by
  rw[List.all_eq_true]
  exact⟨fun h b j hb=>h b (Yb hb),fun h b hb=>by obtain⟨j,hj⟩:=Yf.1 hb;exact h b j hj⟩
theorem wv{l vs:List Value}(h:l.length=vs.length):ay l (0+0) vs=vs:=by
  unfold ay
  rw[sX,List.nil_append,Nat.zero_add,List.drop_eq_nil_of_le (by omega),Yw]
theorem cC(a:Option Addr)(c size:Nat):bg a 0 c size=a:=by
  unfold bg
  split
  . rfl
  . cases a with
    | none=>rfl
    | some a=>rw[Nat.zero_mul];rfl
theorem GR{P:Program}{t e size bytes:Nat}(hT:cn P t e size bytes=true){h:Heap}{base:Nat}{s:Sl}{xs:List Value}(ho:b9 h base e size s xs){K:Sl->Heap->Prop}(hK:K s h):
    App P t t (.slice s.a s.n s.c) (.slice none 0 0) h K:=by
  intro ty w hw
  subst hw
  unfold cn at hT
  simp only[Yt] at hT
  obtain⟨⟨⟨⟨⟨⟨⟨hs,he⟩,ht⟩,hz⟩,GX⟩,eK⟩,zo⟩,fq⟩:=hT
  have hu:=cq hs
  rw[dK he] at hu
  obtain⟨i,hi⟩:=fJ ht
  exact⟨_,w,run_append_owned_none w base t ty e i size hu hi _ s.n xs ho.row,⟨s,rfl,hK⟩,rfl,rfl,rfl⟩
/-! ### rows of cells -/
def Rw(h:Heap)(k:Nat)(s:Sl)(rows:List (List Value)):Prop:=
  s.n=rows.length/\(0<rows.length->∃b o,s.a=some ⟨b,o,none⟩/\∀(i:Nat) (row:List Value),rows[i]?=some row->a8 h ⟨b,o+i*k,none⟩ row)
theorem a8.hd{h:Heap}{a:Addr}{v:Value}{vs:List Value}(ha:a8 h a (v::vs)):hc h a=some v:=ha 0 v rfl
theorem a8.nth{h:Heap}{b o:Nat}{vs:List Value}(ha:a8 h ⟨b,o,none⟩ vs)(i:Nat){v:Value}(hv:vs[i]?=some v):hc h ⟨b,o+i,none⟩=some v:=by
  have:=ha i v hv
  rwa [ee] at this
theorem Rw.nil{h:Heap}{k:Nat}:Rw h k ⟨none,0,0⟩ []:=⟨rfl,fun hp=>absurd hp (by simp)⟩
theorem Rw.empty{h:Heap}{k:Nat}{s:Sl}(hs:s.n=0):Rw h k s []:=⟨hs,fun hp=>absurd hp (by simp)⟩
theorem Rw.ext{h h':Heap}(hE:Ext h h'){k:Nat}{s:Sl}{rows:List (List Value)}(hr:Rw h k s rows):Rw h' k s rows:=by
  refine⟨hr.1,fun hp=>?_⟩
  obtain⟨b,o,ha,ch⟩:=hr.2 hp
  exact⟨b,o,ha,fun i row hi=>fj hE (ch i row hi)⟩
theorem Rw.nb{h:Heap}{k:Nat}{s:Sl}{rows:List (List Value)}(hr:Rw h k s rows){i:Nat}{row:List Value}(hi:rows[i]?=some row){F:Nat->Nat->Prop}
    (hF:∀b o,s.a=some ⟨b,o,none⟩->a8 h ⟨b,o+i*k,none⟩ row->F b o):NB s.a F:=by
  have hl:=(Ya.1 hi).1
  obtain⟨b,o,ha,ch⟩:=hr.2 (by omega)
  rw[ha,Aq]
  exact hF b o ha (ch i row hi)
theorem getElem?_flatten{α:Type}{k:Nat}:∀(rows:List (List α)) (i j:Nat) (row:List α),(∀r∈rows,r.length=k)->rows[i]?=some row->j<k->rows.flatten[i*k+j]?=row[j]?
  | [],i,j,row,_,h,_=>by simp at h
  | a::rows,0,j,row,hk,h,hj=>by
    rw[List.getElem?_cons_zero] at h;cases h
    have:=hk a (by simp)
    rw[ss,Nat.zero_mul,Nat.zero_add,jw (by omega)]
  | a::rows,i+1,j,row,hk,h,hj=>by
    rw[List.getElem?_cons_succ] at h
    have ha:=hk a (by simp)
    rw[ss,qJ (by rw[Nat.succ_mul];omega),show (i+1)*k+j-a.length=i*k+j by rw[Nat.succ_mul];omega]
    exact getElem?_flatten rows i j row (fun r hr=>hk r (Yn _ hr)) h hj
theorem aL{α:Type}{k:Nat}:∀(rows:List (List α)),(∀r∈rows,r.length=k)->rows.flatten.length=rows.length*k
  | [],_=>by simp
  | a::rows,h=>by rw[ss,Yh,aL rows fun r hr=>h r (Yn _ hr),h a (by simp),mD,Nat.succ_mul];omega
theorem b9.rw{h:Heap}{base e k:Nat}{s:Sl}{rows:List (List Value)}(ho:b9 h base e k s rows.flatten)(hk:∀r∈rows,r.length=k)(xr:0<k):Rw h k s rows:=by
  have hl:=ho.len
  rw[aL rows hk] at hl
  have hn:rows.length=s.n:=Nat.eq_of_mul_eq_mul_right xr hl
  refine⟨hn.symm,fun hp=>?_⟩
  rcases ho.2 with ⟨_,h0,_⟩ | ⟨g,cur,ha,_⟩
  . omega
  . refine⟨g,0,ha,fun i row hi j v hj=>?_⟩
    have hr:=hk row (Yb hi)
    have VO:j<k:=by have:=(Ya.1 hj).1;omega
    rw[ee,Nat.zero_add]
    exact ho.hc ha (by rw[getElem?_flatten rows i j row hk hi VO];exact hj)
theorem vz{h:Heap}{k b:Nat}:∀(rows:List (List Value)) (o:Nat),(∀r∈rows,r.length=k)->(∀(i:Nat) (row:List Value),rows[i]?=some row->a8 h ⟨b,o+i*k,none⟩ row)->a8 h ⟨b,o,none⟩ rows.flatten
  | [],o,_,_=>fun i v hv=>by simp at hv
  | r::rows,o,hk,hr=>by
    intro n v hv
    have h0:=hk r (by simp)
    rw[ss] at hv
    by_cases hn:n<r.length
    . rw[jw hn] at hv
      have:=hr 0 r rfl n v hv
      rwa [Nat.zero_mul,Nat.add_zero] at this
    . rw[qJ (by omega)] at hv
      have:=vz rows (o+k) (fun x hx=>hk x (Yn _ hx)) (fun i row hi=>by
        have:=hr (i+1) row hi
        rw[Nat.succ_mul] at this
        rwa [show o+k+i*k=o+(i*k+k) by omega]) (n-r.length) v hv
      rw[ee] at this ⊢
      rwa [show o+k+(n-r.length)=o+n by omega] at this
theorem get_some{α:Type}{l:List α}{i:Nat}(h:i<l.length):∃x,l[i]?=some x:=⟨l[i],Yi h⟩
theorem aj{α:Type}{l:List α}{i:Nat}{x:α}(h:l[i]?=some x):l.take (i+1)=l.take i++[x]:=by rw[List.take_add_one,h];rfl
theorem FR{α:Type}{l:List α}{p:α->Bool}{i:Nat}{x:α}(h:l[i]?=some x)(hp:p x=true):l.any p=true:=List.any_eq_true.2 ⟨x,Yb h,hp⟩
theorem FT{α:Type}{l:List α}{p:α->Bool}(h:∀(i:Nat) (x:α),l[i]?=some x->p x=false):l.any p=false:=by
  rw[Bool.eq_false_iff]
  intro hc
  obtain⟨x,hx,hp⟩:=List.any_eq_true.1 hc
  obtain⟨i,hi⟩:=Yf.1 hx
  rw[h i x hi] at hp;cases hp
theorem dn{α:Type}{l:List α}{p:α->Bool}{i:Nat}{x:α}(h:l[i]?=some x)(hp:p x=false)(ha:∀(j:Nat) (y:α),j<i->l[j]?=some y->p y=false)(j:Nat)(y:α)(hj:j<i+1)(hy:l[j]?=some y):p y=false:=by
  by_cases e:j=i
  . subst e;rw[h] at hy;cases hy;exact hp
  . exact ha j y (by omega) hy
theorem aq{h:Heap}{xs:List Value}{e:TypeId}{K:Heap->Prop}(hK:∀h2,Ext h h2->Own h2 h.size xs e->K h2):∀h2:Heap,h2=h.push (.cells ⟨xs⟩ e)->K h2:=by
  rintro h2 rfl;exact hK _ (Ext.push ..) Own.push
theorem ai{h:Heap}{zs vs:List Value}{e:TypeId}{K:Heap->Prop}(hl:zs.length=vs.length)(hK:∀h3,Ext h h3->Own h3 h.size vs e->K h3):
    ∀h2:Heap,h2=h.push (.cells ⟨zs⟩ e)->fG h2 ⟨h.size,0,none⟩ vs.length/\∀h3:Heap,h3=bh h2 ⟨h.size,0,none⟩ 0 vs->K h3:=by
  rintro h2 rfl
  have o:Own (h.push (.cells ⟨zs⟩ e)) h.size zs e:=Own.push
  refine⟨o.fG (by omega),?_⟩
  rintro h3 rfl
  have hb:jz h.size (h.push (.cells ⟨zs⟩ e)) (bh (h.push (.cells ⟨zs⟩ e)) ⟨h.size,0,none⟩ 0 vs):=jz.bh (a:=⟨h.size,0,none⟩) vs 0 _
  refine hK _ ?_ ?_
  . have h1:=Ext.push h (.cells ⟨zs⟩ e)
    have h2:=Ext.DB hb (aY h.size)
    exact (Kp.trans (h1.kp (aY _)) (Kp.but hb (aY _))).ext
  . have:=Own.bh vs 0 (h.push (.cells ⟨zs⟩ e)) zs (o:=0) o (by omega)
    rw[wv hl] at this
    exact this
theorem Ext.sm{h h':Heap}(hE:Ext h h'){al:List Addr}:Sm al h h':=fun a _ k v hv=>aw hE hv
/-! ### counting loops -/
def Up(n:Nat)(Q:Nat->Heap->Prop)(x:Int)(h:Heap)(m:Nat):Prop:=∃i:Nat,x=i/\m=n-i/\i<=n/\Q i h
theorem Up.zero{n:Nat}{Q:Nat->Heap->Prop}{h:Heap}(h0:Q 0 h):∃m,Up n Q 0 h m:=⟨_,0,rfl,rfl,by omega,h0⟩
theorem Up.next{n i:Nat}{Q:Nat->Heap->Prop}{h:Heap}(hi:i<n)(hn:n<=9223372036854775807)(h1:Q (i+1) h):∃m,m<n-i/\Up n Q (IntKind.wrap .i64 ((i:Int)+1)) h m:=
  ⟨_,by omega,i+1,by rw[aZ (by omega) (by omega)];omega,rfl,by omega,h1⟩
theorem ba{i n:Nat}(h:decide ((i:Int)<(n:Int))=true):i<n:=by have:=bM h;omega
theorem bd{i n:Nat}(h:decide ((i:Int)<(n:Int))=false):n<=i:=by have:=eB h;omega
theorem cQ{n:Nat}{h:Heap}{B:(Int->Heap->Nat->Prop)->Env->Int->Heap->Nat->Prop}(Q:Nat->Heap->Prop)(h0:Q 0 h)
    (hB:∀(e:Env) (i:Nat) (h':Heap),i<=n->Q i h'->B (Up n Q) e i h' (n-i)):∃I:Int->Heap->Nat->Prop,(∃m,I 0 h m)/\∀(e:Env) (x:Int) (h':Heap) (m:Nat),I x h' m->B I e x h' m:=
  ⟨Up n Q,Up.zero h0,by rintro e x h' m ⟨i,rfl,rfl,hi,hq⟩;exact hB e i h' hi hq⟩
theorem ny{w:World}{b:Nat}{xs ys:List Value}{ty:TypeId}(ho:Own w.heap b xs ty):Own (w.setRow b ys.toArray).heap b ys ty/\jz b w.heap (w.setRow b ys.toArray).heap:=by
  refine⟨setRow_heap w b ⟨xs⟩ ys.toArray ty (0,0) ho,?_⟩
  unfold World.setRow
  refine⟨by simp,fun k hk=>?_⟩
  rw[Array.getElem?_modify,if_neg (by omega)]
def ya(h:Heap)(e:TypeId)(k:Nat)(s:Sl)(xs:List Value):Prop:=
  xs.length=s.n*k/\((s.a=none/\s.n=0/\s.c=0)\/∃g o cur,s.a=some ⟨g,o,none⟩/\h[g]?=some (.cells cur e (0,0))/\s.n<=s.c/\s.c<=maxLen/\o+s.c*k<=cur.size/\(cur.toList.drop o).take (s.n*k)=xs)
inductive It where
  | af (b:Nat) (xs:List Value) (e:TypeId)
  | sl (s:Sl) (e:TypeId) (k:Nat) (rows:List (List Value))
  | q (s:Sl) (e:TypeId) (k:Nat) (rows:List (List Value))
  | mp (b:Nat) (Vy:List (Value × Value))
  | raw (b:Nat) (o:Obj)
def It.at:It->Option Nat
  | .af b _ _=>some b
  | .sl s _ _ _=>s.a.map (·.block)
  | .q s _ _ _=>s.a.map (·.block)
  | .mp b _=>some b
  | .raw b _=>some b
def Bn(es:Array MapEntry)(clock:Nat):Prop:=(∀x∈es.toList,x.born<clock)/\(es.toList.map (·.born)).Nodup
def It.ok(h:Heap):It->Prop
  | .af b xs e=>Own h b xs e
  | .sl s e k rows=>b9 h 0 e k s rows.flatten/\∀r∈rows,r.length=k
  | .q s e k rows=>ya h e k s rows.flatten/\∀r∈rows,r.length=k
  | .mp b Vy=>∃es clock,h[b]?=some (.map es clock)/\es.toList.map (fun e:MapEntry=>(e.key,e.val))=Vy/\Bn es clock
  | .raw b o=>h[b]?=some o
def It.fr(n:Nat)(i:It):Prop:=∀b,i.at=some b->n<=b
def It.apart(i j:It):Prop:=∀b,i.at=some b->j.at≠some b
structure St (h0 h:Heap) (L:List It):Prop where
  ext:Ext h0 h
  ok:∀i∈L,i.ok h/\i.fr h0.size
  ap:L.Pairwise It.apart
theorem fe{h:Heap}{base:Nat}{e:TypeId}{k:Nat}{s:Sl}{xs:List Value}(ho:b9 h base e k s xs){b:Nat}(hb:s.a.map (·.block)=some b):s.a=some ⟨b,0,none⟩/\b<h.size/\base<=b:=by
  rcases ho.2 with ⟨ha,_⟩ | ⟨g,cur,ha,hg,hh,_⟩
  . rw[ha] at hb;cases hb
  . rw[ha] at hb
    simp only[Option.map_some,Option.some.injEq] at hb
    subst hb
    exact⟨ha,(wo.1 hh).1,hg⟩
theorem It.ok.lt{h:Heap}{i:It}(ho:i.ok h){b:Nat}(hb:i.at=some b):b<h.size:=by
  cases i with
  | af c xs e=>cases hb;exact Own.lt ho
  | sl s e k rows=>exact (fe ho.1 hb).2.1
  | q s e k rows=>
    replace hb:s.a.map (·.block)=some b:=hb
    rcases ho.1.2 with ⟨h1,_⟩ | ⟨g,o,cur,ha,hg,_⟩
    . rw[h1] at hb;cases hb
    . rw[ha] at hb;cases hb
      exact (wo.1 hg).1
  | mp c Vy=>
    cases hb
    obtain⟨es,clock,hg,_⟩:=ho
    exact (wo.1 hg).1
  | raw c o=>
    cases hb
    exact (wo.1 ho).1
theorem It.ok.bH{h h':Heap}{i:It}(ho:i.ok h)(hk:∀b,i.at=some b->h'[b]?=h[b]?):i.ok h':=by
  cases i with
  | af c xs e=>exact (hk c rfl).trans ho
  | sl s e k rows=>exact⟨ho.1.kp fun g hg _=>hk g (by show s.a.map (·.block)=_;rw[hg];rfl),ho.2⟩
  | q s e k rows=>
    refine⟨⟨ho.1.1,?_⟩,ho.2⟩
    rcases ho.1.2 with h1 | ⟨g,o,cur,ha,hg,r⟩
    . exact .inl h1
    . exact .inr ⟨g,o,cur,ha,(hk g (by show s.a.map (·.block)=_;rw[ha];rfl)).trans hg,r⟩
  | mp c Vy=>
    obtain⟨es,clock,hg,he⟩:=ho
    exact⟨es,clock,(hk c rfl).trans hg,he⟩
  | raw c o=>exact (hk c rfl).trans ho
theorem St.refl(h:Heap):St h h []:=⟨⟨aY _,fun _ _=>rfl⟩,fun _ hi=>(by cases hi),.nil⟩
theorem St.step{h0 h h':Heap}{L:List It}(hs:St h0 h L)(E:Ext h h'):St h0 h' L:=
  ⟨hs.ext.trans E,fun i hi=>⟨(hs.ok i hi).1.bH fun b hb=>E.2 b ((hs.ok i hi).1.lt hb),(hs.ok i hi).2⟩,hs.ap⟩
theorem St.more{h0 h h':Heap}{L:List It}(hs:St h0 h L)(E:Ext h h'){i:It}(ho:i.ok h')(hf:i.fr h.size):St h0 h' (i::L):=by
  refine⟨hs.ext.trans E,fun j hj=>?_,List.pairwise_cons.2 ⟨fun j hj b hb hc=>?_,hs.ap⟩⟩
  . rcases Yr.1 hj with rfl | hj
    . exact⟨ho,fun b hb=>mQ hs.ext.1 (hf b hb)⟩
    . exact (hs.step E).ok j hj
  . have h1:=(hs.ok j hj).1.lt hc
    have h2:=hf b hb
    omega
theorem St.aq{h0 h:Heap}{L:List It}(hs:St h0 h L){xs:List Value}{e:TypeId}{K:Heap->Prop}(hK:∀h2,St h0 h2 (.af h.size xs e::L)->K h2):∀h2:Heap,h2=h.push (.cells ⟨xs⟩ e)->K h2:=
  VC.aq fun h2 E o=>hK h2 (hs.more E (i:=.af h.size xs e) o fun b hb=>by cases hb;exact aY _)
theorem St.ai{h0 h:Heap}{L:List It}(hs:St h0 h L){zs vs:List Value}{e:TypeId}{K:Heap->Prop}{n:Nat}(hn:n=vs.length)(hl:zs.length=vs.length)(hK:∀h3,St h0 h3 (.af h.size vs e::L)->K h3):
    ∀h2:Heap,h2=h.push (.cells ⟨zs⟩ e)->fG h2 ⟨h.size,0,none⟩ n/\∀h3:Heap,h3=bh h2 ⟨h.size,0,none⟩ 0 vs->K h3:=by
  subst hn
  exact VC.ai hl fun h3 E o=>hK h3 (hs.more E (i:=.af h.size vs e) o fun b hb=>by cases hb;exact aY _)
theorem St.get{h0 h:Heap}{L:List It}(hs:St h0 h L){k:Nat}{i:It}(hk:L[k]?=some i):i.ok h:=(hs.ok i (Yb hk)).1
theorem St.rd{h0 h:Heap}{L:List It}(hs:St h0 h L)(k:Nat){b:Nat}{xs:List Value}{e:TypeId}(hk:L[k]?=some (.af b xs e)){i:Nat}{v:Value}(hi:xs[i]?=some v):hc h ⟨b,i,none⟩=some v:=by
  have:=hs.get hk
  rw[Own.hc this];exact hi
theorem St.at{h0 h:Heap}{L:List It}(hs:St h0 h L)(k:Nat){b:Nat}{xs:List Value}{e:TypeId}(hk:L[k]?=some (.af b xs e)){o n:Nat}{vs:List Value}(hv:(xs.drop o).take n=vs):a8 h ⟨b,o,none⟩ vs:=by
  refine Own.a8 (hs.get hk) fun i v hi=>?_
  subst hv
  rw[vM] at hi
  split at hi
  . rw[List.getElem?_drop] at hi;exact hi
  . cases hi
theorem St.sub{h0 h:Heap}{L L':List It}(hs:St h0 h L)(hl:L'.Sublist L):St h0 h L':=⟨hs.ext,fun i hi=>hs.ok i (hl.subset hi),hs.ap.sublist hl⟩
theorem St.drop{h0 h:Heap}{L:List It}(hs:St h0 h L)(n:Nat):St h0 h (L.drop n):=hs.sub (List.drop_sublist n L)
theorem St.aag{h0 h:Heap}{L:List It}(hs:St h0 h L)(n:Nat):St h0 h (L.eraseIdx n):=hs.sub (List.eraseIdx_sublist L n)
theorem St.gC{h0 h h':Heap}{L:List It}(hs:St h0 h L){k:Nat}{i j:It}(hk:L[k]?=some i)(eK:h.size<=h'.size)(ho:j.ok h')(hf:∀b,j.at=some b->h.size<=b\/i.at=some b)
    (qh:∀b,b<h.size->i.at≠some b->h'[b]?=h[b]?):St h0 h' (L.set k j):=by
  have hi:=Yb hk
  have rH:k<L.length:=(Ya.1 hk).1
  have LK:L[k]=i:=(Ya.1 hk).2
  have v8:∀b,i.at=some b->h0.size<=b:=(hs.ok i hi).2
  have apart:∀(m:Nat) (x:It),L[m]?=some x->m≠k->∀b,x.at=some b->i.at≠some b:=by
    intro m x hm GZ b hb hc
    have Cr:=(Ya.1 hm).1
    have wg:=(Ya.1 hm).2
    have hp:=List.pairwise_iff_getElem.1 hs.ap
    rcases Nat.lt_or_gt_of_ne GZ with cG | cG
    . have:=hp m k Cr rH cG b (by rw[wg];exact hb)
      rw[LK] at this;exact this hc
    . have:=hp k m rH Cr cG b (by rw[LK];exact hc)
      rw[wg] at this;exact this hb
  refine⟨⟨mQ hs.ext.1 eK,fun b hb=>?_⟩,fun x hx=>?_,?_⟩
  . rw[qh b (Nat.lt_of_lt_of_le hb hs.ext.1) fun hc=>by have:=v8 b hc;omega]
    exact hs.ext.2 b hb
  . obtain⟨m,hm⟩:=Yf.1 hx
    by_cases GZ:m=k
    . subst GZ
      rw[Yq rH] at hm;cases hm
      refine⟨ho,fun b hb=>?_⟩
      rcases hf b hb with h1 | h1
      . exact mQ hs.ext.1 h1
      . exact v8 b h1
    . rw[Yy (fun e=>GZ e.symm)] at hm
      have J6:=hs.ok x (Yb hm)
      exact⟨J6.1.bH fun b hb=>qh b (J6.1.lt hb) (apart m x hm GZ b hb),J6.2⟩
  . rw[List.pairwise_iff_getElem]
    intro a b ha hb iO y hy hz
    rw[mF] at ha hb
    rw[List.getElem_set] at hy hz
    have hp:=List.pairwise_iff_getElem.1 hs.ap a b ha hb iO y
    have la:∀m (hm:m<L.length),(L[m]).at=some y->y<h.size:=fun m hm he=>(hs.ok _ (List.getElem_mem hm)).1.lt he
    split at hy
    . rename_i hka
      split at hz
      . omega
      . rename_i Bz
        rcases hf y hy with h1 | h1
        . have:=la b hb hz;omega
        . exact apart b L[b] (Yi hb) (fun e=>Bz e.symm) y hz h1
    . rename_i hka
      split at hz
      . rename_i Bz
        rcases hf y hz with h1 | h1
        . have:=la a ha hy;omega
        . exact apart a L[a] (Yi ha) (fun e=>hka e.symm) y hy h1
      . exact hp hy hz
theorem St.put{h0 h:Heap}{L:List It}(hs:St h0 h L)(k:Nat){b:Nat}{xs:List Value}{e:TypeId}(hk:L[k]?=some (.af b xs e)){o n:Nat}{vs:List Value}(hn:n=vs.length)(hl:o+vs.length<=xs.length){K:Heap->Prop}
    (hK:∀h',St h0 h' (L.set k (.af b (ay xs o vs) e))->K h'):fG h ⟨b,o,none⟩ n/\∀h',h'=bh h ⟨b,o,none⟩ 0 vs->K h':=by
  subst hn
  have ho:Own h b xs e:=hs.get hk
  refine⟨ho.fG hl,?_⟩
  rintro h' rfl
  have hb:jz b h (bh h ⟨b,o,none⟩ 0 vs):=jz.bh (a:=⟨b,o,none⟩) vs 0 h
  refine hK _ (hs.gC hk (by rw[hb.1];exact aY _) ?_ (fun c hc=>.inr hc) fun c _ hc=>hb.2 c fun e=>hc (by rw[e];rfl))
  exact Own.bh vs 0 h xs ho (by omega)
theorem St.rw{h0 h:Heap}{L:List It}(hs:St h0 h L)(k:Nat){s:Sl}{e:TypeId}{n:Nat}{rows:List (List Value)}(hk:L[k]?=some (.sl s e n rows))(hn:0<n):Rw h n s rows:=by
  have:=hs.get hk
  exact this.1.rw this.2 hn
theorem St.len{h0 h:Heap}{L:List It}(hs:St h0 h L)(k:Nat){s:Sl}{e:TypeId}{n:Nat}{rows:List (List Value)}(hk:L[k]?=some (.sl s e n rows))(hn:0<n):s.n=rows.length/\s.n<=s.c/\(s.a=none->s.n=0/\s.c=0):=by
  have h1:=hs.get hk
  refine⟨(hs.rw k hk hn).1,h1.1.cap,fun ha=>?_⟩
  rcases h1.1.2 with ⟨_,h2,h3⟩ | ⟨g,cur,hg,_⟩
  . exact⟨h2,h3⟩
  . rw[ha] at hg;cases hg
theorem St.EP{h0 h h':Heap}{L:List It}(hs:St h0 h L)(E:Ext h h'){s:Sl}{e:TypeId}{k:Nat}{rows:List (List Value)}(ho:b9 h' h.size e k s rows.flatten)(hr:∀r∈rows,r.length=k):St h0 h' (.sl s e k rows::L):=
  hs.more E ⟨ho.mono (Nat.zero_le _),hr⟩ fun b hb=>by exact (fe ho hb).2.2
theorem St.SS{h0 h:Heap}{L:List It}(hs:St h0 h L)(k:Nat){s:Sl}{e:TypeId}{n:Nat}{rows:List (List Value)}(hk:L[k]?=some (.sl s e n rows)):b9 h h0.size e n s rows.flatten:=by
  have h1:=hs.get hk
  have hf:=(hs.ok _ (Yb hk)).2
  obtain⟨h2,h3⟩:=h1.1
  refine⟨h2,?_⟩
  rcases h3 with h3 | ⟨g,cur,ha,_,r⟩
  . exact .inl h3
  . exact .inr ⟨g,cur,ha,hf g (by show s.a.map (·.block)=_;rw[ha];rfl),r⟩
theorem St.cN{h0 h:Heap}{L:List It}(hs:St h0 h L)(e:TypeId)(k:Nat):St h0 h (.sl ⟨.none,0,0⟩ e k []::L):=
  hs.more ⟨aY _,fun _ _=>rfl⟩ ⟨b9.nil,fun _ hr=>by cases hr⟩ fun b hb=>by cases hb
theorem vY{P:Program}{t e size bytes:Nat}(hT:cn P t e size bytes=true){h:Heap}{s:Sl}{xs:List Value}(ho:b9 h 0 e size s xs)
    {x:Addr} {m c:Nat} {news:List Value} (hx:a8 h x news) (hl:news.length=m*size) (h1:news.all fF=true) (cz:(s.n+m)*bytes<=140737488355328) (qm:s.n+m<=maxLen)
    {K:Sl->Heap->Prop} (hK:∀(r:Sl) (h':Heap),r.n=s.n+m->b9 h' 0 e size r (xs++news)->h.size<=h'.size->(∀k,k<h.size->(∀g,s.a=some ⟨g,0,none⟩->k≠g)->h'[k]?=h[k]?) ->
      (∀b,r.a.map (·.block)=some b->h.size<=b\/s.a.map (·.block)=some b)->K r h') :
    App P t t (.slice s.a s.n s.c) (.slice (some x) m c) h K:=by
  intro ty w hw
  subst hw
  unfold cn at hT
  simp only[Yt] at hT
  obtain⟨⟨⟨⟨⟨⟨⟨hs,he⟩,ht⟩,hz⟩,GX⟩,eK⟩,zo⟩,fq⟩:=hT
  have hu:=cq hs
  rw[dK he] at hu
  obtain⟨i,hi⟩:=fJ ht
  obtain⟨z,nX⟩:=Option.isSome_iff_exists.1 hz
  rw[hi] at nX
  simp only[Option.bind_some] at nX
  have e1:i.size=size:=by have:=dK eK;simpa [aO,hi] using this
  have e2:i.bytes=bytes:=by have:=dK zo;simpa [vv,hi] using this
  have e3:z.cells.size=size:=by have:=dK GX;simpa [bL,hi,nX] using this
  have kG:∀j u,news[j]?=some u->w.cell? (x.add j)=some u:=fun j u hj=>by rw[iw];exact hx j u hj
  have uK:∀u∈news,u.oneCell'=true:=fun u hu=>by
    rw[List.all_eq_true] at h1
    exact lD (h1 u hu)
  obtain⟨v',w',hr,lI,hg,_⟩:=run_append_own (P:=P) w 0 t ty e i z size bytes hu hi nX e1 e2 e3 (by simpa using fq) _ s.n xs ho.row x m c news hl kG uK qm cz (Nat.zero_le _)
  obtain⟨r,hv,hn,rG⟩:=b9.DA lI
  refine⟨v',w',hr,⟨r,hv,hK r w'.heap hn rG hg.size ?_ ?_⟩,hg.os,hg.tape,hg.output⟩
  . intro k hk bz
    refine hg.block k hk ?_
    intro e
    rcases ho.2 with ⟨ha,_⟩ | ⟨g,cur,ha,_⟩
    . rw[ha] at e;cases e
    . rw[ha] at e
      simp only[Value.ownBlock,Option.some.injEq] at e
      exact bz g ha e
  . have acj:s.n+m<=9223372036854775807:=by simp only[maxLen] at qm;omega
    have fin:∀(a:Addr) (n c2:Nat) (w2:World),(Builtin.append_ #[t,t] ty #[.slice s.a s.n s.c,.slice (some x) m c]).run P w=.ok (.slice (some a) n c2) w2->∀b,r.a.map (·.block)=some b->a.block=b:=by
      intro a n c2 w2 rF b hb
      rw[hr] at rF
      injection rF with e4 _
      rw[hv] at e4
      injection e4 with e5 _ _
      rw[e5] at hb
      exact eU hb
    intro b hb
    rcases ho.2 with ⟨ha,sS,ig⟩ | ⟨g,cur,ha,_,Se,Bv,zm,zl,Ec⟩
    . by_cases hm:m=0
      . have jr:xs=[]:=List.eq_nil_of_length_eq_zero (by have:=ho.1;rw[sS] at this;simpa using this)
        have uG:=rG.1
        rcases rG.2 with ⟨h5,_⟩ | ⟨g5,acM,h5,_⟩
        . rw[h5] at hb;cases hb
        . subst hm
          have abV:news=[]:=List.eq_nil_of_length_eq_zero (by simpa using hl)
          have rF:(Builtin.append_ #[t,t] ty #[.slice s.a s.n s.c,.slice (some x) 0 c]).run P w=.ok (.slice none 0 0) w:=by
            rw[ha,sS,ig]
            simp[Builtin.append_,run_underlying hu,sizeOf,typeInfo,hi,Builtin.lenOf,Builtin.firstCells,loadCells,loadCellsFrom]
          rw[hr] at rF
          injection rF with e4 _
          rw[hv] at e4
          injection e4 with e5 _ _
          rw[e5] at hb;cases hb
      . have rF:=run_append_nil (P:=P) w t ty e i z hu hi nX x m c news (by rw[e1];exact hl) kG (by omega) (by omega) (by rw[e2];rw[sS] at cz;simp only[Nat.zero_add] at cz;omega)
        refine .inl ?_
        have:=fin ⟨w.heap.size,0,none⟩ _ _ _ (by rw[ha,sS,ig];exact rF) b hb
        show w.heap.size<=b
        rw[<-this];exact aY _
    . by_cases mh:s.n+m<=s.c
      . have rK:s.n*i.size+news.length<=cur.size:=by rw[hl,zl,e1,<-Nat.add_mul];exact Nat.mul_le_mul_right _ mh
        have rF:=run_append_room (P:=P) w t ty e i hu hi g s.n s.c cur Se x m c news (by rw[e1];exact hl) kG uK mh rK
        right
        have:=fin ⟨g,0,none⟩ _ _ _ (by rw[ha];exact rF) b hb
        rw[ha,<-this];rfl
      . have holds:∀j u,xs[j]?=some u->w.cell? ((⟨g,0,none⟩:Addr).add j)=some u:=ho.row.cells (g:=g) (by rw[ha];rfl)
        have rF:=run_append_grow (P:=P) w t ty e i z hu hi nX ⟨g,0,none⟩ s.n s.c xs (by rw[e1];exact ho.1) holds x m c news (by rw[e1];exact hl) kG (by omega) (by omega) (growslice_fits (by omega) (by rw[e2];exact cz))
        refine .inl ?_
        have:=fin ⟨w.heap.size,0,none⟩ _ _ _ (by rw[ha];exact rF) b hb
        show w.heap.size<=b
        rw[<-this];exact aY _
theorem St.appended{P:Program}{h0 h:Heap}{L:List It}(hs:St h0 h L)(k:Nat){s:Sl}{t e:TypeId}{n bytes:Nat}{rows:List (List Value)}(hk:L[k]?=some (.sl s e n rows))(hT:cn P t e n bytes=true)
    {x:Addr} {m c:Nat} {news:List (List Value)} (hx:a8 h x news.flatten) (hl:news.length=m) (hr:∀r∈news,r.length=n) (h1:news.flatten.all fF=true) (cz:(s.n+m)*bytes<=140737488355328) (qm:s.n+m<=maxLen)
    {K:Sl->Heap->Prop} (hK:∀(r:Sl) (h':Heap),r.n=s.n+m->St h0 h' (L.set k (.sl r e n (rows++news)))->K r h'):App P t t (.slice s.a s.n s.c) (.slice (some x) m c) h K:=by
  have ho:=hs.get hk
  refine vY hT ho.1 hx (by rw[aL news hr,hl]) h1 cz qm fun r h' hn rG eK qh xn=>hK r h' hn ?_
  have LB:(It.sl r e n (rows++news)).ok h':=⟨by rw[List.flatten_append];exact rG,fun q hq=>by rcases Yk.1 hq with hq | hq;exact ho.2 q hq;exact hr q hq⟩
  exact hs.gC hk eK LB xn fun b hb bz=>qh b hb fun g hg e=>by subst e;exact bz (by show s.a.map (·.block)=_;rw[hg];rfl)
theorem St.app{P:Program}{h0 h:Heap}{L:List It}(hs:St h0 h L)(k:Nat){s:Sl}{t e:TypeId}{n bytes:Nat}{rows:List (List Value)}(hk:L[k]?=some (.sl s e n rows))(hT:cn P t e n bytes=true)
    {m c:Nat} (news:List (List Value)) {cells:List Value} (hc:cells=news.flatten) {e2:TypeId} (hl:news.length=m) (hr:∀r∈news,r.length=n) (h1:news.flatten.all fF=true) (cz:(s.n+m)*bytes<=140737488355328) (qm:s.n+m<=maxLen)
    {K:Sl->Heap->Prop} (hK:∀(r:Sl) (h':Heap),r.n=s.n+m->St h0 h' (L.set k (.sl r e n (rows++news)))->K r h') :
    ∀h2:Heap,h2=h.push (.cells ⟨cells⟩ e2)->App P t t (.slice s.a s.n s.c) (.slice (some ⟨h.size,0,none⟩) m c) h2 K:=by
  subst hc
  refine hs.aq fun h2 cp=>?_
  refine cp.appended (k+1) hk hT (cp.at 0 rfl (n:=news.flatten.length) (by rw[List.drop_zero,xW])) hl hr h1 cz qm fun r h' hn h3=>hK r h' hn ?_
  exact h3.drop 1
theorem St.oz{P:Program}{h0 h:Heap}{L:List It}(hs:St h0 h L)(k:Nat){s y:Sl}{t e:TypeId}{n bytes:Nat}{rows news:List (List Value)}(hk:L[k]?=some (.sl s e n rows))(hT:cn P t e n bytes=true)
    (hy:Rw h n y news) (hr:∀r∈news,r.length=n) (Ek:y.a=none->y.n=0/\y.c=0) (h1:news.flatten.all fF=true) (cz:(s.n+y.n)*bytes<=140737488355328) (qm:s.n+y.n<=maxLen)
    {K:Sl->Heap->Prop} (hK:∀(r:Sl) (h':Heap),r.n=s.n+y.n->St h0 h' (L.set k (.sl r e n (rows++news)))->K r h'):App P t t (.slice s.a s.n s.c) (.slice y.a y.n y.c) h K:=by
  cases hya:y.a with
  | none=>
    obtain⟨h2,h3⟩:=Ek hya
    have YL:news=[]:=List.length_eq_zero_iff.1 (by have:=hy.1;omega)
    subst YL
    rw[h2,h3]
    refine GR hT (hs.get hk).1 (hK s h (by omega) ?_)
    rw[Yw]
    have e:L.set k (.sl s e n rows)=L:=by
      apply wm
      intro m
      by_cases hm:k=m
      . subst hm;rw[Yq (Ya.1 hk).1,hk]
      . rw[Yy hm]
    rw[e];exact hs
  | some x=>
    have hx:a8 h x news.flatten:=by
      by_cases EO:0<news.length
      . obtain⟨b,o,ha,ch⟩:=hy.2 EO
        rw[hya] at ha;cases ha
        exact vz news o hr ch
      . have YL:news=[]:=List.length_eq_zero_iff.1 (by omega)
        subst YL
        intro i v hv;simp at hv
    exact hs.appended k hk hT hx hy.1.symm hr h1 cz qm hK
theorem l4{l m vs:List Value}{p:Nat}(h:p+vs.length<=l.length):ay (l++m) p vs=ay l p vs++m:=by
  unfold ay
  rw[O8 (by omega),List.drop_append_of_le_length (by omega)]
  simp only[Yz]
theorem qP{l m vs:List Value}{p:Nat}:ay (l++m) (l.length+p) vs=l++ay m p vs:=by
  unfold ay
  rw[List.take_length_add_append,show l.length+p+vs.length=l.length+(p+vs.length) by omega,List.drop_length_add_append]
  simp only[Yz]
theorem tl{l vs:List Value}{p N:Nat}(h:p+vs.length<=N)(hN:N<=l.length):(ay l p vs).take N=ay (l.take N) p vs:=by
  have e:l=l.take N++l.drop N:=(List.take_append_drop N l).symm
  have hl:(l.take N).length=N:=by rw[Yu];omega
  have e2:ay l p vs=ay (l.take N) p vs++l.drop N:=by
    conv=>lhs;rw[e]
    exact l4 (by omega)
  rw[e2]
  have h3:(ay (l.take N) p vs).length=N:=by
    unfold ay
    simp only[Yh,Yu,List.length_drop];omega
  rw[O8 (by omega),Yj (by omega)]
theorem jB{l vs:List Value}{p:Nat}(h:p+vs.length<=l.length):(ay l p vs).length=l.length:=by
  unfold ay
  simp only[Yh,Yu,List.length_drop];omega
theorem gR{n j:Nat}{vs row:List Value}:∀(rows:List (List Value)) (i:Nat),(∀r∈rows,r.length=n)->rows[i]?=some row->j+vs.length<=n->ay rows.flatten (i*n+j) vs=(rows.set i (ay row j vs)).flatten
  | [],i,_,h,_=>by simp at h
  | a::rows,0,hr,h,hj=>by
    rw[List.getElem?_cons_zero] at h;cases h
    have:=hr row (by simp)
    rw[ss,List.set_cons_zero,ss,Nat.zero_mul,Nat.zero_add]
    exact l4 (by omega)
  | a::rows,i+1,hr,h,hj=>by
    rw[List.getElem?_cons_succ] at h
    have ha:=hr a (by simp)
    rw[ss,List.set_cons_succ,ss,<-gR rows i (fun r hm=>hr r (Yn _ hm)) h hj]
    rw[<-qP,ha,show (i+1)*n+j=n+(i*n+j) by rw[Nat.succ_mul];omega]
theorem St.Rc{h0 h:Heap}{L:List It}(hs:St h0 h L)(k:Nat){s:Sl}{e:TypeId}{n:Nat}{rows:List (List Value)}(hk:L[k]?=some (.sl s e n rows))(sS:0<n){i:Nat}{row vs:List Value}(hi:rows[i]?=some row)(j:Nat)(hv:j+vs.length<=n)
    {K:Nat->Nat->Heap->Prop} (hK:∀b o h',St h0 h' (L.set k (.sl s e n (rows.set i (ay row j vs))))->K b o h') {m:Nat} (hm:m=vs.length) {B:Prop} (hB:B) :
    NB s.a fun b o=>B/\(fG h ⟨b,o+i*n+j,none⟩ m/\∀h',h'=bh h ⟨b,o+i*n+j,none⟩ 0 vs->K b o h'):=by
  subst hm
  have ho:=hs.get hk
  have hlen:=ho.1.len
  have wh:=(Ya.1 hi).1
  have uH:=ho.2 row (Yb hi)
  rw[aL rows ho.2] at hlen
  have uG:rows.length=s.n:=Nat.eq_of_mul_eq_mul_right sS hlen
  rcases ho.1.2 with ⟨_,EO,_⟩ | ⟨g,cur,ha,hb,hh,Bv,zm,zl,ht⟩
  . omega
  . rw[ha,Aq]
    refine⟨hB,?_⟩
    have lI:Own h g cur.toList e:=hh
    have h1:(i+1)*n<=s.n*n:=Nat.mul_le_mul_right _ (by omega)
    have h2:s.n*n<=s.c*n:=Nat.mul_le_mul_right _ Bv
    rw[Nat.succ_mul] at h1
    have ew:cur.toList.length=s.c*n:=by rw[Array.length_toList];exact zl
    have rK:i*n+j+vs.length<=cur.toList.length:=by omega
    rw[Nat.zero_add]
    refine⟨lI.fG rK,?_⟩
    rintro h' rfl
    have hbt:jz g h (bh h ⟨g,i*n+j,none⟩ 0 vs):=jz.bh (a:=⟨g,i*n+j,none⟩) vs 0 h
    have RX:=Own.bh vs 0 h cur.toList (o:=i*n+j) lI (by omega)
    rw[Nat.add_zero] at RX
    refine hK _ _ _ (hs.gC hk (by rw[hbt.1];exact aY _) ⟨⟨?_,.inr ⟨g,⟨ay cur.toList (i*n+j) vs⟩,ha,Nat.zero_le _,RX,Bv,zm,?_,?_⟩⟩,?_⟩ (fun c hc=>.inr hc) fun c _ hc=>hbt.2 c fun e=>hc (by rw[e];show s.a.map (·.block)=_;rw[ha];rfl))
    . rw[<-gR rows i ho.2 hi hv,jB (by rw[aL rows ho.2];omega),aL rows ho.2,uG]
    . show (ay cur.toList (i*n+j) vs).length=_
      rw[jB rK];exact ew
    . show (ay cur.toList (i*n+j) vs).take (s.n*n)=_
      rw[tl (by omega) (by omega),ht,gR rows i ho.2 hi hv]
    . intro r hr
      rcases List.mem_or_eq_of_mem_set hr with hr | rfl
      . exact ho.2 r hr
      . rw[jB (by omega)];exact uH
theorem aQ{p:Prop}[Decidable p]{a b:Prop}(h1:p->a)(h2:¬p->b):sB (decide p) a b:=aa (fun h=>h1 (bM h)) (fun h=>h2 (eB h))
theorem eh{x y:Int}{a b:Prop}(h1:x=y->a)(h2:x≠y->b):sB (x==y) a b:=aa (fun h=>h1 (by simpa using h)) (fun h=>h2 (by simpa using h))
theorem iC{x y:Int}{a b:Prop}(h1:x≠y->a)(h2:x=y->b):sB (x != y) a b:=aa (fun h=>h1 (by simpa using h)) (fun h=>h2 (by simpa using h))
theorem sBs{x y:List UInt8}{a b:Prop}(h1:x=y->a)(h2:x≠y->b):sB (ByteArray.toList (bs x)==ByteArray.toList (bs y)) a b:=by
  rw[np]
  exact aQ (p:=x=y) h1 h2
theorem dF{p:Prop}[Decidable p](h:¬p):Value.bool false=.bool (decide p):=by rw[decide_eq_false h]
theorem dT{p:Prop}[Decidable p](h:p):Value.bool true=.bool (decide p):=by rw[decide_eq_true h]
theorem uB(x y:Int):gI x y=min x y:=by unfold gI;rw[Int.min_def];split<;>split<;>omega
theorem uC(x y:Int):imax x y=max x y:=by unfold imax;rw[Int.max_def];split<;>split<;>omega
theorem Rw.aF{α:Type}{h:Heap}{k:Nat}{s:Sl}{cs:α->List Value}{L:List α}(hr:Rw h k s (L.map cs)){x:Int}(h0:0<=x)(h1:x<s.n){F:Nat->Nat->Prop}
    (hF:∀b o d,L[x.toNat]?=some d->a8 h ⟨b,o+x.toNat*k,none⟩ (cs d)->F b o):NB s.a fun b o=>(0<=x/\x<(s.n:Nat))/\F b o:=by
  have hn:=hr.1
  rw[Yc] at hn
  have hl:x.toNat<L.length:=by omega
  refine hr.nb (i:=x.toNat) (row:=cs L[x.toNat]) (by rw[Yd,Yi hl];rfl) fun b o _ Me=>⟨⟨h0,h1⟩,hF b o _ (Yi hl) Me⟩
theorem Rw.ln{α:Type}{h:Heap}{k:Nat}{s:Sl}{cs:α->List Value}{L:List α}(hr:Rw h k s (L.map cs)):s.n=L.length:=by have:=hr.1;rwa [Yc] at this
theorem a8.sub{h:Heap}{b o:Nat}{vs us:List Value}(ha:a8 h ⟨b,o,none⟩ vs)(i n:Nat)(hu:(vs.drop i).take n=us):a8 h ⟨b,o+i,none⟩ us:=by
  subst hu
  intro j v hj
  rw[vM] at hj
  split at hj
  . rw[List.getElem?_drop] at hj
    have:=ha.nth (i+j) hj
    rw[ee,Nat.add_assoc];exact this
  . cases hj
theorem a8.Q3{h:Heap}{b o:Nat}{vs us:List Value}(ha:a8 h ⟨b,o,none⟩ vs)(n:Nat)(hu:vs.take n=us):a8 h ⟨b,o,none⟩ us:=ha.sub 0 n hu
theorem St.rows{α:Type}{h0 h:Heap}{L:List It}(hs:St h0 h L)(k:Nat){s:Sl}{e:TypeId}{n:Nat}{cs:α->List Value}{l:List α}(hk:L[k]?=some (.sl s e n (l.map cs)))(hn:0<n):Rw h n s (l.map cs):=hs.rw k hk hn
theorem aM{n:Nat}{h0 h:Heap}{L:List It}{B:(Int->Heap->Nat->Prop)->Env->Int->Heap->Nat->Prop}(hs:St h0 h L)(Q:Nat->Prop)(q0:Q 0)
    (hB:∀(e:Env) (i:Nat) (h':Heap),i<=n->St h0 h' L/\Q i->B (Up n fun i h'=>St h0 h' L/\Q i) e i h' (n-i)):∃I:Int->Heap->Nat->Prop,(∃m,I 0 h m)/\∀(e:Env) (x:Int) (h':Heap) (m:Nat),I x h' m->B I e x h' m:=
  cQ (fun i h'=>St h0 h' L/\Q i) ⟨hs,q0⟩ hB
def Ha(n:Nat)(Q:Nat->Sl->Heap->Prop)(s:Sl)(x:Int)(h:Heap)(m:Nat):Prop:=∃i:Nat,x=i/\m=n-i/\i<=n/\Q i s h
theorem gP{n:Nat}{h0 h:Heap}{L:List It}{e:TypeId}{k:Nat}{s0:Sl}{r0:List (List Value)}{B:(Sl->Int->Heap->Nat->Prop)->Env->Sl->Int->Heap->Nat->Prop}(hs:St h0 h (.sl s0 e k r0::L))(Q:Nat->List (List Value)->Prop)(q0:Q 0 r0)
    (hB:∀(ρ:Env) (i:Nat) (s:Sl) (h':Heap) (rows:List (List Value)),i<=n->St h0 h' (.sl s e k rows::L)->Q i rows->B (Ha n fun i s h'=>∃rows,St h0 h' (.sl s e k rows::L)/\Q i rows) ρ s i h' (n-i)) :
    ∃I:Sl->Int->Heap->Nat->Prop,(∃m,I s0 0 h m)/\∀(ρ:Env) (s:Sl) (x:Int) (h':Heap) (m:Nat),I s x h' m->B I ρ s x h' m:=
  ⟨Ha n fun i s h'=>∃rows,St h0 h' (.sl s e k rows::L)/\Q i rows,⟨_,0,rfl,rfl,by omega,r0,hs,q0⟩,by rintro ρ s x h' m ⟨i,rfl,rfl,hi,rows,h1,h2⟩;exact hB ρ i s h' rows hi h1 h2⟩
theorem Ha.next{n i:Nat}{Q:Nat->Sl->Heap->Prop}{s:Sl}{h:Heap}(hi:i<n)(hn:n<=9223372036854775807)(h1:Q (i+1) s h):∃m,m<n-i/\Ha n Q s (IntKind.wrap .i64 ((i:Int)+1)) h m:=
  ⟨_,by omega,i+1,by rw[aZ (by omega) (by omega)];omega,rfl,by omega,h1⟩
theorem jE{P:Program}(w:World)(t ty e:TypeId)(i:TypeInfo)(ht:P.underlying t=some (.slice e))(hi:P.info? e=some i)
    (g o nz AN:Nat) (cur:Array Value) (hg:w.heap[g]?=some (.cells cur e (0,0)))
    (a:Addr) (m c:Nat) (news:List Value) (hl:news.length=m*i.size) (kG:∀j u,news[j]?=some u->w.cell? (a.add j)=some u) (h1:∀u∈news,u.oneCell'=true)
    (mh:nz+m<=AN) (rK:o+nz*i.size+news.length<=cur.size) :
    (Builtin.append_ #[t,t] ty #[.slice (some ⟨g,o,none⟩) nz AN,.slice (some a) m c]).run P w =
      .ok (.slice (some ⟨g,o,none⟩) (nz+m) AN) (w.setRow g (cur.toList.take (o+nz*i.size)++news++cur.toList.drop (o+nz*i.size+news.length)).toArray):=by
  have hf:=run_firstCells_some (P:=P) w i.size m a m c news hl kG
  have Bs:=run_storeCells_at P g (o+nz*i.size) e news 0 cur w hg (by simpa using rK) h1
  simp only[Nat.add_zero] at Bs
  simp[Builtin.append_,run_underlying ht,sizeOf,typeInfo,hi,Builtin.lenOf,mh,hf,Addr.add_lit,Bs]
theorem b9.toQ{h:Heap}{base:Nat}{e:TypeId}{k:Nat}{s:Sl}{xs:List Value}(ho:b9 h base e k s xs):ya h e k s xs:=by
  refine⟨ho.1,?_⟩
  rcases ho.2 with h1 | ⟨g,cur,ha,_,hg,hn,hc,hz,ht⟩
  . exact .inl h1
  . exact .inr ⟨g,0,cur,ha,hg,hn,hc,by omega,by rw[List.drop_zero];exact ht⟩
theorem Vn{P:Program}{t e size bytes:Nat}(hT:cn P t e size bytes=true){h:Heap}{s:Sl}{xs:List Value}(ho:ya h e size s xs)
    {x:Addr} {m c:Nat} {news:List Value} (hx:a8 h x news) (hl:news.length=m*size) (h1:news.all fF=true) (cz:(s.n+m)*bytes<=140737488355328) (qm:s.n+m<=maxLen)
    {K:Sl->Heap->Prop} (hK:∀(r:Sl) (h':Heap),r.n=s.n+m->ya h' e size r (xs++news)->h.size<=h'.size->(∀k,k<h.size->s.a.map (·.block)≠some k->h'[k]?=h[k]?) ->
      (∀b,r.a.map (·.block)=some b->h.size<=b\/s.a.map (·.block)=some b)->K r h') :
    App P t t (.slice s.a s.n s.c) (.slice (some x) m c) h K:=by
  rcases ho.2 with ⟨ha,sS,ig⟩ | ⟨g,o,cur,ha,Se,Bv,zm,zl,Ec⟩
  . have ke:b9 h 0 e size s xs:=⟨ho.1,.inl ⟨ha,sS,ig⟩⟩
    exact vY hT ke hx hl h1 cz qm fun r h' hn rG eK hk hw=>hK r h' hn rG.toQ eK (fun k mX _=>hk k mX fun g hg=>by rw[ha] at hg;cases hg) hw
  . intro ty w hw
    subst hw
    unfold cn at hT
    simp only[Yt] at hT
    obtain⟨⟨⟨⟨⟨⟨⟨hs,he⟩,ht⟩,hz⟩,GX⟩,eK⟩,zo⟩,fq⟩:=hT
    have hu:=cq hs
    rw[dK he] at hu
    obtain⟨i,hi⟩:=fJ ht
    obtain⟨z,nX⟩:=Option.isSome_iff_exists.1 hz
    rw[hi] at nX
    simp only[Option.bind_some] at nX
    have e1:i.size=size:=by have:=dK eK;simpa [aO,hi] using this
    have e2:i.bytes=bytes:=by have:=dK zo;simpa [vv,hi] using this
    have e3:z.cells.size=size:=by have:=dK GX;simpa [bL,hi,nX] using this
    have kG:∀j u,news[j]?=some u->w.cell? (x.add j)=some u:=fun j u hj=>by rw[iw];exact hx j u hj
    have uK:∀u∈news,u.oneCell'=true:=fun u hu=>by
      rw[List.all_eq_true] at h1
      exact lD (h1 u hu)
    have abS:s.n*size<=s.c*size:=Nat.mul_le_mul_right _ Bv
    have Oy:=ho.1
    by_cases mh:s.n+m<=s.c
    . have Bw:(s.n+m)*size<=s.c*size:=Nat.mul_le_mul_right _ mh
      rw[Nat.add_mul] at Bw
      have rK:o+s.n*size+news.length<=cur.size:=by omega
      have hr:=jE (P:=P) w t ty e i hu hi g o s.n s.c cur Se x m c news (by rw[e1];exact hl) kG uK mh (by rw[e1];exact rK)
      rw[e1] at hr
      have lI:Own w.heap g cur.toList e:=Se
      obtain⟨h2,h3⟩:=ny (ys:=cur.toList.take (o+s.n*size)++news++cur.toList.drop (o+s.n*size+news.length)) lI
      rw[ha]
      refine⟨_,_,hr,⟨⟨some ⟨g,o,none⟩,s.n+m,s.c⟩,rfl,?_⟩,rfl,rfl,rfl⟩
      have YF:(w.setRow g (cur.toList.take (o+s.n*size)++news++cur.toList.drop (o+s.n*size+news.length)).toArray).heap.size=w.heap.size:=h3.1
      refine hK _ _ rfl ⟨by rw[Yh,hl,Oy,Nat.add_mul],.inr ⟨g,o,_,rfl,h2,mh,zm,?_,?_⟩⟩ (by rw[YF];exact aY _) (fun k hk bz=>h3.2 k fun e=>bz (by rw[e,ha];rfl)) (fun b hb=>.inr (by rw[ha];exact hb))
      . show o+s.c*size<=(cur.toList.take (o+s.n*size)++news++cur.toList.drop (o+s.n*size+news.length)).length
        simp only[Yh,Yu,List.length_drop,Array.length_toList]
        omega
      . show ((cur.toList.take (o+s.n*size)++news++cur.toList.drop (o+s.n*size+news.length)).drop o).take ((s.n+m)*size)=xs++news
        have ew:cur.toList.length=cur.size:=Array.length_toList
        have e4:cur.toList.take (o+s.n*size)=cur.toList.take o++xs:=by rw[List.take_add,Ec]
        rw[e4,Yz,Yz,<-Yz xs,List.drop_append_of_le_length (by rw[Yu];omega)]
        rw[List.drop_eq_nil_of_le (by rw[Yu];omega),List.nil_append]
        rw[O8 (by rw[Yh,hl,Oy,Nat.add_mul];omega)]
        exact Yj (by rw[Yh,hl,Oy,Nat.add_mul];omega)
    . have holds:∀j u,xs[j]?=some u->w.cell? ((⟨g,o,none⟩:Addr).add j)=some u:=by
        intro j u hj
        have Zw:(⟨g,o,none⟩:Addr).add j=⟨g,o+j,none⟩:=by unfold Addr.add;split<;>simp_all
        rw[Zw,cell_of_row w g (o+j) cur e (0,0) Se]
        rw[<-Ec,vM] at hj
        split at hj
        . rw[List.getElem?_drop] at hj;simpa using hj
        . cases hj
      obtain⟨v',w',hr,lI,hg⟩:=run_append_arg_grows (P:=P) w t ty e i z size bytes hu hi nX e1 e2 e3 (by simpa using fq) ⟨g,o,none⟩ s.n s.c xs Oy holds x m c news hl kG (by omega) qm cz
      obtain⟨r,hv,hn,rG⟩:=b9.DA lI
      rw[ha]
      refine⟨v',w',hr,⟨r,hv,hK r w'.heap hn rG.toQ hg.size (fun k hk _=>hg.block k hk (by simp)) fun b hb=>?_⟩,hg.os,hg.tape,hg.output⟩
      exact .inl (fe rG hb).2.2
theorem St.toQ{h0 h:Heap}{L:List It}{s:Sl}{e:TypeId}{k:Nat}{rows:List (List Value)}(hs:St h0 h (.sl s e k rows::L))(_hk:0<1):St h0 h (.q s e k rows::L):=by
  have h1:=hs.get (k:=0) rfl
  have h2:=hs.gC (k:=0) (j:=.q s e k rows) rfl (aY _) ⟨h1.1.toQ,h1.2⟩ (fun b hb=>.inr hb) (fun _ _ _=>rfl)
  exact h2
theorem ya.rw{h:Heap}{e k:Nat}{s:Sl}{rows:List (List Value)}(ho:ya h e k s rows.flatten)(hk:∀r∈rows,r.length=k)(xr:0<k):Rw h k s rows:=by
  have hl:=ho.1
  rw[aL rows hk] at hl
  have hn:rows.length=s.n:=Nat.eq_of_mul_eq_mul_right xr hl
  refine⟨hn.symm,fun hp=>?_⟩
  rcases ho.2 with ⟨_,h0,_⟩ | ⟨g,o,cur,ha,hg,h1,h2,h3,h4⟩
  . omega
  . refine⟨g,o,ha,fun i row hi=>?_⟩
    have lI:Own h g cur.toList e:=hg
    refine Own.a8 lI fun j v hv=>?_
    have uH:=hk row (Yb hi)
    have hj:j<k:=by have:=(Ya.1 hv).1;omega
    have h5:=getElem?_flatten rows i j row hk hi hj
    rw[<-h4,vM] at h5
    split at h5
    . rw[List.getElem?_drop] at h5
      rw[Nat.add_assoc,h5];exact hv
    . rw[hv] at h5;cases h5
theorem St.qrw{h0 h:Heap}{L:List It}(hs:St h0 h L)(k:Nat){s:Sl}{e:TypeId}{n:Nat}{rows:List (List Value)}(hk:L[k]?=some (.q s e n rows))(hn:0<n):Rw h n s rows:=by
  have:=hs.get hk
  exact this.1.rw this.2 hn
theorem St.Ra{h0 h:Heap}{L:List It}(hs:St h0 h L)(k:Nat){s:Sl}{e:TypeId}{rows:List (List Value)}(hk:L[k]?=some (.q s e 1 rows)):s.n=rows.length/\s.n<=s.c:=by
  have h1:=hs.get hk
  refine⟨(hs.qrw k hk (by omega)).1,?_⟩
  rcases h1.1.2 with ⟨_,h2,h3⟩ | ⟨g,o,cur,ha,_,h2,_⟩
  . omega
  . exact h2
theorem St.Q9{h0 h:Heap}{L:List It}{s:Sl}{e:TypeId}{n:Nat}{row:List Value}{rows:List (List Value)}(hs:St h0 h (.q s e n (row::rows)::L)):St h0 h (.q ⟨bg s.a (Int.toNat 1) s.c n,Int.toNat (s.n:Nat)-Int.toNat 1,s.c-Int.toNat 1⟩ e n rows::L):=by
  have h1:=hs.get (k:=0) rfl
  obtain⟨ho,hr⟩:=h1
  have dq:=hr row (by simp)
  have hlen:=ho.1
  rw[ss,Yh,dq] at hlen
  have key:ya h e n ⟨bg s.a (Int.toNat 1) s.c n,Int.toNat (s.n:Nat)-Int.toNat 1,s.c-Int.toNat 1⟩ rows.flatten/\(∀b,(bg s.a (Int.toNat 1) s.c n).map (·.block)=some b->s.a.map (·.block)=some b):=by
    have e1:Int.toNat 1=1:=rfl
    have e2:Int.toNat (s.n:Int)=s.n:=Ys _
    rw[e1,e2]
    have Ey:s.n=0\/∃m,s.n=m+1:=by cases s.n with
      | zero=>exact .inl rfl
      | succ m=>exact .inr ⟨m,rfl⟩
    have gM:rows.flatten.length=(s.n-1)*n:=by
      rcases Ey with EO | ⟨m,hm⟩
      . rw[EO] at hlen ⊢;simp at hlen ⊢;exact hlen.2
      . rw[hm] at hlen ⊢;rw[Nat.succ_mul] at hlen;simp only[Nat.add_sub_cancel];omega
    rcases ho.2 with ⟨ha,sS,ig⟩ | ⟨g,o,cur,ha,hg,Bv,zm,zl,ht⟩
    . refine⟨⟨gM,.inl ⟨?_,by show s.n-1=0;omega,by show s.c-1=0;omega⟩⟩,?_⟩
      . show bg s.a 1 s.c n=none
        unfold bg;rw[ha];split<;>rfl
      . intro b hb
        unfold bg at hb;rw[ha] at hb ⊢
        split at hb<;>exact hb
    . have Lw:∃o',bg s.a 1 s.c n=some ⟨g,o',none⟩/\(o'=o/\s.c=1\/o'=o+n):=by
        unfold bg
        by_cases uS:s.c=1
        . exact⟨o,by rw[if_pos uS,ha],.inl ⟨rfl,uS⟩⟩
        . refine⟨o+n,by rw[if_neg uS,ha,Option.map_some,Nat.one_mul,Addr.add_lit],.inr rfl⟩
      obtain⟨o',Cn,ke⟩:=Lw
      refine⟨⟨gM,.inr ⟨g,o',cur,Cn,hg,by show s.n-1<=s.c-1;omega,by show s.c-1<=maxLen;omega,?_,?_⟩⟩,?_⟩
      . show o'+(s.c-1)*n<=cur.size
        rcases ke with ⟨rfl,uS⟩ | rfl
        . rw[uS];rw[uS] at zl;omega
        . rcases Nat.eq_zero_or_pos s.c with hz | hz
          . have:s.n=0:=by omega
            rw[this] at hlen;simp at hlen
            rw[hz] at zl ⊢;omega
          . have:s.c*n=(s.c-1)*n+n:=by rw[<-Nat.succ_mul];congr 1;omega
            omega
      . show (cur.toList.drop o').take ((s.n-1)*n)=rows.flatten
        rcases Ey with EO | ⟨m,hm⟩
        . have pD:rows.flatten=[]:=List.length_eq_zero_iff.1 (by rw[gM,EO,Nat.zero_sub,Nat.zero_mul])
          rw[EO,Nat.zero_sub,Nat.zero_mul,sX,pD]
        . rw[hm,Nat.add_sub_cancel]
          rcases ke with ⟨rfl,uS⟩ | rfl
          . have hm0:m=0:=by omega
            subst hm0
            have pD:rows.flatten=[]:=List.length_eq_zero_iff.1 (by rw[gM,hm,Nat.add_sub_cancel,Nat.zero_mul])
            rw[Nat.zero_mul,sX,pD]
          . rw[hm,ss,Nat.succ_mul,Nat.add_comm (m*n) n,List.take_add,List.drop_drop] at ht
            have R7:cur.toList.length=cur.size:=Array.length_toList
            have h6:n<=(cur.toList.drop o).length:=by
              rw[List.length_drop,R7]
              have:1*n<=s.c*n:=Nat.mul_le_mul_right _ (by omega)
              omega
            have:=List.append_inj ht (by rw[Yu,dq];omega)
            exact this.2
      . intro b hb
        rw[Cn] at hb;rw[ha];exact hb
  exact hs.gC (k:=0) (j:=.q ⟨bg s.a (Int.toNat 1) s.c n,Int.toNat (s.n:Nat)-Int.toNat 1,s.c-Int.toNat 1⟩ e n rows) rfl (aY _) ⟨key.1,fun r hr'=>hr r (Yn _ hr')⟩ (fun b hb=>.inr (key.2 b hb)) (fun _ _ _=>rfl)
theorem St.XI{P:Program}{h0 h:Heap}{L:List It}(hs:St h0 h L)(k:Nat){s:Sl}{t e:TypeId}{n bytes:Nat}{rows:List (List Value)}(hk:L[k]?=some (.q s e n rows))(hT:cn P t e n bytes=true)
    {m c:Nat} (news:List (List Value)) {cells:List Value} (hc:cells=news.flatten) {e2:TypeId} (hl:news.length=m) (_hn:0<n) (hr:∀r∈news,r.length=n) (h1:news.flatten.all fF=true) (cz:(s.n+m)*bytes<=140737488355328) (qm:s.n+m<=maxLen)
    {K:Sl->Heap->Prop} (hK:∀(r:Sl) (h':Heap),r.n=s.n+m->St h0 h' (L.set k (.q r e n (rows++news)))->K r h') :
    ∀h2:Heap,h2=h.push (.cells ⟨cells⟩ e2)->App P t t (.slice s.a s.n s.c) (.slice (some ⟨h.size,0,none⟩) m c) h2 K:=by
  subst hc
  refine hs.aq fun h2 cp=>?_
  have dV:(It.af h.size news.flatten e2::L)[k+1]?=some (.q s e n rows):=hk
  have ho:=cp.get dV
  have hx:=cp.at 0 rfl (n:=news.flatten.length) (vs:=news.flatten) (o:=0) (by rw[List.drop_zero,xW])
  refine Vn hT ho.1 hx (by rw[aL news hr,hl]) h1 cz qm fun r h' hn rG eK qh xn=>hK r h' hn ?_
  have LB:(It.q r e n (rows++news)).ok h':=⟨by rw[List.flatten_append];exact rG,fun q hq=>by rcases Yk.1 hq with hq | hq;exact ho.2 q hq;exact hr q hq⟩
  have h3:=cp.gC (k:=k+1) dV eK LB xn fun b hb bz=>qh b hb bz
  exact h3.drop 1
theorem St.set{α:Type}{h0 h:Heap}{L:List It}(hs:St h0 h L)(k:Nat){s:Sl}{e:TypeId}{n:Nat}{cs:α->List Value}{l:List α}(hk:L[k]?=some (.sl s e n (l.map cs)))(hn:0<n){x:Int}(jr:0<=x)(Ln:x<(s.n:Nat))(y:α){vs:List Value}(hv:vs=cs y)
    {m:Nat} (hm:m=vs.length) {K:Nat->Nat->Heap->Prop} (hK:∀b o h',St h0 h' (L.set k (.sl s e n ((l.set x.toNat y).map cs)))->K b o h') (hy:(cs y).length=n) :
    NB s.a fun b o=>(0<=x/\x<(s.n:Nat))/\(fG h ⟨b,o+x.toNat*n,none⟩ m/\∀h',h'=bh h ⟨b,o+x.toNat*n,none⟩ 0 vs->K b o h'):=by
  subst hv
  have R5:=(hs.rows k hk hn).ln
  have cG:x.toNat<l.length:=by omega
  have uH:=(hs.get hk).2 (cs l[x.toNat]) (Yp.2 ⟨_,List.getElem_mem cG,rfl⟩)
  refine hs.Rc k hk hn (i:=x.toNat) (row:=cs l[x.toNat]) (by rw[Yd,Yi cG];rfl) 0 (by omega) (fun b o h' h1=>hK b o h' ?_) hm ⟨jr,Ln⟩
  have e1:ay (cs l[x.toNat]) 0 (cs y)=cs y:=by
    unfold ay
    rw[sX,List.nil_append,List.drop_eq_nil_of_le (by omega),Yw]
  rw[e1] at h1
  rw[List.map_set]
  exact h1
theorem St.fx{h0 h:Heap}{L:List It}{b:Nat}{xs:List Value}{e:TypeId}(hs:St h0 h (.af b xs e::L))(m n:Nat)(rows:List (List Value))(hx:xs=rows.flatten)(hr:∀r∈rows,r.length=n)(hl:rows.length=m)(hm:m<=maxLen):St h0 h (.sl ⟨some ⟨b,0,none⟩,m,m⟩ e n rows::L):=by
  have h1:Own h b xs e:=hs.get (k:=0) rfl
  subst hx
  have ie:=aL rows hr
  refine hs.gC (k:=0) (j:=.sl ⟨some ⟨b,0,none⟩,m,m⟩ e n rows) rfl (aY _) ⟨⟨by rw[ie,hl],.inr ⟨b,_,rfl,Nat.zero_le _,h1,aY _,hm,?_,?_⟩⟩,hr⟩ (fun c hc=>.inr hc) (fun _ _ _=>rfl)
  . show rows.flatten.length=_
    rw[ie,hl]
  . show rows.flatten.take (m*n)=_
    exact Yj (by rw[ie,hl];exact aY _)
end Go.VC
end

section
namespace Go.VC
open Go.RowKit Go.Maps Go.ChangeMaps
def aG{α β:Type}[DecidableEq α]:List (α × β)->α->Option β
  | [],_=>none
  | (x,y)::r,a=>if x=a then some y else aG r a
def bU{α β:Type}[DecidableEq α]:List (α × β)->α->β->List (α × β)
  | [],a,b=>[(a,b)]
  | (x,y)::r,a,b=>if x=a then (x,b)::r else (x,y)::bU r a b
theorem iJ{α β:Type}[DecidableEq α]{a:α}:∀ {l:List (α × β)},(∀q∈l,q.1≠a)->aG l a=none
  | [],_=>rfl
  | (x,y)::r,h=>by rw[aG,if_neg (h (x,y) (by simp))];exact iJ fun q hq=>h q (Yn _ hq)
theorem eu{α β:Type}[DecidableEq α]{a:α}{y:β}:∀ {l:List (α × β)} {j:Nat},(l.map Prod.fst).Nodup->l[j]?=some (a,y)->aG l a=some y
  | [],j,_,h=>by simp at h
  | (x,z)::r,0,_,h=>by simp at h;rw[aG,if_pos h.1,h.2]
  | (x,z)::r,j+1,hn,h=>by
    rw[List.getElem?_cons_succ] at h
    rw[kf,List.nodup_cons] at hn
    have:x≠a:=fun e=>hn.1 (by subst e;exact Yp.2 ⟨_,Yb h,rfl⟩)
    rw[aG,if_neg this]
    exact eu hn.2 h
theorem iH{α β:Type}[DecidableEq α]{a:α}{b:β}:∀ {l:List (α × β)},(∀q∈l,q.1≠a)->bU l a b=l++[(a,b)]
  | [],_=>rfl
  | (x,y)::r,h=>by rw[bU,if_neg (h (x,y) (by simp)),iH fun q hq=>h q (Yn _ hq)];rfl
theorem iG{α β:Type}[DecidableEq α]{a:α}{y b:β}:∀ {l:List (α × β)} {j:Nat},(l.map Prod.fst).Nodup->l[j]?=some (a,y)->bU l a b=l.set j (a,b)
  | [],j,_,h=>by simp at h
  | (x,z)::r,0,_,h=>by simp at h;rw[bU,if_pos h.1,List.set_cons_zero,h.1]
  | (x,z)::r,j+1,hn,h=>by
    rw[List.getElem?_cons_succ] at h
    rw[kf,List.nodup_cons] at hn
    have:x≠a:=fun e=>hn.1 (by subst e;exact Yp.2 ⟨_,Yb h,rfl⟩)
    rw[bU,if_neg this,List.set_cons_succ,iG hn.2 h]
theorem et{α β:Type}[DecidableEq α](a:α)(b:β):∀(l:List (α × β)) (x:α),x∈(bU l a b).map Prod.fst ↔ x∈l.map Prod.fst\/x=a
  | [],x=>by simp[bU]
  | (c,y)::r,x=>by
    rw[bU]
    split
    . rename_i h;subst h
      simp only[kf,Yr]
      constructor
      . intro h;exact .inl h
      . rintro (h | rfl)
        . exact h
        . exact .inl rfl
    . simp only[kf,Yr,et a b r x]
      constructor
      . rintro (h | h | h)
        . exact .inl (.inl h)
        . exact .inl (.inr h)
        . exact .inr h
      . rintro ((h | h) | h)
        . exact .inl h
        . exact .inr (.inl h)
        . exact .inr (.inr h)
theorem eI{α β:Type}[DecidableEq α](a:α)(b:β):∀(l:List (α × β)),(l.map Prod.fst).Nodup->((bU l a b).map Prod.fst).Nodup
  | [],_=>by simp[bU]
  | (c,y)::r,h=>by
    rw[bU]
    split
    . exact h
    . rename_i bz
      rw[kf,List.nodup_cons] at h ⊢
      refine⟨fun hm=>?_,eI a b r h.2⟩
      rcases (et a b r c).1 hm with h1 | h1
      . exact h.1 h1
      . exact bz h1
theorem Bn.push{es:Array MapEntry}{clock:Nat}(hb:Bn es clock)(k v:Value):Bn (es.push ⟨k,v,clock⟩) (clock+1):=by
  obtain⟨h1,h2⟩:=hb
  refine⟨fun x hx=>?_,?_⟩
  . rw[Array.toList_push] at hx
    rcases Yk.1 hx with hx | hx
    . have:=h1 x hx;omega
    . rw[Ye.1 hx];exact Nat.lt_succ_self _
  . rw[Array.toList_push,Ym,List.nodup_append]
    refine⟨h2,by simp,fun a ha c hc e=>?_⟩
    simp only[kf,List.map_nil,Ye] at hc
    obtain⟨x,hx,rfl⟩:=Yp.1 ha
    have:=h1 x hx
    omega
theorem tn{α β:Type}{f:α->β}:∀ {l:List α} {j:Nat} {a b:α},l[j]?=some a->f b=f a->(l.set j b).map f=l.map f
  | [],_,_,_,h,_=>by simp at h
  | x::r,0,a,b,h,e=>by simp at h;subst h;simp[e]
  | x::r,j+1,a,b,h,e=>by simp at h;simp[tn h e]
theorem Bn.modify{es:Array MapEntry}{clock j:Nat}{e0:MapEntry}{k v:Value}(hb:Bn es clock){qC:Array MapEntry}(hl:qC.toList=es.toList.set j { e0 with key:=k,val:=v })(h3:es.toList[j]?=some e0):Bn qC clock:=by
  obtain⟨h1,h2⟩:=hb
  have hm:qC.toList.map (·.born)=es.toList.map (·.born):=by rw[hl];exact tn h3 rfl
  refine⟨fun x hx=>?_,by rw[hm];exact h2⟩
  have:x.born∈qC.toList.map (·.born):=Yp.2 ⟨x,hx,rfl⟩
  rw[hm] at this
  obtain⟨y,hy,e⟩:=Yp.1 this
  rw[<-e];exact h1 y hy
theorem St.yY{P:Program}{h0 h:Heap}{L:List It}(hs:St h0 h L)(t:TypeId){K:Value->Heap->Prop}(hK:∀h',Ext h h'->St h0 h' (.mp h.size []::L)->K (.map (some h.size)) h'):br P (Instr.makeMap t none) h K:=by
  intro w hw
  subst hw
  have hE:Ext w.heap (w.alloc (.map #[] 0)).heap:=⟨by show _<=(w.heap.push _).size;rw[Array.size_push];omega,fun i hi=>(MapKept.heap_alloc w _).2 i hi⟩
  refine⟨_,_,run_makeMap t w,?_,rfl,rfl,rfl⟩
  refine hK _ hE (hs.more hE (i:=.mp w.heap.size []) ⟨#[],0,(MapKept.heap_alloc w _).1,rfl,fun x hx=>(by simp at hx),(by simp)⟩ fun b hb=>?_)
  cases hb;exact aY _
section
variable {α β:Type} {P:Program} {t kt e:TypeId} {ck:α->Value} {cv:β->Value} {gH:α->Prop}
structure MT (P:Program) (t kt e:TypeId) (ck:α->Value) (gH:α->Prop) (z:Value):Prop where
  K:Keyed P kt
  ht:P.underlying t=some (.map kt e)
  key:∀a,gH a->∃l,keyOf P kt (ck a)=some l
  inj:∀a a',ck a=ck a'->a=a'
  z:∀w,(zeroValue e).run P w=.ok z w
theorem rp{z:Value}(M:MT P t kt e ck gH z){l:List (α × β)}{es:Array MapEntry}(he:es.toList.map (fun e:MapEntry=>(e.key,e.val))=l.map fun q=>(ck q.1,cv q.2))(hl:∀q∈l,gH q.1){a:α}(ha:gH a)(w:World):
    ((Instr.findKey kt (ck a) es.toList).run P w=.ok none w/\∀q∈l,q.1≠a)\/∃j y e0,(Instr.findKey kt (ck a) es.toList).run P w=.ok (some (j,cv y)) w/\l[j]?=some (a,y)/\es.toList[j]?=some e0/\e0.key=ck a/\e0.val=cv y:=by
  obtain⟨lx,Cs⟩:=M.key a ha
  have jf:∀(j:Nat) (e0:MapEntry),es.toList[j]?=some e0->∃q,l[j]?=some q/\e0.key=ck q.1/\e0.val=cv q.2:=fun j e0 h=>by
    have h1:=congrArg (·[j]?) he
    simp only[Yd,h,Option.map_some] at h1
    obtain⟨q,hq,h2⟩:=zL.1 h1.symm
    exact⟨q,hq,(Prod.mk.inj h2).1.symm,(Prod.mk.inj h2).2.symm⟩
  have G2:∀e0∈es.toList,∃l,keyOf P kt e0.key=some l:=fun e0 hm=>by
    obtain⟨j,hj⟩:=Yf.1 hm
    obtain⟨q,hq,h2,_⟩:=jf j e0 hj
    rw[h2];exact M.key _ (hl q (Yb hq))
  rcases M.K.find w Cs es.toList G2 with ⟨h1,h2⟩ | ⟨j,e0,h1,h2,h3⟩
  . refine .inl ⟨h1,fun q hq hc=>?_⟩
    obtain⟨j,hj⟩:=Yf.1 hq
    have h4:=congrArg (·[j]?) he
    simp only[Yd,hj,Option.map_some] at h4
    obtain⟨e0,OL,h5⟩:=zL.1 h4
    exact h2 e0 (Yb OL) (by rw[(Prod.mk.inj h5).1,hc])
  . obtain⟨q,hq,h4,h5⟩:=jf j e0 h2
    have:q.1=a:=M.inj _ _ (by rw[<-h4,h3])
    obtain⟨q1,q2⟩:=q
    cases this
    exact .inr ⟨j,q2,e0,by rw[h1,h5],hq,h2,h3,h5⟩
theorem rq[DecidableEq α]{z:Value}(M:MT P t kt e ck gH z){h:Heap}{b:Nat}{l:List (α × β)}(hk:It.ok h (.mp b (l.map fun q=>(ck q.1,cv q.2))))(hl:∀q∈l,gH q.1)(hn:(l.map Prod.fst).Nodup){a:α}(ha:gH a)(c:Bool){R:Value->Heap->Prop}
    (hR:R (match aG l a with | none=>if c then .tuple ⟨[z,.bool false]⟩ else z | some y=>if c then .tuple ⟨[cv y,.bool true]⟩ else cv y) h):br P (Instr.lookup t (.map (some b)) (ck a) c) h R:=by
  intro w hw
  subst hw
  obtain⟨es,clock,hb,he,IH⟩:=hk
  obtain⟨lx,Cs⟩:=M.key a ha
  rcases rp (cv:=cv) M he hl ha w with ⟨h1,h2⟩ | ⟨j,y,e0,h1,h2,h3,h4,h5⟩
  . rw[iJ h2] at hR
    refine⟨_,w,?_,hR,rfl,rfl,rfl⟩
    simp[Instr.lookup,run_underlying M.ht,MapKept.run_getObj_map hb,M.K.check w _ Cs,h1,M.z w,Result.andThen]
  . rw[eu hn h2] at hR
    refine⟨_,w,?_,hR,rfl,rfl,rfl⟩
    simp[Instr.lookup,run_underlying M.ht,MapKept.run_getObj_map hb,M.K.check w _ Cs,h1,Result.andThen]
theorem St.DQ[DecidableEq α]{z:Value}(M:MT P t kt e ck gH z){h0 h:Heap}{L:List It}(hs:St h0 h L)(k:Nat){b:Nat}{l:List (α × β)}(hk:L[k]?=some (.mp b (l.map fun q=>(ck q.1,cv q.2))))(hl:∀q∈l,gH q.1)(hn:(l.map Prod.fst).Nodup){a:α}(ha:gH a)(c:Bool){R:Value->Heap->Prop}
    (hR:R (match aG l a with | none=>if c then .tuple ⟨[z,.bool false]⟩ else z | some y=>if c then .tuple ⟨[cv y,.bool true]⟩ else cv y) h):br P (Instr.lookup t (.map (some b)) (ck a) c) h R:=
  rq M (hs.get hk) hl hn ha c hR
theorem St.yZ[DecidableEq α]{z:Value}(M:MT P t kt e ck gH z){h0 h:Heap}{L:List It}(hs:St h0 h L)(k:Nat){b:Nat}{l:List (α × β)}(hk:L[k]?=some (.mp b (l.map fun q=>(ck q.1,cv q.2))))(hl:∀q∈l,gH q.1)(hn:(l.map Prod.fst).Nodup){a:α}(ha:gH a){R:Value->Heap->Prop}
    (hR:R (.tuple ⟨[(aG l a).elim z cv,.bool (aG l a).isSome]⟩) h):br P (Instr.lookup t (.map (some b)) (ck a) true) h R:=by
  refine hs.DQ M k hk hl hn ha true ?_
  generalize aG l a=o at *
  cases o<;>exact hR
theorem St.Bf[DecidableEq α]{z:Value}(M:MT P t kt e ck gH z){h0 h:Heap}{L:List It}(hs:St h0 h L)(k:Nat){b:Nat}{l:List (α × β)}(hk:L[k]?=some (.mp b (l.map fun q=>(ck q.1,cv q.2))))(hl:∀q∈l,gH q.1)(hn:(l.map Prod.fst).Nodup){a:α}(ha:gH a)(y:β){R:Unit->Heap->Prop}
    (hR:∀h',St h0 h' (L.set k (.mp b ((bU l a y).map fun q=>(ck q.1,cv q.2))))->R () h'):br P (Instr.mapUpdate t (.map (some b)) (ck a) (cv y)) h R:=by
  intro w hw
  subst hw
  obtain⟨es,clock,hb,he,IH⟩:=hs.get hk
  obtain⟨lx,Cs⟩:=M.key a ha
  have fin:∀(qC:Array MapEntry) (eR:Nat),qC.toList.map (fun e:MapEntry=>(e.key,e.val))=((bU l a y).map fun q=>(ck q.1,cv q.2))->Bn qC eR->R () (setBlock w b (.map qC eR)).heap:=by
    intro qC eR IC Zo
    refine hR _ (hs.gC hk (j:=.mp b ((bU l a y).map fun q=>(ck q.1,cv q.2))) ?_ ⟨qC,eR,heap_setBlock_same hb _,IC,Zo⟩ (fun c hc=>.inr hc) fun c _ hc=>heap_setBlock_other hb _ fun e=>hc (by rw[e];rfl))
    show w.heap.size<=(w.heap.setIfInBounds b _).size
    rw[Array.size_setIfInBounds];exact aY _
  rcases rp (cv:=cv) M he hl ha w with ⟨h1,h2⟩ | ⟨j,y0,e0,h1,h2,h3,h4,h5⟩
  . refine⟨(),setBlock w b (.map (es.push ⟨ck a,cv y,clock⟩) (clock+1)),?_,fin _ _ ?_ (IH.push _ _),rfl,rfl,rfl⟩
    . simp[Instr.mapUpdate,run_underlying M.ht,MapKept.run_getObj_map hb,M.K.check w false Cs,h1,MapKept.run_setObj_map _ hb,Result.andThen,setBlock]
    . rw[iH h2,Array.toList_push,Ym,he,Ym];rfl
  . have hj:es[j]?=some e0:=by simpa using h3
    have uM:(es.modify j (fun e'=>{ e' with key:=ck a,val:=cv y })).toList=es.toList.set j { e0 with key:=ck a,val:=cv y }:=by rw[Array.toList_modify,modify_eq_set _ _ _ _ h3]
    refine⟨(),setBlock w b (.map (es.modify j (fun e'=>{ e' with key:=ck a,val:=cv y })) clock),?_,fin _ _ ?_ (IH.modify uM h3),rfl,rfl,rfl⟩
    . simp[Instr.mapUpdate,run_underlying M.ht,MapKept.run_getObj_map hb,M.K.check w false Cs,h1,hj,h4,M.K.stays w Cs,MapKept.run_setObj_map _ hb,Result.andThen,setBlock]
    . rw[iG hn h2,uM,List.map_set,he,List.map_set]
theorem find_born{l:List MapEntry}(hn:(l.map (·.born)).Nodup){j:Nat}{e0:MapEntry}(h:l[j]?=some e0):l.findIdx? (fun e=>((e.born:Nat):Int)==((e0.born:Nat):Int))=some j:=by
  induction l generalizing j with
  | nil=>simp at h
  | cons a r ih=>
    rw[kf,List.nodup_cons] at hn
    cases j with
    | zero=>
      rw[List.getElem?_cons_zero] at h;cases h
      rw[List.findIdx?_cons,beq_self_eq_true];rfl
    | succ j=>
      rw[List.getElem?_cons_succ] at h
      have bz:a.born≠e0.born:=fun e1=>hn.1 (Yp.2 ⟨e0,Yb h,e1.symm⟩)
      have hb:(((a.born:Nat):Int)==((e0.born:Nat):Int))=false:=by
        simp only[beq_eq_false_iff_ne,ne_eq,Int.natCast_inj]
        exact bz
      rw[List.findIdx?_cons,hb,ih hn.2 h];rfl
theorem od{es:Array MapEntry}(hn:(es.toList.map (·.born)).Nodup){j:Nat}{e0:MapEntry}(h:es.toList[j]?=some e0):es.findIdx? (fun e=>((e.born:Nat):Int)==((e0.born:Nat):Int))=some j:=by
  rw[<-find_born hn h];cases es;simp
def Stm[DecidableEq α](P:Program)(t:TypeId)(ck:α->Value)(cv:β->Value)(b:Nat)(o:Obj)(st:Int)(l:List (α × β))(a:α):Prop:=
  ∀(w2:World) (y:β),w2.heap[b]?=some o->∃qC eR,(Instr.entryStore t (.map (some b)) (goInt st) (cv y)).run P w2=.ok () (setBlock w2 b (.map qC eR))/\qC.toList.map (fun e:MapEntry=>(e.key,e.val))=((bU l a y).map fun q=>(ck q.1,cv q.2))/\Bn qC eR
theorem St.K9[DecidableEq α]{z:Value}(M:MT P t kt e ck gH z){h0 h:Heap}{L:List It}(hs:St h0 h L)(k:Nat){b:Nat}{l:List (α × β)}(hk:L[k]?=some (.mp b (l.map fun q=>(ck q.1,cv q.2))))(hl:∀q∈l,gH q.1)(hn:(l.map Prod.fst).Nodup){a:α}(ha:gH a){R:Value->Heap->Prop}
    (hR:∀(st:Int) (o:Obj) (h':Heap),St h0 h' (L.set k (.raw b o))->Stm P t ck cv b o st l a->R (.tuple ⟨[(aG l a).elim z cv,.int .i64 st]⟩) h'):br P (Instr.mapEntry t (.map (some b)) (ck a)) h R:=by
  intro w hw
  subst hw
  obtain⟨es,clock,hb,he,IH⟩:=hs.get hk
  obtain⟨lx,Cs⟩:=M.key a ha
  have gC:∀o:Obj,St h0 (setBlock w b o).heap (L.set k (.raw b o)):=fun o=>by
    refine hs.gC hk (j:=.raw b o) ?_ (heap_setBlock_same hb _) (fun c hc=>.inr hc) fun c _ hc=>heap_setBlock_other hb _ fun e=>hc (by rw[e];rfl)
    show w.heap.size<=(w.heap.setIfInBounds b _).size
    rw[Array.size_setIfInBounds];exact aY _
  rcases rp (cv:=cv) M he hl ha w with ⟨h1,h2⟩ | ⟨j,y0,e0,h1,h2,h3,h4,h5⟩
  . refine⟨.tuple #[z,goInt clock],setBlock w b (.map (es.push ⟨ck a,z,clock⟩) (clock+1)),?_,?_,rfl,rfl,rfl⟩
    . simp[Instr.mapEntry,run_underlying M.ht,MapKept.run_getObj_map hb,M.K.check w false Cs,h1,M.z w,MapKept.run_setObj_map _ hb,Result.andThen,setBlock]
    . have h6:=hR clock _ _ (gC (.map (es.push ⟨ck a,z,clock⟩) (clock+1))) ?_
      . rw[iJ h2] at h6;exact h6
      . intro w2 y GY
        have LN:(es.push ⟨ck a,z,clock⟩).findIdx? (fun e=>((e.born:Nat):Int)==((clock:Nat):Int))=some es.size:=
          od (es:=es.push ⟨ck a,z,clock⟩) (e0:=⟨ck a,z,clock⟩) (IH.push _ _).2 (by simp)
        have YZ:(es.push ⟨ck a,z,clock⟩).modify es.size (fun e=>{ e with val:=cv y })=es.push ⟨ck a,cv y,clock⟩:=by
          apply Array.ext'
          rw[Array.toList_modify,Array.toList_push,Array.toList_push,<-Array.length_toList]
          rw[modify_eq_set _ _ _ _ (show (es.toList++[(⟨ck a,z,clock⟩:MapEntry)])[es.toList.length]?=some ⟨ck a,z,clock⟩ by simp)]
          simp
        refine⟨es.push ⟨ck a,cv y,clock⟩,clock+1,?_,?_,IH.push _ _⟩
        . simp[Instr.entryStore,MapKept.run_getObj_map GY,asInt,asIntOf,goInt,LN,YZ,MapKept.run_setObj_map _ GY,Result.andThen,setBlock]
        . rw[iH h2,Array.toList_push,Ym,he,Ym];rfl
  . have hj:es[j]?=some e0:=by simpa using h3
    have RD:es.modify j (fun e=>{ e with key:=ck a })=es:=by
      apply Array.ext'
      rw[Array.toList_modify,modify_eq_set _ _ _ _ h3]
      have:({ e0 with key:=ck a }:MapEntry)=e0:=by rw[<-h4]
      rw[this]
      obtain⟨R8,gM⟩:=Ya.1 h3
      rw[<-gM,List.set_getElem_self R8]
    refine⟨.tuple #[cv y0,goInt e0.born],setBlock w b (.map es clock),?_,?_,rfl,rfl,rfl⟩
    . simp[Instr.mapEntry,run_underlying M.ht,MapKept.run_getObj_map hb,M.K.check w false Cs,h1,hj,h4,M.K.stays w Cs,RD,MapKept.run_setObj_map _ hb,Result.andThen,setBlock]
    . have h6:=hR e0.born _ _ (gC (.map es clock)) ?_
      . rw[eu hn h2] at h6;exact h6
      . intro w2 y GY
        have LN:=od IH.2 h3
        have uM:(es.modify j (fun e'=>{ e' with val:=cv y })).toList=es.toList.set j { e0 with key:=ck a,val:=cv y }:=by rw[Array.toList_modify,modify_eq_set _ _ _ _ h3,<-h4]
        refine⟨es.modify j (fun e'=>{ e' with val:=cv y }),clock,?_,?_,IH.modify uM h3⟩
        . simp[Instr.entryStore,MapKept.run_getObj_map GY,asInt,asIntOf,goInt,LN,MapKept.run_setObj_map _ GY,Result.andThen,setBlock]
        . rw[iG hn h2,uM,List.map_set,he,List.map_set]
theorem St.DG[DecidableEq α]{h0 h:Heap}{L:List It}(hs:St h0 h L)(k:Nat){b:Nat}{o:Obj}{l:List (α × β)}{a:α}{st:Int}(hk:L[k]?=some (.raw b o))(hm:Stm P t ck cv b o st l a)(y:β){R:Unit->Heap->Prop}
    (hR:∀h',St h0 h' (L.set k (.mp b ((bU l a y).map fun q=>(ck q.1,cv q.2))))->R () h'):br P (Instr.entryStore t (.map (some b)) (.int .i64 st) (cv y)) h R:=by
  intro w hw
  subst hw
  have hb:w.heap[b]?=some o:=hs.get hk
  obtain⟨qC,eR,h1,h2,h3⟩:=hm w y hb
  have BD:b<w.heap.size:=(wo.1 hb).1
  have zf:(setBlock w b (.map qC eR)).heap[b]?=some (.map qC eR):=by
    show (w.heap.setIfInBounds b _)[b]?=_
    rw[Array.getElem?_setIfInBounds_self_of_lt BD]
  refine⟨(),_,h1,hR _ (hs.gC hk (j:=.mp b ((bU l a y).map fun q=>(ck q.1,cv q.2))) ?_ ⟨qC,eR,zf,h2,h3⟩ (fun c hc=>.inr hc) fun c _ hc=>?_),rfl,rfl,rfl⟩
  case refine_2=>
    show (w.heap.setIfInBounds b _)[c]?=_
    rw[Array.getElem?_setIfInBounds_ne (fun e=>hc (by rw[<-e];rfl))]
  show w.heap.size<=(w.heap.setIfInBounds b _).size
  rw[Array.size_setIfInBounds];exact aY _
end
end Go.VC
end

section
namespace Go.VC
theorem B7{α:Type}:∀(q:Ask α) (w:World),w.drawn<=(w.ask q).2.drawn:=by
  intro q
  induction q with
  | done a=>intro w;exact aY _
  | ask what range k ih=>
    intro w
    unfold World.ask
    simp only
    split
    . exact ih _ w
    . exact mQ (Nat.le_succ _) (ih _ { w with drawn:=w.drawn+1 })
theorem Az(w:World)(c:Sys):w.drawn<=(w.sys c).2.drawn:=by
  have h:=B7 (Kernel.perform c w.os) w
  unfold World.sys
  generalize w.ask (Kernel.perform c w.os)=r at h
  obtain⟨⟨a,os⟩,w'⟩:=r
  split
  . exact aY _
  . rename_i e;cases e;exact h
theorem mJ{p:Program}{w:World}{at_:Addr}{u:TypeId}{k:Addr}{v:Value}{b:Bool}{w':World}{l:List Addr}(h:w.viewStore p at_ u k v b=.ok (w',l)):w'.drawn=w.drawn:=by
  unfold World.viewStore at h
  simp only[bind,Except.bind,pure,Except.pure] at h
  repeat' split at h
  all_goals first | (cases h;done) | (cases h;rfl) | skip
theorem og{p:Program}{w:World}{a:Addr}{v:Value}{b:Bool}{w':World}{l:List Addr}(h:w.farStore p a v b=.ok (w',l)):w'.drawn=w.drawn:=by
  unfold World.farStore at h
  repeat' split at h
  all_goals first | (cases h;done) | skip
  rename_i r hr
  cases h
  exact mJ hr
theorem AO{α:Type}(s:Sem α)(P:Program):∀(w:World) (v:α) (w':World),s.run P w=.ok v w'->w.drawn<=w'.drawn:=by
  induction s with
  | pure a=>intro w v w' h;cases h;exact aY _
  | load m a k ih=>
    intro w v w' h
    unfold Sem.run at h
    repeat' split at h
    all_goals first | exact ih _ w v w' h | (cases h;done)
  | store m a u k ih=>
    intro w v w' h
    cases u<;>simp only[Sem.run] at h<;>(first | (cases h;done) | skip)<;>(repeat' split at h) <;>
      first
        | (cases h;done)
        | exact ih (w.setCell a _) v w' h
        | (rename_i hf;exact (og hf) ▸ ih _ v w' h)
  | new o k ih=>intro w v w' h;exact ih _ { w with heap:=w.heap.push o } v w' h
  | shape r k ih=>intro w v w' h;exact ih _ w v w' h
  | freeze a n k ih=>
    intro w v w' h
    have:=ih (w.freeze a n) v w' h
    unfold World.freeze at this
    split at this<;>exact this
  | frozen a k ih=>intro w v w' h;exact ih _ w v w' h
  | getObj r k ih=>
    intro w v w' h
    unfold Sem.run at h
    repeat' split at h
    all_goals first | exact ih _ w v w' h | (cases h;done)
  | setObj r o k ih=>
    intro w v w' h
    unfold Sem.run at h
    repeat' split at h
    all_goals first | exact ih { w with heap:=w.heap.setIfInBounds r o } v w' h | (cases h;done)
  | choose q k ih=>
    intro w v w' h
    unfold Sem.run at h
    split at h
    . exact ih _ w v w' h
    . exact mQ (Nat.le_succ _) (ih _ { w with drawn:=w.drawn+1 } v w' h)
  | sys c k ih=>
    intro w v w' h
    exact mQ (Az w c) (ih _ (w.sys c).2 v w' h)
  | program k ih=>intro w v w' h;exact ih _ w v w' h
  | mark m k ih=>intro w v w' h;exact ih w v w' h
  | halt h0=>intro w v w' h;cases h
abbrev fH:ax:=⟨fun w w'=>w.drawn<=w'.drawn,fun _=>aY _,mQ,fun _ _=>aY _,fun _=>Nat.le_succ _,fun s P w v w' h=>AO s P w v w' h⟩
end Go.VC
end

section
namespace Go.VC
open Go.Proofs Go.Shelf Go.RowKit Go.Lib Go.Sort
theorem BW{P:Program}{g:FuncId}{args:Array Value}{v:Value}{W:World}
    (hc:@Fn fH P g args W.heap fun u h'=>u=v/\Ext W.heap h') :
    Calls P g args W fun e w'=>e=.returned v/\∃q os',w'=grow (W.drewN q) os':=by
  refine (hc W rfl).mono ?_
  rintro e w' ⟨_,rfl,⟨rfl,hE⟩,h1,h2,h3,h4⟩
  refine⟨rfl,w'.drawn-W.drawn,w'.heap.extract W.heap.size w'.heap.size,?_⟩
  replace h4:W.drawn<=w'.drawn:=h4
  obtain⟨hp,tp,dr,os,ou⟩:=w'
  obtain⟨Ej,tp0,dr0,os0,ou0⟩:=W
  simp only at h1 h2 h3 h4 hE
  subst h1 h2 h3
  unfold Sort.grow World.drewN
  simp only[World.mk.injEq,and_true,true_and]
  refine⟨?_,by omega⟩
  apply Array.ext_getElem?
  intro i
  rw[Array.getElem?_append]
  by_cases hi:i<Ej.size
  . rw[if_pos hi];exact hE.2 i hi
  . rw[if_neg hi,Array.getElem?_extract]
    by_cases hj:i<hp.size
    . rw[if_pos (by omega)];congr 1;omega
    . rw[if_neg (by omega)];exact Array.getElem?_eq_none (by omega)
theorem tx{α:Type}[Inhabited α]{enc:α->List Value}{k:Nat}(l:List α){t:Nat}(ht:t<l.length*k)(hl:∀x,(enc x).length=k):
    (l.map enc).flatten[t]?=some ((enc l.toArray[t/k]!)[t%k]!):=by
  have hk:0<k:=by rcases Nat.eq_zero_or_pos k with h | h;(subst h;simp at ht);exact h
  have hi:t/k<l.length:=Nat.div_lt_of_lt_mul (by rwa [Nat.mul_comm] at ht)
  have hm:t%k<k:=Nat.mod_lt _ hk
  have he:l.toArray[t/k]! = l[t/k]:=by simp[hi]
  have h1:=getElem?_flatten (k:=k) (l.map enc) (t/k) (t%k) (enc l[t/k]) (fun r hr=>by obtain⟨x,_,rfl⟩:=Yp.1 hr;exact hl x) (by rw[Yd,Yi hi];rfl) hm
  rw[show t/k*k+t%k=t by rw[Nat.mul_comm];exact Nat.div_add_mod t k] at h1
  rw[h1,he,Yi (by rw[hl];exact hm),getElem!_pos _ _ (by rw[hl];exact hm)]
theorem tm{α:Type}[Inhabited α]{lt:α->α->Bool}{d:Array α}(h:SortedIn lt 0 d.size d):d.toList.Pairwise fun a b=>lt b a=false:=by
  rw[List.pairwise_iff_getElem]
  intro i j hi hj zh
  have:=h i j (Nat.zero_le _) zh (by simpa using hj)
  rw[getElem!_pos d i (by simpa using hi),getElem!_pos d j (by simpa using hj)] at this
  simpa using this
theorem nu{P:Program}{ρ:Ren}{α:Type}[Inhabited α](L:SlLaysF0.n6 P ρ)(k:Nat)(e:TypeId)(aE:∀w,(isAgg (ρ.t 24)).run P w=.ok true w)(zE:∀w,(Go.sizeOf (ρ.t 24)).run P w=.ok k w)
    (enc:α->List Value) (hl:∀x,(enc x).length=k) (h1:∀x,∀v∈enc x,v.oneCell'=true) (cf:α->α->Int) (hO:SWO (ltOf cf)) (g:Nat)
    (eg:∀args w,(callFunc g args).run P w=.ok (.enter g args) w)
    (xu:∀(x y:α) (h:Heap),@Fn fH P g #[.agg ⟨enc x⟩,.agg ⟨enc y⟩] h fun v h'=>v=.int .i64 (cf x y)/\Ext h h')
    {h0 h:Heap} {Ls:List It} (hs:St h0 h Ls) (i:Nat) {s:Sl} {l:List α} (hi:Ls[i]?=some (.sl s e k (l.map enc))) (xr:0<k) (hm:l.length<4611686018427387904) :
    Fn P (ρ.f 6) #[.slice s.a s.n s.c,.func (.func g) #[] #[]] h fun v h'=>v=.tuple ⟨[]⟩/\∃l':List α,l'.Perm l/\l'.Pairwise (fun a b=>ltOf cf b a=false)/\St h0 h' (Ls.set i (.sl s e k (l'.map enc))):=by
  intro w hw
  subst hw
  have jf:=hs.get hi
  have kF:=hs.rw i hi xr
  have hn:s.n=l.length:=by have:=kF.1;simpa using this
  have dH:Ls.set i (.sl s e k (l.map enc))=Ls:=by
    obtain⟨a,b⟩:=Ya.1 hi
    rw[<-b];exact List.set_getElem_self a
  rcases jf.1.2 with ⟨ha,sS,ig⟩ | ⟨b,cur,ha,EA,hh,Bv,zm,eK,Lu⟩
  . have oI:l=[]:=List.length_eq_zero_iff.1 (by omega)
    rw[ha,sS,ig]
    refine (AnyF.slices_SortFunc_none L none ((0:Nat):Nat) (.func (.func g) #[] #[]) w).mono ?_
    rintro e' w' ⟨rfl,rfl⟩
    refine⟨_,rfl,⟨rfl,l,List.Perm.refl _,by rw[oI];exact List.Pairwise.nil,?_⟩,rfl,rfl,rfl,trivial⟩
    rw[dH];exact hs
  . have hblk:b<w.heap.size:=(wo.1 hh).1
    have VL:s.n*k<=s.c*k:=Nat.mul_le_mul_right _ Bv
    have Ks:∀t,t<s.n*k->cur[t]?=some ((enc l.toArray[t/k]!)[t%k]!):=by
      intro t ht
      have h2:=tx (enc:=enc) (k:=k) l (t:=t) (by rw[<-hn];exact ht) hl
      rw[<-Lu,vM,if_pos ht] at h2
      simpa using h2
    have hH:HoldsK enc k w b 0 l.toArray:=by
      intro t ht
      rw[size_flatK] at ht
      have oG:t<s.n*k:=by rw[hn];simpa using ht
      refine⟨?_,?_⟩
      . rw[get_flatK _ _ _ _ ht]
        unfold World.cell?
        simp only[hh,Nat.zero_add]
        rw[Ks t oG];rfl
      . unfold World.frozen?
        simp only[hh]
        simp
    have Ss:=AnyQ.slices_SortFunc L k aE zE enc hl h1 cf hO g #[] b 0 s.c l.toArray w eg
      (fun m os dk _ x y=>by
        have:=BW (P:=P) (g:=g) (args:=#[.agg (enc x).toArray,.agg (enc y).toArray] ++ #[]) (W:=sortWorldK enc k w b 0 m dk os) (v:=.int .i64 (cf x y)) (by simpa using xu x y _)
        exact this) hH hblk (by simpa using hm)
    have Mh:(l.toArray.size:Nat)=s.n:=by rw[hn];simp
    rw[Mh] at Ss
    rw[ha]
    refine Ss.mono ?_
    rintro e' w' ⟨rfl,d',n,os,hp,hsd,rfl⟩
    have Iq:d'.size=s.n:=by rw[hp.1];exact Mh
    have uJ:d'.toList.Perm l:=by
      have h2:=hp.2.2
      rw[<-Mh,show d'.extract 0 l.toArray.size=d' by rw[<-hp.1];simp,show l.toArray.extract 0 l.toArray.size=l.toArray by simp] at h2
      exact h2
    have En:d'.toList.length=s.n:=by simpa using Iq
    refine⟨_,rfl,⟨rfl,d'.toList,uJ,tm (by rw[Iq];exact hsd),?_⟩,rfl,rfl,rfl,trivial⟩
    have EB:(sortWorldK enc k w b 0 n d' os).heap[b]?=some (.cells (putCells id 0 (flatK enc k d') cur) e (0,0)):=by
      unfold sortWorldK Sort.grow putRowK putRow mapBlock
      show ((w.heap.modify b _)++os)[b]?=_
      rw[Array.getElem?_append_left (by simpa using hblk),Array.getElem?_modify,if_pos rfl,hh]
      rfl
    have LA:∀c,c<w.heap.size->c≠b->(sortWorldK enc k w b 0 n d' os).heap[c]?=w.heap[c]?:=by
      intro c hc bz
      unfold sortWorldK Sort.grow putRowK putRow mapBlock
      show ((w.heap.modify b _)++os)[c]?=_
      rw[Array.getElem?_append_left (by simpa using hc),Array.getElem?_modify,if_neg (fun e=>bz e.symm)]
    refine hs.gC hi (by
        unfold sortWorldK Sort.grow putRowK putRow mapBlock
        show _<=((w.heap.modify b _)++os).size
        rw[Array.size_append,Array.size_modify]
        exact Nat.le_add_right _ _) (j:=.sl s e k (d'.toList.map enc)) ?_ (fun c hc=>.inr hc) (fun c hc bz=>LA c hc fun e=>bz (by subst e;show s.a.map (·.block)=_;rw[ha];rfl))
    refine⟨⟨?_,.inr ⟨b,_,ha,Nat.zero_le _,EB,Bv,zm,by rw[<-eK];simp[putCells],?_⟩⟩,fun r hr=>by obtain⟨x,_,rfl⟩:=Yp.1 hr;exact hl x⟩
    . rw[aL (k:=k) _ (fun r hr=>by obtain⟨x,_,rfl⟩:=Yp.1 hr;exact hl x),Yc,En]
    . apply wm
      intro t
      rw[vM]
      by_cases ht:t<s.n*k
      . rw[if_pos ht,tx d'.toList (by rw[En];exact ht) hl]
        have hc:=Ks t ht
        simp only[putCells,Array.getElem?_toList,Array.getElem?_mapIdx,hc,Option.map_some]
        rw[if_pos ⟨Nat.zero_le _,by rw[size_flatK,Iq];omega⟩,Nat.sub_zero,get_flatK _ _ _ _ (by rw[Iq];exact ht)]
        rfl
      . rw[if_neg ht,Yl (by rw[aL (k:=k) _ (fun r hr=>by obtain⟨x,_,rfl⟩:=Yp.1 hr;exact hl x),Yc,En];omega)]
end Go.VC
end

section
namespace Go.VC
open Go.RowKit
theorem lq{b o i c k:Nat}(h:i<c):bg (some ⟨b,o,none⟩) i c k=some ⟨b,o+i*k,none⟩:=by
  unfold bg
  rw[if_neg (by omega)]
  show some ((⟨b,o,none⟩:Addr).add (i*k))=_
  rw[show (⟨b,o,none⟩:Addr).add (i*k)=⟨b,o+i*k,none⟩ from zK _ _ _]
theorem Rw.from{h:Heap}{k:Nat}{s:Sl}{rows:List (List Value)}(hr:Rw h k s rows){i:Nat}(hc:s.n<=s.c)(hi:i<s.n):Rw h k ⟨bg s.a i s.c k,s.n-i,s.c-i⟩ (rows.drop i):=by
  obtain⟨h1,h2⟩:=hr
  refine⟨by rw[List.length_drop];show s.n-i=_;omega,fun _=>?_⟩
  obtain⟨b,o,ha,Me⟩:=h2 (by omega)
  refine⟨b,o+i*k,by rw[ha];exact lq (by omega),fun j row hj=>?_⟩
  rw[List.getElem?_drop] at hj
  have:=Me (i+j) row hj
  rw[Nat.add_mul,<-Nat.add_assoc] at this
  exact this
theorem fm(z:Array Value)(n:Nat):(Builtin.zeroCells z n).toList.length=n*z.size:=by
  simp[Builtin.zeroCells]
theorem oQ{z:Array Value}{n:Nat}{v:Value}(h:v∈(Builtin.zeroCells z n).toList)(hz:0<z.size):v∈z.toList:=by
  simp only[Builtin.zeroCells] at h
  simp only[Array.mem_toList_iff,Array.mem_map] at h
  obtain⟨i,_,rfl⟩:=h
  rw[getElem!_pos z _ (Nat.mod_lt _ hz)]
  simp
theorem St.clear{P:Program}{h0 h:Heap}{L:List It}(hs:St h0 h L)(k:Nat){s:Sl}{e:TypeId}{n:Nat}{rows:List (List Value)}(hk:L[k]?=some (.sl s e n rows))(hn:0<n)(i:Nat)(hi:i<=s.n){t ty e2:TypeId}{z:Value}
    (hu:P.underlying t=some (.slice e2)) (hz:∀w,(zeroValue e2).run P w=.ok z w) (hzn:z.cells.size=n) (Bo:z.cells.toList.all fF=true) {K:Value->Heap->Prop}
    (hK:∀v h',St h0 h' (L.set k (.sl ⟨s.a,i,s.c⟩ e n (rows.take i)))->K v h'):br P (Builtin.clear_ #[t] ty #[.slice (bg s.a i s.c n) (s.n-i) (s.c-i)]) h K:=by
  intro w hw
  subst hw
  have jf:=hs.get hk
  have R5:=(hs.rw k hk hn).1
  have uP:=jf.1.cap
  by_cases dQ:i=s.n
  . refine⟨.tuple #[],w,?_,hK _ _ ?_,rfl,rfl,rfl⟩
    . rw[show s.n-i=0 by omega]
      cases bg s.a i s.c n<;>simp[Builtin.clear_,run_underlying hu]
    . have e1:rows.take i=rows:=Yj (by omega)
      have e2:(⟨s.a,i,s.c⟩:Sl)=s:=by rw[dQ]
      rw[e1,e2]
      obtain⟨a,b⟩:=Ya.1 hk
      rw[<-b,List.set_getElem_self a];exact hs
  . have cG:i<s.n:=by omega
    rcases jf.1.2 with ⟨_,sS,_⟩ | ⟨g,cur,ha,EA,hh,Bv,zm,eK,Lu⟩
    . omega
    . have hm:(s.n-i)*n+i*n=s.n*n:=by rw[<-Nat.add_mul];congr 1;omega
      have hmc:s.n*n<=s.c*n:=Nat.mul_le_mul_right _ Bv
      have Lw:bg s.a i s.c n=some ⟨g,0+i*n,none⟩:=by rw[ha];exact lq (by omega)
      have hlen:=fm z.cells (s.n-i)
      rw[hzn] at hlen
      have uK:(Builtin.zeroCells z.cells (s.n-i)).toList.all fF=true:=by
        rw[List.all_eq_true] at Bo ⊢
        exact fun v hv=>Bo v (oQ hv (by omega))
      have lI:Own w.heap g cur.toList e:=by unfold Own;rw[hh]
      have pA:=lI.fG (o:=0+i*n) (n:=(Builtin.zeroCells z.cells (s.n-i)).toList.length) (by rw[hlen];simp;omega)
      obtain⟨w',hr,hh',hf⟩:=eC (P:=P) (a:=⟨g,0+i*n,none⟩) (Builtin.zeroCells z.cells (s.n-i)).toList 0 w uK (fun j hj=>by rw[show 0+j=j from Nat.zero_add j];exact pA j hj)
      have Kg:=Own.bh (o:=0+i*n) (Builtin.zeroCells z.cells (s.n-i)).toList 0 w.heap cur.toList lI (by rw[hlen];simp;omega)
      have Mb:=jz.bh (a:=⟨g,0+i*n,none⟩) (Builtin.zeroCells z.cells (s.n-i)).toList 0 w.heap
      rw[<-hh'] at Kg Mb
      refine⟨.tuple #[],w',?_,hK _ _ ?_,hf.1,hf.2.1,hf.2.2.1⟩
      . rw[Lw]
        obtain⟨m,hm⟩:∃m,s.n-i=m+1:=⟨s.n-i-1,by omega⟩
        rw[hm] at hr ⊢
        simp only[Nat.zero_add] at hr
        simp[Builtin.clear_,run_underlying hu,hz,hr]
      . refine hs.gC hk (by rw[Mb.1];exact aY _) (j:=.sl ⟨s.a,i,s.c⟩ e n (rows.take i)) ?_ (fun b hb=>.inr hb) (fun b hb bz=>Mb.2 b fun e=>bz (by subst e;show s.a.map (·.block)=_;rw[ha];rfl))
        have uH:∀r∈rows.take i,r.length=n:=fun r hr=>jf.2 r (List.mem_of_mem_take hr)
        refine⟨⟨by rw[aL _ uH,Yu];show min i rows.length*n=i*n;rw[Nat.min_eq_left (by omega)],.inr ⟨g,_,ha,Nat.zero_le _,Kg,by show i<=s.c;omega,zm,?_,?_⟩⟩,uH⟩
        . show (ay _ _ _).length=s.c*n
          rw[<-eK]
          have:0+i*n+0+(Builtin.zeroCells z.cells (s.n-i)).toList.length<=cur.toList.length:=by rw[hlen];simp;omega
          unfold ay
          simp only[Yh,Yu,List.length_drop,Array.length_toList] at this ⊢
          omega
        . show (ay cur.toList (0+i*n+0) _).take (i*n)=_
          have h3:(rows.take i).flatten=rows.flatten.take (i*n):=by
            have h5:rows=rows.take i++rows.drop i:=(List.take_append_drop i rows).symm
            rw[congrArg List.flatten h5,List.flatten_append,O8 (by rw[aL _ uH,Yu,Nat.min_eq_left (by omega)];exact aY _)]
            rw[Yj (l:=(rows.take i).flatten) (by rw[aL _ uH,Yu,Nat.min_eq_left (by omega)];exact aY _)]
          rw[h3,<-Lu,List.take_take,Nat.min_eq_left (by omega)]
          unfold ay
          rw[Yz,O8 (by rw[Yu,Array.length_toList];omega),List.take_take,Nat.min_eq_left (by omega)]
theorem Av{P:Program}{t u e:TypeId}(hu:P.underlying t=some (.slice e))(hs:(P.info? e).map (·.size)=some 1){h:Heap}{b o MY Tn:Nat}{xs:List Value}{ty:TypeId}(ho:Own h b xs ty)
    {g2 o2 nz AN:Nat} {l:List Value} (hn:l.length=min nz MY) (YG:∀(j:Nat) (c:Value),l[j]?=some c->hc h ⟨g2,o2+j,none⟩=some c) (rK:o+l.length<=xs.length) (h1:∀v∈l,v.oneCell'=true)
    {K:Int->Heap->Prop} (hK:∀h',jz b h h'->Own h' b (ay xs o l) ty->K l.length h') :
    Wu P t u (.slice (some ⟨b,o,none⟩) MY Tn) (.slice (some ⟨g2,o2,none⟩) nz AN) h K:=by
  intro ty' w hw
  subst hw
  have fp:=run_copy_row (P:=P) w t u ty' e b o MY Tn ⟨g2,o2,none⟩ nz AN ⟨xs⟩ ty l hu hs ho hn
    (fun j v hj=>by
      have e:(⟨g2,o2,none⟩:Addr).add j=⟨g2,o2+j,none⟩:=zK _ _ _
      rw[e];exact YG j v hj)
    (by simp;omega) h1
  obtain⟨h2,h3⟩:=ny (ys:=ay xs o l) ho
  exact⟨_,_,fp,⟨l.length,rfl,hK _ h3 h2⟩,rfl,rfl,rfl⟩
end Go.VC
end

section
namespace Go.VC
open Go.RowKit
variable {F:Fence} {n:Nat} {P:Program}
end Go.VC
end

section
namespace Go.VC
open Go.ChangeShapes Go.WideShapes Go.RowKit
def fieldAt(P:Program)(t:TypeId)(i:Nat):Option (TypeId × Nat):=match P.underlying t with
  | some (.struct fs)=>(fs[i]?).map fun f=>(f.type,f.offset)
  | _=>none
theorem sC.field{P:Program}{W:World}{t ft:TypeId}{cs:List Value}{i off:Nat}(h:sC P W t cs)(hf:fieldAt P t i=some (ft,off)):sC P W ft ((cs.drop off).take (P.cellsOf ft)):=by
  unfold fieldAt at hf
  split at hf
  . rename_i fs hu
    obtain⟨f,h1,h2⟩:=zL.1 hf
    cases h2
    exact (h.struct hu).2 i f h1
  . cases hf
theorem sC.ET{P:Program}{W:World}{t ft:TypeId}{cs:List Value}{i off:Nat}(h:sC P W t cs)(hf:fieldAt P t i=some (ft,off)):cs.length=P.cellsOf t:=by
  unfold fieldAt at hf
  split at hf
  . rename_i fs hu;exact (h.struct hu).1
  . cases hf
theorem sC.array{P:Program}{W:World}{t e:TypeId}{n:Nat}{cs:List Value}(ht:P.underlying t=some (.array n e))(h:sC P W t cs):
    cs.length=P.cellsOf t/\∀i,i<n->sC P W e ((cs.drop (i*P.cellsOf e)).take (P.cellsOf e)):=by
  obtain⟨H,enc,m,x,h⟩:=h
  obtain⟨xs,k,_,_,hl,hx,hf⟩:=DataW.trod_array ht h
  refine⟨hl,fun i hi=>?_⟩
  exact⟨H,enc,k,xs[i]'(by omega),by rw[hf i hi,Yi (by omega)]⟩
theorem wL{P:Program}{w:World}{r:Reach}{base:Nat}{t:TypeId}{v:Value}(ht:j9 P t=true)(h:Value.okWide P w r base t v):∃cs,v=.agg cs:=by
  unfold j9 at ht
  unfold Value.okWide at h
  split at ht
  . rename_i hu;simp only[hu] at h;obtain⟨cs,h1,_⟩:=h;exact⟨cs,h1⟩
  . rename_i hu;simp only[hu] at h;obtain⟨cs,h1,_⟩:=h;exact⟨cs,h1⟩
  . cases ht
/-! ### with the weights: no slice is greater than the reach -/
end Go.VC
end
