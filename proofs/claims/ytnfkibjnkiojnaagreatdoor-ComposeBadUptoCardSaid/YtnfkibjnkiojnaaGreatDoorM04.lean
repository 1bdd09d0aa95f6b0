/- VcLib2 VcEnd VcOpen VcRow VcCopy VcSt. -/
import Derived.Test.YtnfkibjnkiojnaaGreatDoorM02
import Derived.Test.YtnfkibjnkiojnaaGreatDoorM01
import Derived.ChangeSame
import Derived.ChangeMaps5
import Derived.JoinedOf
import Derived.JoinedAt
import Derived.RowKit3
import Derived.WalkKit
import Derived.ProofKit
import Derived.OpenShut
import Derived.Carry
import Derived.ChangeArms
import Derived.Laws.IdiomStrings
import Derived.Lib.BufferRead
import Derived.Laws.CopyRow
import Derived.Lib.BufferWrite
import Derived.Lib.MakeNoZero
import Derived.Lib.AppendStr
set_option linter.unusedVariables false
set_option linter.unusedSimpArgs false
set_option maxRecDepth 100000

section
/- More lemmas for the conditions of VcCore: frames, slices of the call's own, append. -/
namespace Go.VC
open Go.RowKit

def Kp (n:Nat) (h h':Heap):Prop:=h.size<=h'.size/\∀ k,k<n->h'[k]?=h[k]?
theorem Kp.trans {n:Nat} {a b c:Heap} (h:Kp n a b) (k:Kp n b c):Kp n a c:=⟨Yys h.1 k.1,fun i hi=>(k.2 i hi).trans (h.2 i hi)⟩
theorem Kp.ext {h h':Heap} (hk:Kp h.size h h'):Ext h h':=hk
theorem Ext.kp {h h':Heap} (hE:Ext h h') {n:Nat} (hn:n<=h.size):Kp n h h':=⟨hE.1,fun k hk=>hE.2 k (by omega)⟩
theorem Kp.but {n b:Nat} {h h':Heap} (hb:But b h h') (hn:n<=b):Kp n h h':=⟨by rw [hb.1]; exact Yyt _,fun k hk=>hb.2 k (by omega)⟩
def Stp (b:Nat) (h h':Heap):Prop:=h.size<=h'.size/\∀ k,k<h.size->k ≠ b->h'[k]?=h[k]?
theorem Stp.of_but {b:Nat} {h h':Heap} (hb:But b h h'):Stp b h h':=⟨by rw [hb.1]; exact Yyt _,fun k _ hk=>hb.2 k hk⟩
def OwnS (h:Heap) (base:Nat) (e:TypeId) (size:Nat) (s:Sl) (xs:List Value):Prop:=
  xs.length=s.n*size/\((s.a=none/\s.n=0/\s.c=0) \/
    ∃ g cur,s.a=some ⟨g,0,none⟩/\base<=g/\h[g]?=some (.cells cur e (0,0))/\s.n<=s.c/\s.c<=maxLen/\cur.size=s.c*size/\cur.toList.take (s.n*size)=xs)
theorem OwnS.nil {h:Heap} {base:Nat} {e:TypeId} {size:Nat}:OwnS h base e size ⟨none,0,0⟩ []:=⟨by simp,.inl ⟨rfl,rfl,rfl⟩⟩
theorem OwnS.row {w:World} {base:Nat} {e:TypeId} {size:Nat} {s:Sl} {xs:List Value} (h:OwnS w.heap base e size s xs):w.ownsRow base e size (.slice s.a s.n s.c) s.n xs:=by
  obtain ⟨h1,h2⟩:=h
  refine ⟨h1,?_⟩
  rcases h2 with ⟨ha,hn,hc⟩ | ⟨g,cur,ha,hb,hh,hn,hc,hs,ht⟩
  · exact .inl ⟨by rw [ha,hn,hc],hn⟩
  · exact .inr ⟨g,s.c,cur,by rw [ha],hb,hh,hn,hc,hs,ht⟩
theorem OwnS.of_row {w:World} {base:Nat} {e:TypeId} {size:Nat} {v:Value} {n:Nat} {xs:List Value} (h:w.ownsRow base e size v n xs) :
    ∃ s:Sl,v=.slice s.a s.n s.c/\s.n=n/\OwnS w.heap base e size s xs:=by
  obtain ⟨h1,h2⟩:=h
  rcases h2 with ⟨hv,hn⟩ | ⟨g,cap,cur,hv,hb,hh,hn,hc,hs,ht⟩
  · exact ⟨⟨none,0,0⟩,hv,hn.symm,by rw [hn] at h1; exact ⟨h1,.inl ⟨rfl,rfl,rfl⟩⟩⟩
  · exact ⟨⟨some ⟨g,0,none⟩,n,cap⟩,hv,rfl,h1,.inr ⟨g,cur,rfl,hb,hh,hn,hc,hs,ht⟩⟩
theorem OwnS.kp {h h':Heap} {base:Nat} {e:TypeId} {size:Nat} {s:Sl} {xs:List Value} (ho:OwnS h base e size s xs) (hE:∀ g,s.a=some ⟨g,0,none⟩->g<h.size->h'[g]?=h[g]?):OwnS h' base e size s xs:=by
  obtain ⟨h1,h2⟩:=ho
  refine ⟨h1,?_⟩
  rcases h2 with h2 | ⟨g,cur,ha,hb,hh,r⟩
  · exact .inl h2
  · exact .inr ⟨g,cur,ha,hb,by rw [hE g ha (Yyg.1 hh).1]; exact hh,r⟩
theorem OwnS.hc {h:Heap} {base:Nat} {e:TypeId} {size:Nat} {s:Sl} {xs:List Value} (ho:OwnS h base e size s xs) {g:Nat} (hg:s.a=some ⟨g,0,none⟩) {i:Nat} {v:Value} (hv:xs[i]?=some v):hc h ⟨g,i,none⟩=some v:=by
  obtain ⟨h1,h2⟩:=ho
  rcases h2 with ⟨ha,_⟩ | ⟨g',cur,ha,hb,hh,hn,hc,hs,ht⟩
  · rw [ha] at hg; cases hg
  · rw [ha] at hg; cases hg
    unfold VC.hc
    rw [hh]
    simp only [Option.isSome_none,Bool.false_eq_true,if_false]
    rw [<- ht] at hv
    rw [Yyf] at hv
    split at hv
    · rw [<- Array.getElem?_toList]; exact hv
    · cases hv
def appB (P:Program) (t e size bytes:Nat):Bool:=
  sliceB P t && Nat.beq (elemOf P t) e && isT P e && ((P.info? e).bind (·.zero)).isSome && Nat.beq (zeroC P e).length size && Nat.beq (szOf P e) size && Nat.beq (byOf P e) bytes && Nat.blt 0 size
end Go.VC
end

section
namespace Go.VC
open Go.ChangeShapes Go.WideShapes Go.RowKit
theorem trodAll_stays {H:Type} {enc:TypeId × Value->H} {P:Program} (hl:laidOutB P=true) {W W':World} (hb:Below W.heap.size W W') {sp:Nat->Bool} :
    ∀ (ts:List TypeId) (vs:List Value) (ds:List (DataW H)) (ps:List MemPlace),(∀ t ∈ ts,P.readableRec t=true/\t<P.types.size)->DataW.TrodAll enc P W 0 (fun _=>true) true ts vs ds ps ->
      (∀ x ∈ ps,x.block<W.heap.size)->(∀ x ∈ ps,sp x.block=true)->DataW.TrodAll enc P W' 0 sp true ts vs ds ps
  | [],vs,ds,ps,_,h,_,_=>by
    obtain ⟨rfl,rfl,rfl⟩:=trodAll_nil h
    exact trodAll_mk0
  | t::ts,vs,ds,ps,ht,h,hlt,hsp=>by
    obtain ⟨v,vs',d,ds',p,q,rfl,rfl,rfl,h0,r0⟩:=trodAll_cons h
    have h1:=ht t Yx
    exact trodAll_cons_mk (WideElems.Trod_stays hl h1.1 h1.2 h0 (fun x hx=>hb.same (hlt x (List.mem_append_left _ hx))) (fun x hx=>hsp x (List.mem_append_left _ hx)))
      (trodAll_stays hl hb ts vs' ds' q (fun t ht'=>ht t (Yn _ ht')) r0 (fun x hx=>hlt x (List.mem_append_right _ hx)) (fun x hx=>hsp x (List.mem_append_right _ hx)))
theorem post_law {H:Type} {enc:TypeId × Value->H} {P:Program} {f:Func} {s:ChangeSpec} {apart fresh handsOn again:Bool} {W W':World} {args:Array Value} {ds gs:List (DataW H)} {before:List MemPlace} {tb:TypeId}
    (hl:laidOutB P=true) (hts:∀ t ∈ f.params.toList,P.readableRec t=true/\t<P.types.size) (hvars:s.vars=[])
    (hW:DataW.Whole enc P f.params.toList s.vars apart W args.toList ds gs before)
    (hres:(s.fn H (ds++gs)).results=[.lit (.bool true)]) (hargs:(s.fn H (ds++gs)).args=ds) (hvr:(s.fn H (ds++gs)).vars=[])
    (hrt:f.resultTypes=#[tb]) (htb:P.underlying tb=some .bool) (hE:Ext W.heap W'.heap) (hos:W'.os=W.os) (htape:W'.tape=W.tape) (hout:W'.output=W.output) :
    s.post enc P f apart fresh handsOn again W args (.bool true) W':=by
  have hb:Below W.heap.size W W':=⟨hos,htape,hout,hE.1,hE.2⟩
  have hk:W.keptBut W' (· ∈ before):=⟨hos,hout,fun i hi=>by
    rw [hE.2 i hi]
    exact (World.keptBut_refl W (· ∈ before)).2.2 i hi⟩
  have hfz:∀ a:Addr,a.block<W.heap.size->W'.frozen? a=W.frozen? a:=fun a ha=>fz_of_block (h:=W.heap) (h':=W'.heap) (hE.2 _ ha)
  have hlt:=hW.lt
  have hold:∀ p ∈ before,(fun b=>decide (b<W.heap.size)) p.block=true:=fun p hp=>by simpa using hlt p hp
  have hW':=hW
  obtain ⟨p,q,hA,hV,hps,hz,hn⟩:=hW
  rw [hvars] at hV
  obtain ⟨rfl,rfl⟩:=trodVars_none hV
  have hpb:before=p:=by rw [hps,Yw]
  have targs:∀ sp:Nat->Bool,(∀ x ∈ before,sp x.block=true)->DataW.TrodAll enc P W' 0 sp true f.params.toList args.toList (s.fn H (ds++[])).args p:=fun sp hsp=>by
    rw [hargs]
    exact trodAll_stays hl hb _ _ _ _ hts hA (fun x hx=>hlt x (by rw [hpb]; exact hx)) (fun x hx=>hsp x (by rw [hpb]; exact hx))
  have tres:∀ (b:Nat) (sp:Nat->Bool) (hd:Bool),DataW.TrodAll enc P W' b sp hd f.resultTypes.toList ((Value.bool true).resultList f.resultTypes.size) (s.fn H (ds++[])).results []:=fun b sp hd=>by
    rw [hres,hrt]
    exact trodAll_cons_mk (shut_bool htb _) trodAll_mk0
  have tvars:∀ sp:Nat->Bool,DataW.TrodVars enc P W' sp s.vars (s.fn H (ds++[])).vars []:=fun sp=>by
    rw [hvars,hvr]; rfl
  refine ⟨ds,[],before,[],p,[],hW',tres _ _ _,targs _ hold,tvars _,World.keptBut_mono (fun x hx=>⟨hx,?_⟩) hk,fun _=>?_⟩
  · rw [hpb] at hx; exact Or.inr (by simpa using hx)
  · refine ⟨ok_one hrt rfl (okWide_bool_mk htb _),_,_,([]++p)++[],⟨[]++p,[],trodAll_append (targs _ (fun _ _=>rfl)) (tres _ _ _),tvars _,rfl,?_,?_⟩,?_⟩
    · intro b off hp
      have hp':MemPlace.cell b off ∈ before:=by rw [hpb]; simpa using hp
      rw [hfz _ (hlt _ hp')]
      exact hz b off hp'
    · intro ha
      have:=hn ha
      rw [hpb] at this
      simpa using this
    · intro x hx _
      rw [hpb]
      simpa using hx
theorem Fn.calls {P:Program} {f:FuncId} {args:Array Value} {W:World} {R:Value->Heap->Prop} (hf:Fn P f args W.heap R) :
    Calls P f args W fun e w'=>∃ v,e=.returned v/\R v w'.heap/\w'.os=W.os/\w'.tape=W.tape/\w'.output=W.output:=(hf W rfl).mono fun _ _ ⟨v,a,b,c,d,e,_⟩=>⟨v,a,b,c,d,e⟩
end Go.VC
end

section
/- What an argument of a law looks like in memory, type by type. -/
namespace Go.VC
open Go.ChangeShapes Go.WideShapes Go.RowKit

def Rdt (P:Program) (W:World) (t:TypeId) (cs:List Value):Prop:=
  ∃ (H:Type) (enc:TypeId × Value->H) (n:Nat) (x:DataW H × List MemPlace),DataW.trod enc P W 0 (fun _=>true) true n t cs=some x
theorem Rdt.int {P:Program} {W:World} {t:TypeId} {cs:List Value} {k:IntKind} (ht:P.underlying t=some (.int k)) (h:Rdt P W t cs):∃ n,cs=[.int k n]/\(Lit.int k n).wf=true:=by
  obtain ⟨H,enc,n,x,h⟩:=h
  obtain ⟨m,h1,_,h2⟩:=DataW.trod_int ht h
  exact ⟨m,h1,h2⟩
theorem Rdt.bool {P:Program} {W:World} {t:TypeId} {cs:List Value} (ht:P.underlying t=some .bool) (h:Rdt P W t cs):∃ b,cs=[.bool b]:=by
  obtain ⟨H,enc,n,x,h⟩:=h
  cases n with
  | zero=>simp [DataW.trod] at h
  | succ n=>
    unfold DataW.trod at h
    rw [ht] at h
    split at h <;> simp_all
theorem Rdt.struct {P:Program} {W:World} {t:TypeId} {cs:List Value} {fs:Array Field} (ht:P.underlying t=some (.struct fs)) (h:Rdt P W t cs) :
    cs.length=P.cellsOf t/\∀ (i:Nat) (f:Field),fs[i]?=some f->Rdt P W f.type ((cs.drop f.offset).take (P.cellsOf f.type)):=by
  obtain ⟨H,enc,n,x,h⟩:=h
  obtain ⟨xs,m,_,_,hl,hx,hf⟩:=DataW.trod_struct ht h
  refine ⟨hl,fun i f hi=>?_⟩
  have hlt:i<xs.length:=by rw [hx]; exact (Yyg.1 hi).1
  exact ⟨H,enc,m,xs[i],by rw [hf i f hi,Yi hlt]⟩
theorem mapM_range {α:Type} {f:Nat->Option α}:∀ (n:Nat) {r:List α},(List.range n).mapM f=some r->r.length=n/\∀ i,i<n->f i=r[i]?
  | 0,r,h=>by simp at h; subst h; exact ⟨rfl,fun i hi=>by omega⟩
  | n+1,r,h=>by
    rw [List.range_succ,List.mapM_append] at h
    simp only [List.mapM_cons,List.mapM_nil,Option.bind_eq_bind,Option.pure_def,Option.bind_eq_some_iff,Option.some.injEq] at h
    obtain ⟨a,ha,b,⟨c,hc,d,rfl,rfl⟩,rfl⟩:=h
    obtain ⟨h1,h2⟩:=mapM_range n ha
    refine ⟨by simp [h1],fun i hi=>?_⟩
    by_cases hin:i<n
    · rw [Yyi (by omega)]; exact h2 i hin
    · have:i=n:=by omega
      subst this
      rw [Yyc (by omega),h1,hc]; simp
theorem cells_at {W:World} {base:Nat} {a:Addr} {n:Nat} {cs:List Value} (h:W.cells? base a n=some cs):cs.length=n/\∀ i v,cs[i]?=some v->W.cell? (a.add i)=some v:=by
  unfold World.cells? at h
  split at h
  · obtain ⟨h1,h2⟩:=mapM_range n h
    exact ⟨h1,fun i v hi=>by rw [h2 i (by have:=(Ya.1 hi).1; omega)]; exact hi⟩
  · cases h
theorem add_n (b o n:Nat):(⟨b,o,none⟩:Addr).add n=⟨b,o+n,none⟩:=by
  unfold Addr.add
  by_cases h:n=0
  · rw [if_pos h,h]; rfl
  · rw [if_neg h]
end Go.VC
end

section
/- For every program: strings al lists of bytes, rows of cells in memory, counting loops. -/
namespace Go.VC
open Go.RowKit

theorem size_len (s:ByteArray):s.size=s.data.toList.length:=(Array.length_toList).symm
theorem byte_get {s:ByteArray} {i:Nat} (h:i<s.size):∃ b:UInt8,s.data.toList[i]?=some b/\byteAt s i=b.toNat:=by
  have hl:i<s.data.toList.length:=by rw [<- size_len]; exact h
  refine ⟨s.data.toList[i],Yi hl,?_⟩
  unfold byteAt
  rw [Yo,Yi hl]; rfl
def bs (l:List UInt8):ByteArray:=⟨⟨l⟩⟩
theorem bs_size (l:List UInt8):(bs l).size=l.length:=rfl
theorem bs_list (l:List UInt8):(bs l).data.toList=l:=rfl
theorem drop_cons {L:List UInt8} {j:Nat} {b:UInt8} (h:L[j]?=some b):L.drop j=b::L.drop (j+1):=by
  obtain ⟨hl,he⟩:=Ya.1 h
  rw [List.drop_eq_getElem_cons hl,he]
theorem OwnS.len {h:Heap} {base:Nat} {e:TypeId} {size:Nat} {s:Sl} {xs:List Value} (ho:OwnS h base e size s xs):xs.length=s.n*size:=ho.1
def byteC (l:List UInt8):List Value:=l.map fun b=>.int .u8 b.toNat
theorem str_c {P:Program} {tb e ts:Nat} (u1:P.underlying tb=some (.slice e)) (u2:P.underlying e=some (.int .u8)) (u3:P.underlying ts=some .string) {h:Heap} {base ty:Nat} {s:Sl} {l:List UInt8} (ho:OwnS h base ty 1 s (byteC l)):RunW P (Go.convert tb ts (.slice s.a s.n s.c)) h fun v h'=>v=.string (bs l)/\h'=h:=by
  intro w hw
  subst hw
  have hn:l.length=s.n:=by have:=ho.1; simp [byteC] at this; exact this
  rcases ho.2 with ⟨ha,h0,hc⟩ | ⟨g,cur,ha,_⟩
  · have:l=[]:=List.length_eq_zero_iff.1 (by omega)
    subst this
    rw [ha,h0,hc]
    exact ⟨_,w,Go.Lib.run_convert_nil_bytes w tb ts e 0 u1 u2 u3,⟨rfl,rfl⟩,rfl,rfl,rfl⟩
  · refine ⟨_,w,?_,⟨rfl,rfl⟩,rfl,rfl,rfl⟩
    rw [ha,<- hn]
    exact Go.run_convert_bytes_back w tb ts e ⟨g,0,none⟩ s.c l u1 u2 u3 fun j hj=>by
      have h1:=ho.hc ha (i:=j) (v:=.int .u8 (l[j].toNat:Int)) (by simp [byteC,hj])
      have e:(⟨g,0,none⟩:Addr).add j=⟨g,j,none⟩:=by
        unfold Addr.add; split
        · subst_vars; rfl
        · simp only [Nat.zero_add]
      rw [e]
      exact h1
theorem OwnS.mono {h:Heap} {b b':Nat} {e:TypeId} {size:Nat} {s:Sl} {xs:List Value} (ho:OwnS h b e size s xs) (hb:b'<=b):OwnS h b' e size s xs:=by
  obtain ⟨h1,h2⟩:=ho
  refine ⟨h1,?_⟩
  rcases h2 with h2 | ⟨g,cur,ha,hg,r⟩
  · exact .inl h2
  · exact .inr ⟨g,cur,ha,Yys hb hg,r⟩
theorem OwnS.cap {h:Heap} {b:Nat} {e:TypeId} {size:Nat} {s:Sl} {xs:List Value} (ho:OwnS h b e size s xs):s.n<=s.c:=by
  rcases ho.2 with ⟨_,h0,h1⟩ | ⟨g,cur,ha,hb,hh,hn,_⟩
  · omega
  · exact hn
theorem strEq (a b:ByteArray):(ByteArray.toList a == ByteArray.toList b)=decide (a.data.toList=b.data.toList):=by
  rw [ByteArray.toList_eq,ByteArray.toList_eq]
  by_cases h:a.data.toList=b.data.toList
  · rw [h,beq_self_eq_true,decide_eq_true rfl]
  · rw [decide_eq_false h]; exact beq_eq_false_iff_ne.2 h
theorem all_split (p:UInt8->Bool) (L:List UInt8):L.all p=true ↔ ∀ (b:UInt8) (j:Nat),L[j]?=some b->p b=true:=by
  rw [List.all_eq_true]
  exact ⟨fun h b j hb=>h b (Yb hb),fun h b hb=>by obtain ⟨j,hj⟩:=Yf.1 hb; exact h b j hj⟩
theorem splice_all {l vs:List Value} (h:l.length=vs.length):splice l (0+0) vs=vs:=by
  unfold splice
  rw [Yyk,List.nil_append,Nat.zero_add,List.drop_eq_nil_of_le (by omega),Yw]
theorem subA_zero (a:Option Addr) (c size:Nat):subA a 0 c size=a:=by
  unfold subA
  split
  · rfl
  · cases a with
    | none=>rfl
    | some a=>rw [Nat.zero_mul]; rfl
theorem App_none {P:Program} {t e size bytes:Nat} (hT:appB P t e size bytes=true) {h:Heap} {base:Nat} {s:Sl} {xs:List Value} (ho:OwnS h base e size s xs) {K:Sl->Heap->Prop} (hK:K s h) :
    App P t t (.slice s.a s.n s.c) (.slice none 0 0) h K:=by
  intro ty w hw
  subst hw
  unfold appB at hT
  simp only [Yt] at hT
  obtain ⟨⟨⟨⟨⟨⟨⟨hs,he⟩,ht⟩,hz⟩,hzl⟩,hsz⟩,hby⟩,hpos⟩:=hT
  have hu:=sliceB_e hs
  rw [beqT he] at hu
  obtain ⟨i,hi⟩:=isT_info ht
  exact ⟨_,w,run_append_owned_none w base t ty e i size hu hi _ s.n xs ho.row,⟨s,rfl,hK⟩,rfl,rfl,rfl⟩
/-! ### rows of cells -/
def Rw (h:Heap) (k:Nat) (s:Sl) (rows:List (List Value)):Prop:=
  s.n=rows.length/\(0<rows.length->∃ b o,s.a=some ⟨b,o,none⟩/\∀ (i:Nat) (row:List Value),rows[i]?=some row->atC h ⟨b,o+i*k,none⟩ row)
theorem atC.hd {h:Heap} {a:Addr} {v:Value} {vs:List Value} (ha:atC h a (v::vs)):hc h a=some v:=ha 0 v rfl
theorem atC.nth {h:Heap} {b o:Nat} {vs:List Value} (ha:atC h ⟨b,o,none⟩ vs) (i:Nat) {v:Value} (hv:vs[i]?=some v):hc h ⟨b,o+i,none⟩=some v:=by
  have:=ha i v hv
  rwa [addk_at] at this
theorem Rw.nil {h:Heap} {k:Nat}:Rw h k ⟨none,0,0⟩ []:=⟨rfl,fun hp=>absurd hp (by simp)⟩
theorem Rw.empty {h:Heap} {k:Nat} {s:Sl} (hs:s.n=0):Rw h k s []:=⟨hs,fun hp=>absurd hp (by simp)⟩
theorem Rw.ext {h h':Heap} (hE:Ext h h') {k:Nat} {s:Sl} {rows:List (List Value)} (hr:Rw h k s rows):Rw h' k s rows:=by
  refine ⟨hr.1,fun hp=>?_⟩
  obtain ⟨b,o,ha,hall⟩:=hr.2 hp
  exact ⟨b,o,ha,fun i row hi=>atC_ext hE (hall i row hi)⟩
theorem Rw.nb {h:Heap} {k:Nat} {s:Sl} {rows:List (List Value)} (hr:Rw h k s rows) {i:Nat} {row:List Value} (hi:rows[i]?=some row) {F:Nat->Nat->Prop}
    (hF:∀ b o,s.a=some ⟨b,o,none⟩->atC h ⟨b,o+i*k,none⟩ row->F b o):NB s.a F:=by
  have hl:=(Ya.1 hi).1
  obtain ⟨b,o,ha,hall⟩:=hr.2 (by omega)
  rw [ha,NB_some]
  exact hF b o ha (hall i row hi)
theorem getElem?_flatten {α:Type} {k:Nat}:∀ (rows:List (List α)) (i j:Nat) (row:List α),(∀ r ∈ rows,r.length=k)->rows[i]?=some row->j<k->rows.flatten[i*k+j]?=row[j]?
  | [],i,j,row,_,h,_=>by simp at h
  | a::rows,0,j,row,hk,h,hj=>by
    rw [List.getElem?_cons_zero] at h; cases h
    have:=hk a (by simp)
    rw [Yyu,Nat.zero_mul,Nat.zero_add,Yyi (by omega)]
  | a::rows,i+1,j,row,hk,h,hj=>by
    rw [List.getElem?_cons_succ] at h
    have ha:=hk a (by simp)
    rw [Yyu,Yyc (by rw [Nat.succ_mul]; omega),show (i+1)*k+j - a.length=i*k+j by rw [Nat.succ_mul]; omega]
    exact getElem?_flatten rows i j row (fun r hr=>hk r (Yn _ hr)) h hj
theorem flatten_len {α:Type} {k:Nat}:∀ (rows:List (List α)),(∀ r ∈ rows,r.length=k)->rows.flatten.length=rows.length*k
  | [],_=>by simp
  | a::rows,h=>by rw [Yyu,Yh,flatten_len rows fun r hr=>h r (Yn _ hr),h a (by simp),Yyj,Nat.succ_mul]; omega
theorem OwnS.rw {h:Heap} {base e k:Nat} {s:Sl} {rows:List (List Value)} (ho:OwnS h base e k s rows.flatten) (hk:∀ r ∈ rows,r.length=k) (hk0:0<k):Rw h k s rows:=by
  have hl:=ho.len
  rw [flatten_len rows hk] at hl
  have hn:rows.length=s.n:=Nat.eq_of_mul_eq_mul_right hk0 hl
  refine ⟨hn.symm,fun hp=>?_⟩
  rcases ho.2 with ⟨_,h0,_⟩ | ⟨g,cur,ha,_⟩
  · omega
  · refine ⟨g,0,ha,fun i row hi j v hj=>?_⟩
    have hr:=hk row (Yb hi)
    have hjk:j<k:=by have:=(Ya.1 hj).1; omega
    rw [addk_at,Nat.zero_add]
    exact ho.hc ha (by rw [getElem?_flatten rows i j row hk hi hjk]; exact hj)
theorem atC_flat {h:Heap} {k b:Nat}:∀ (rows:List (List Value)) (o:Nat),(∀ r ∈ rows,r.length=k)->(∀ (i:Nat) (row:List Value),rows[i]?=some row->atC h ⟨b,o+i*k,none⟩ row)->atC h ⟨b,o,none⟩ rows.flatten
  | [],o,_,_=>fun i v hv=>by simp at hv
  | r::rows,o,hk,hr=>by
    intro n v hv
    have h0:=hk r (by simp)
    rw [Yyu] at hv
    by_cases hn:n<r.length
    · rw [Yyi hn] at hv
      have:=hr 0 r rfl n v hv
      rwa [Nat.zero_mul,Nat.add_zero] at this
    · rw [Yyc (by omega)] at hv
      have:=atC_flat rows (o+k) (fun x hx=>hk x (Yn _ hx)) (fun i row hi=>by
        have:=hr (i+1) row hi
        rw [Nat.succ_mul] at this
        rwa [show o+k+i*k=o+(i*k+k) by omega]) (n - r.length) v hv
      rw [addk_at] at this ⊢
      rwa [show o+k+(n - r.length)=o+n by omega] at this
theorem get_some {α:Type} {l:List α} {i:Nat} (h:i<l.length):∃ x,l[i]?=some x:=⟨l[i],Yi h⟩
theorem take_snoc {α:Type} {l:List α} {i:Nat} {x:α} (h:l[i]?=some x):l.take (i+1)=l.take i++[x]:=by rw [List.take_add_one,h]; rfl

theorem any_t {α:Type} {l:List α} {p:α->Bool} {i:Nat} {x:α} (h:l[i]?=some x) (hp:p x=true):l.any p=true:=List.any_eq_true.2 ⟨x,Yb h,hp⟩
theorem any_f {α:Type} {l:List α} {p:α->Bool} (h:∀ (i:Nat) (x:α),l[i]?=some x->p x=false):l.any p=false:=by
  rw [Bool.eq_false_iff]
  intro hc
  obtain ⟨x,hx,hp⟩:=List.any_eq_true.1 hc
  obtain ⟨i,hi⟩:=Yf.1 hx
  rw [h i x hi] at hp; cases hp
theorem scan_next {α:Type} {l:List α} {p:α->Bool} {i:Nat} {x:α} (h:l[i]?=some x) (hp:p x=false) (ha:∀ (j:Nat) (y:α),j<i->l[j]?=some y->p y=false) (j:Nat) (y:α) (hj:j<i+1) (hy:l[j]?=some y):p y=false:=by
  by_cases e:j=i
  · subst e; rw [h] at hy; cases hy; exact hp
  · exact ha j y (by omega) hy
theorem newb {h:Heap} {xs:List Value} {e:TypeId} {K:Heap->Prop} (hK:∀ h2,Ext h h2->Own h2 h.size xs e->K h2):∀ h2:Heap,h2=h.push (.cells ⟨xs⟩ e)->K h2:=by
  rintro h2 rfl; exact hK _ (Ext.push ..) Own.push
theorem newput {h:Heap} {zs vs:List Value} {e:TypeId} {K:Heap->Prop} (hl:zs.length=vs.length) (hK:∀ h3,Ext h h3->Own h3 h.size vs e->K h3) :
    ∀ h2:Heap,h2=h.push (.cells ⟨zs⟩ e)->okAt h2 ⟨h.size,0,none⟩ vs.length/\∀ h3:Heap,h3=hputs h2 ⟨h.size,0,none⟩ 0 vs->K h3:=by
  rintro h2 rfl
  have o:Own (h.push (.cells ⟨zs⟩ e)) h.size zs e:=Own.push
  refine ⟨o.okAt (by omega),?_⟩
  rintro h3 rfl
  have hb:But h.size (h.push (.cells ⟨zs⟩ e)) (hputs (h.push (.cells ⟨zs⟩ e)) ⟨h.size,0,none⟩ 0 vs):=But.hputs (a:=⟨h.size,0,none⟩) vs 0 _
  refine hK _ ?_ ?_
  · have h1:=Ext.push h (.cells ⟨zs⟩ e)
    have h2:=Ext.of_but hb (Yyt h.size)
    exact (Kp.trans (h1.kp (Yyt _)) (Kp.but hb (Yyt _))).ext
  · have:=Own.hputs vs 0 (h.push (.cells ⟨zs⟩ e)) zs (o:=0) o (by omega)
    rw [splice_all hl] at this
    exact this
theorem Ext.sm {h h':Heap} (hE:Ext h h') {al:List Addr}:Sm al h h':=fun a _ k v hv=>hc_ext hE hv
/-! ### counting loops -/
def Up (n:Nat) (Q:Nat->Heap->Prop) (x:Int) (h:Heap) (m:Nat):Prop:=∃ i:Nat,x=i/\m=n - i/\i<=n/\Q i h
theorem Up.zero {n:Nat} {Q:Nat->Heap->Prop} {h:Heap} (h0:Q 0 h):∃ m,Up n Q 0 h m:=⟨_,0,rfl,rfl,by omega,h0⟩
theorem Up.next {n i:Nat} {Q:Nat->Heap->Prop} {h:Heap} (hi:i<n) (hn:n<=9223372036854775807) (h1:Q (i+1) h):∃ m,m<n - i/\Up n Q (IntKind.wrap .i64 ((i:Int)+1)) h m:=
  ⟨_,by omega,i+1,by rw [w64 (by omega) (by omega)]; omega,rfl,by omega,h1⟩
theorem lt_t {i n:Nat} (h:decide ((i:Int)<(n:Int))=true):i<n:=by have:=Yyn h; omega
theorem lt_f {i n:Nat} (h:decide ((i:Int)<(n:Int))=false):n<=i:=by have:=Yyo h; omega
theorem up_loop {n:Nat} {h:Heap} {B:(Int->Heap->Nat->Prop)->Env->Int->Heap->Nat->Prop} (Q:Nat->Heap->Prop) (h0:Q 0 h)
    (hB:∀ (e:Env) (i:Nat) (h':Heap),i<=n->Q i h'->B (Up n Q) e i h' (n - i)):∃ I:Int->Heap->Nat->Prop,(∃ m,I 0 h m)/\∀ (e:Env) (x:Int) (h':Heap) (m:Nat),I x h' m->B I e x h' m:=
  ⟨Up n Q,Up.zero h0,by rintro e x h' m ⟨i,rfl,rfl,hi,hq⟩; exact hB e i h' hi hq⟩
end Go.VC
end

section
/- For every program: copy into an own row of bytes, MakeNoZero. -/
namespace Go.VC
open Go.RowKit

theorem setRow_own {w:World} {b:Nat} {xs ys:List Value} {ty:TypeId} (ho:Own w.heap b xs ty):Own (w.setRow b ys.toArray).heap b ys ty/\But b w.heap (w.setRow b ys.toArray).heap:=by
  refine ⟨setRow_heap w b ⟨xs⟩ ys.toArray ty (0,0) ho,?_⟩
  unfold World.setRow
  refine ⟨by simp,fun k hk=>?_⟩
  rw [Array.getElem?_modify,if_neg (by omega)]
end Go.VC
end

section
/- For every program: the memory of a call's own al one list of blocks and slices that are apart from each other. -/
namespace Go.VC
open Go.RowKit

def OwnQ (h:Heap) (e:TypeId) (k:Nat) (s:Sl) (xs:List Value):Prop:=
  xs.length=s.n*k/\((s.a=none/\s.n=0/\s.c=0)\/∃ g o cur,s.a=some ⟨g,o,none⟩/\h[g]?=some (.cells cur e (0,0))/\s.n<=s.c/\s.c<=maxLen/\o+s.c*k<=cur.size/\(cur.toList.drop o).take (s.n*k)=xs)
inductive It where
  | blk (b:Nat) (xs:List Value) (e:TypeId)
  | sl (s:Sl) (e:TypeId) (k:Nat) (rows:List (List Value))
  | q (s:Sl) (e:TypeId) (k:Nat) (rows:List (List Value))
  | mp (b:Nat) (kvs:List (Value × Value))
def It.at:It->Option Nat
  | .blk b _ _=>some b
  | .sl s _ _ _=>s.a.map (·.block)
  | .q s _ _ _=>s.a.map (·.block)
  | .mp b _=>some b
def It.ok (h:Heap):It->Prop
  | .blk b xs e=>Own h b xs e
  | .sl s e k rows=>OwnS h 0 e k s rows.flatten/\∀ r ∈ rows,r.length=k
  | .q s e k rows=>OwnQ h e k s rows.flatten/\∀ r ∈ rows,r.length=k
  | .mp b kvs=>∃ es clock,h[b]?=some (.map es clock)/\es.toList.map (fun e:MapEntry=>(e.key,e.val))=kvs
def It.fr (n:Nat) (i:It):Prop:=∀ b,i.at=some b->n<=b
def It.apart (i j:It):Prop:=∀ b,i.at=some b->j.at ≠ some b
structure St (h0 h:Heap) (L:List It):Prop where
  ext:Ext h0 h
  ok:∀ i ∈ L,i.ok h/\i.fr h0.size
  ap:L.Pairwise It.apart
theorem own_at_zero {h:Heap} {base:Nat} {e:TypeId} {k:Nat} {s:Sl} {xs:List Value} (ho:OwnS h base e k s xs) {b:Nat} (hb:s.a.map (·.block)=some b):s.a=some ⟨b,0,none⟩/\b<h.size/\base<=b:=by
  rcases ho.2 with ⟨ha,_⟩ | ⟨g,cur,ha,hg,hh,_⟩
  · rw [ha] at hb; cases hb
  · rw [ha] at hb
    simp only [Option.map_some,Option.some.injEq] at hb
    subst hb
    exact ⟨ha,(Yyg.1 hh).1,hg⟩
theorem It.ok.lt {h:Heap} {i:It} (ho:i.ok h) {b:Nat} (hb:i.at=some b):b<h.size:=by
  cases i with
  | blk c xs e=>cases hb; exact Own.lt ho
  | sl s e k rows=>exact (own_at_zero ho.1 hb).2.1
  | q s e k rows=>
    replace hb:s.a.map (·.block)=some b:=hb
    rcases ho.1.2 with ⟨h1,_⟩ | ⟨g,o,cur,ha,hg,_⟩
    · rw [h1] at hb; cases hb
    · rw [ha] at hb; cases hb
      exact (Yyg.1 hg).1
  | mp c kvs=>
    cases hb
    obtain ⟨es,clock,hg,_⟩:=ho
    exact (Yyg.1 hg).1
theorem It.ok.keep {h h':Heap} {i:It} (ho:i.ok h) (hk:∀ b,i.at=some b->h'[b]?=h[b]?):i.ok h':=by
  cases i with
  | blk c xs e=>exact (hk c rfl).trans ho
  | sl s e k rows=>exact ⟨ho.1.kp fun g hg _=>hk g (by show s.a.map (·.block)=_; rw [hg]; rfl),ho.2⟩
  | q s e k rows=>
    refine ⟨⟨ho.1.1,?_⟩,ho.2⟩
    rcases ho.1.2 with h1 | ⟨g,o,cur,ha,hg,r⟩
    · exact .inl h1
    · exact .inr ⟨g,o,cur,ha,(hk g (by show s.a.map (·.block)=_; rw [ha]; rfl)).trans hg,r⟩
  | mp c kvs=>
    obtain ⟨es,clock,hg,he⟩:=ho
    exact ⟨es,clock,(hk c rfl).trans hg,he⟩
theorem St.refl (h:Heap):St h h []:=⟨⟨Yyt _,fun _ _=>rfl⟩,fun _ hi=>(by cases hi),.nil⟩
theorem St.step {h0 h h':Heap} {L:List It} (hs:St h0 h L) (E:Ext h h'):St h0 h' L:=
  ⟨hs.ext.trans E,fun i hi=>⟨(hs.ok i hi).1.keep fun b hb=>E.2 b ((hs.ok i hi).1.lt hb),(hs.ok i hi).2⟩,hs.ap⟩
theorem St.more {h0 h h':Heap} {L:List It} (hs:St h0 h L) (E:Ext h h') {i:It} (ho:i.ok h') (hf:i.fr h.size):St h0 h' (i::L):=by
  refine ⟨hs.ext.trans E,fun j hj=>?_,List.pairwise_cons.2 ⟨fun j hj b hb hc=>?_,hs.ap⟩⟩
  · rcases Yr.1 hj with rfl | hj
    · exact ⟨ho,fun b hb=>Yys hs.ext.1 (hf b hb)⟩
    · exact (hs.step E).ok j hj
  · have h1:=(hs.ok j hj).1.lt hc
    have h2:=hf b hb
    omega
theorem St.newb {h0 h:Heap} {L:List It} (hs:St h0 h L) {xs:List Value} {e:TypeId} {K:Heap->Prop} (hK:∀ h2,St h0 h2 (.blk h.size xs e::L)->K h2):∀ h2:Heap,h2=h.push (.cells ⟨xs⟩ e)->K h2:=
  VC.newb fun h2 E o=>hK h2 (hs.more E (i:=.blk h.size xs e) o fun b hb=>by cases hb; exact Yyt _)
theorem St.newput {h0 h:Heap} {L:List It} (hs:St h0 h L) {zs vs:List Value} {e:TypeId} {K:Heap->Prop} {n:Nat} (hn:n=vs.length) (hl:zs.length=vs.length) (hK:∀ h3,St h0 h3 (.blk h.size vs e::L)->K h3) :
    ∀ h2:Heap,h2=h.push (.cells ⟨zs⟩ e)->okAt h2 ⟨h.size,0,none⟩ n/\∀ h3:Heap,h3=hputs h2 ⟨h.size,0,none⟩ 0 vs->K h3:=by
  subst hn
  exact VC.newput hl fun h3 E o=>hK h3 (hs.more E (i:=.blk h.size vs e) o fun b hb=>by cases hb; exact Yyt _)
theorem St.get {h0 h:Heap} {L:List It} (hs:St h0 h L) {k:Nat} {i:It} (hk:L[k]?=some i):i.ok h:=(hs.ok i (Yb hk)).1
theorem St.rd {h0 h:Heap} {L:List It} (hs:St h0 h L) (k:Nat) {b:Nat} {xs:List Value} {e:TypeId} (hk:L[k]?=some (.blk b xs e)) {i:Nat} {v:Value} (hi:xs[i]?=some v):hc h ⟨b,i,none⟩=some v:=by
  have:=hs.get hk
  rw [Own.hc this]; exact hi
theorem St.at {h0 h:Heap} {L:List It} (hs:St h0 h L) (k:Nat) {b:Nat} {xs:List Value} {e:TypeId} (hk:L[k]?=some (.blk b xs e)) {o n:Nat} {vs:List Value} (hv:(xs.drop o).take n=vs):atC h ⟨b,o,none⟩ vs:=by
  refine Own.atC (hs.get hk) fun i v hi=>?_
  subst hv
  rw [Yyf] at hi
  split at hi
  · rw [List.getElem?_drop] at hi; exact hi
  · cases hi
theorem St.sub {h0 h:Heap} {L L':List It} (hs:St h0 h L) (hl:L'.Sublist L):St h0 h L':=⟨hs.ext,fun i hi=>hs.ok i (hl.subset hi),hs.ap.sublist hl⟩
theorem St.drop {h0 h:Heap} {L:List It} (hs:St h0 h L) (n:Nat):St h0 h (L.drop n):=hs.sub (List.drop_sublist n L)
theorem St.eras {h0 h:Heap} {L:List It} (hs:St h0 h L) (n:Nat):St h0 h (L.eraseIdx n):=hs.sub (List.eraseIdx_sublist L n)
theorem St.turn {h0 h h':Heap} {L:List It} (hs:St h0 h L) {k:Nat} {i j:It} (hk:L[k]?=some i) (hsz:h.size<=h'.size) (ho:j.ok h') (hf:∀ b,j.at=some b->h.size<=b\/i.at=some b)
    (hkeep:∀ b,b<h.size->i.at ≠ some b->h'[b]?=h[b]?):St h0 h' (L.set k j):=by
  have hi:=Yb hk
  have hkl:k<L.length:=(Ya.1 hk).1
  have hki:L[k]=i:=(Ya.1 hk).2
  have old:∀ b,i.at=some b->h0.size<=b:=(hs.ok i hi).2
  have apart:∀ (m:Nat) (x:It),L[m]?=some x->m ≠ k->∀ b,x.at=some b->i.at ≠ some b:=by
    intro m x hm hmk b hb hc
    have hml:=(Ya.1 hm).1
    have hmx:=(Ya.1 hm).2
    have hp:=List.pairwise_iff_getElem.1 hs.ap
    rcases Nat.lt_or_gt_of_ne hmk with hlt | hlt
    · have:=hp m k hml hkl hlt b (by rw [hmx]; exact hb)
      rw [hki] at this; exact this hc
    · have:=hp k m hkl hml hlt b (by rw [hki]; exact hc)
      rw [hmx] at this; exact this hb
  refine ⟨⟨Yys hs.ext.1 hsz,fun b hb=>?_⟩,fun x hx=>?_,?_⟩
  · rw [hkeep b (Nat.lt_of_lt_of_le hb hs.ext.1) fun hc=>by have:=old b hc; omega]
    exact hs.ext.2 b hb
  · obtain ⟨m,hm⟩:=Yf.1 hx
    by_cases hmk:m=k
    · subst hmk
      rw [Yq hkl] at hm; cases hm
      refine ⟨ho,fun b hb=>?_⟩
      rcases hf b hb with h1 | h1
      · exact Yys hs.ext.1 h1
      · exact old b h1
    · rw [Yy (fun e=>hmk e.symm)] at hm
      have hxm:=hs.ok x (Yb hm)
      exact ⟨hxm.1.keep fun b hb=>hkeep b (hxm.1.lt hb) (apart m x hm hmk b hb),hxm.2⟩
  · rw [List.pairwise_iff_getElem]
    intro a b ha hb hab y hy hz
    rw [Yyh] at ha hb
    rw [List.getElem_set] at hy hz
    have hp:=List.pairwise_iff_getElem.1 hs.ap a b ha hb hab y
    have la:∀ m (hm:m<L.length),(L[m]).at=some y->y<h.size:=fun m hm he=>(hs.ok _ (List.getElem_mem hm)).1.lt he
    split at hy
    · rename_i hka
      split at hz
      · omega
      · rename_i hkb
        rcases hf y hy with h1 | h1
        · have:=la b hb hz; omega
        · exact apart b L[b] (Yi hb) (fun e=>hkb e.symm) y hz h1
    · rename_i hka
      split at hz
      · rename_i hkb
        rcases hf y hz with h1 | h1
        · have:=la a ha hy; omega
        · exact apart a L[a] (Yi ha) (fun e=>hka e.symm) y hy h1
      · exact hp hy hz
theorem St.put {h0 h:Heap} {L:List It} (hs:St h0 h L) (k:Nat) {b:Nat} {xs:List Value} {e:TypeId} (hk:L[k]?=some (.blk b xs e)) {o n:Nat} {vs:List Value} (hn:n=vs.length) (hl:o+vs.length<=xs.length) {K:Heap->Prop}
    (hK:∀ h',St h0 h' (L.set k (.blk b (splice xs o vs) e))->K h'):okAt h ⟨b,o,none⟩ n/\∀ h',h'=hputs h ⟨b,o,none⟩ 0 vs->K h':=by
  subst hn
  have ho:Own h b xs e:=hs.get hk
  refine ⟨ho.okAt hl,?_⟩
  rintro h' rfl
  have hb:But b h (hputs h ⟨b,o,none⟩ 0 vs):=But.hputs (a:=⟨b,o,none⟩) vs 0 h
  refine hK _ (hs.turn hk (by rw [hb.1]; exact Yyt _) ?_ (fun c hc=>.inr hc) fun c _ hc=>hb.2 c fun e=>hc (by rw [e]; rfl))
  exact Own.hputs vs 0 h xs ho (by omega)
theorem St.rw {h0 h:Heap} {L:List It} (hs:St h0 h L) (k:Nat) {s:Sl} {e:TypeId} {n:Nat} {rows:List (List Value)} (hk:L[k]?=some (.sl s e n rows)) (hn:0<n):Rw h n s rows:=by
  have:=hs.get hk
  exact this.1.rw this.2 hn
theorem St.len {h0 h:Heap} {L:List It} (hs:St h0 h L) (k:Nat) {s:Sl} {e:TypeId} {n:Nat} {rows:List (List Value)} (hk:L[k]?=some (.sl s e n rows)) (hn:0<n):s.n=rows.length/\s.n<=s.c/\(s.a=none->s.n=0/\s.c=0):=by
  have h1:=hs.get hk
  refine ⟨(hs.rw k hk hn).1,h1.1.cap,fun ha=>?_⟩
  rcases h1.1.2 with ⟨_,h2,h3⟩ | ⟨g,cur,hg,_⟩
  · exact ⟨h2,h3⟩
  · rw [ha] at hg; cases hg
theorem St.gift {h0 h h':Heap} {L:List It} (hs:St h0 h L) (E:Ext h h') {s:Sl} {e:TypeId} {k:Nat} {rows:List (List Value)} (ho:OwnS h' h.size e k s rows.flatten) (hr:∀ r ∈ rows,r.length=k):St h0 h' (.sl s e k rows::L):=
  hs.more E ⟨ho.mono (Nat.zero_le _),hr⟩ fun b hb=>by exact (own_at_zero ho hb).2.2
theorem St.give {h0 h:Heap} {L:List It} (hs:St h0 h L) (k:Nat) {s:Sl} {e:TypeId} {n:Nat} {rows:List (List Value)} (hk:L[k]?=some (.sl s e n rows)):OwnS h h0.size e n s rows.flatten:=by
  have h1:=hs.get hk
  have hf:=(hs.ok _ (Yb hk)).2
  obtain ⟨h2,h3⟩:=h1.1
  refine ⟨h2,?_⟩
  rcases h3 with h3 | ⟨g,cur,ha,_,r⟩
  · exact .inl h3
  · exact .inr ⟨g,cur,ha,hf g (by show s.a.map (·.block)=_; rw [ha]; rfl),r⟩
theorem St.nil_ {h0 h:Heap} {L:List It} (hs:St h0 h L) (e:TypeId) (k:Nat):St h0 h (.sl ⟨.none,0,0⟩ e k []::L):=
  hs.more ⟨Yyt _,fun _ _=>rfl⟩ ⟨OwnS.nil,fun _ hr=>by cases hr⟩ fun b hb=>by cases hb
theorem App_own2 {P:Program} {t e size bytes:Nat} (hT:appB P t e size bytes=true) {h:Heap} {s:Sl} {xs:List Value} (ho:OwnS h 0 e size s xs)
    {x:Addr} {m c:Nat} {news:List Value} (hx:atC h x news) (hl:news.length=m*size) (h1:news.all oneB=true) (hbytes:(s.n+m)*bytes<=140737488355328) (h63:s.n+m<=maxLen)
    {K:Sl->Heap->Prop} (hK:∀ (r:Sl) (h':Heap),r.n=s.n+m->OwnS h' 0 e size r (xs++news)->h.size<=h'.size->(∀ k,k<h.size->(∀ g,s.a=some ⟨g,0,none⟩->k ≠ g)->h'[k]?=h[k]?) ->
      (∀ b,r.a.map (·.block)=some b->h.size<=b\/s.a.map (·.block)=some b)->K r h') :
    App P t t (.slice s.a s.n s.c) (.slice (some x) m c) h K:=by
  intro ty w hw
  subst hw
  unfold appB at hT
  simp only [Yt] at hT
  obtain ⟨⟨⟨⟨⟨⟨⟨hs,he⟩,ht⟩,hz⟩,hzl⟩,hsz⟩,hby⟩,hpos⟩:=hT
  have hu:=sliceB_e hs
  rw [beqT he] at hu
  obtain ⟨i,hi⟩:=isT_info ht
  obtain ⟨z,hz'⟩:=Option.isSome_iff_exists.1 hz
  rw [hi] at hz'
  simp only [Option.bind_some] at hz'
  have e1:i.size=size:=by have:=beqT hsz; simpa [szOf,hi] using this
  have e2:i.bytes=bytes:=by have:=beqT hby; simpa [byOf,hi] using this
  have e3:z.cells.size=size:=by have:=beqT hzl; simpa [zeroC,hi,hz'] using this
  have hnews:∀ j u,news[j]?=some u->w.cell? (x.add j)=some u:=fun j u hj=>by rw [addk_add]; exact hx j u hj
  have hone:∀ u ∈ news,u.oneCell'=true:=fun u hu=>by
    rw [List.all_eq_true] at h1
    exact oneB_cell (h1 u hu)
  obtain ⟨v',w',hr,hown,hg,_⟩:=run_append_own (P:=P) w 0 t ty e i z size bytes hu hi hz' e1 e2 e3 (by simpa using hpos) _ s.n xs ho.row x m c news hl hnews hone h63 hbytes (Nat.zero_le _)
  obtain ⟨r,hv,hn,hor⟩:=OwnS.of_row hown
  refine ⟨v',w',hr,⟨r,hv,hK r w'.heap hn hor hg.size ?_ ?_⟩,hg.os,hg.tape,hg.output⟩
  · intro k hk hne
    refine hg.block k hk ?_
    intro e
    rcases ho.2 with ⟨ha,_⟩ | ⟨g,cur,ha,_⟩
    · rw [ha] at e; cases e
    · rw [ha] at e
      simp only [Value.ownBlock,Option.some.injEq] at e
      exact hne g ha e
  · have h63':s.n+m<=9223372036854775807:=by simp only [maxLen] at h63; omega
    have fin:∀ (a:Addr) (n c2:Nat) (w2:World),(Builtin.append_ #[t,t] ty #[.slice s.a s.n s.c,.slice (some x) m c]).run P w=.ok (.slice (some a) n c2) w2->∀ b,r.a.map (·.block)=some b->a.block=b:=by
      intro a n c2 w2 hr2 b hb
      rw [hr] at hr2
      injection hr2 with e4 _
      rw [hv] at e4
      injection e4 with e5 _ _
      rw [e5] at hb
      exact Yyp hb
    intro b hb
    rcases ho.2 with ⟨ha,hn0,hc0⟩ | ⟨g,cur,ha,_,hgg,hnc,hcm,hcs,htake⟩
    · by_cases hm:m=0
      · have hx0:xs=[]:=List.eq_nil_of_length_eq_zero (by have:=ho.1; rw [hn0] at this; simpa using this)
        have hrn:=hor.1
        rcases hor.2 with ⟨h5,_⟩ | ⟨g5,cur5,h5,_⟩
        · rw [h5] at hb; cases hb
        · subst hm
          have hne0:news=[]:=List.eq_nil_of_length_eq_zero (by simpa using hl)
          have hr2:(Builtin.append_ #[t,t] ty #[.slice s.a s.n s.c,.slice (some x) 0 c]).run P w=.ok (.slice none 0 0) w:=by
            rw [ha,hn0,hc0]
            simp [Builtin.append_,run_underlying hu,sizeOf,typeInfo,hi,Builtin.lenOf,Builtin.firstCells,loadCells,loadCellsFrom]
          rw [hr] at hr2
          injection hr2 with e4 _
          rw [hv] at e4
          injection e4 with e5 _ _
          rw [e5] at hb; cases hb
      · have hr2:=run_append_nil (P:=P) w t ty e i z hu hi hz' x m c news (by rw [e1]; exact hl) hnews (by omega) (by omega) (by rw [e2]; rw [hn0] at hbytes; simp only [Nat.zero_add] at hbytes; omega)
        refine .inl ?_
        have:=fin ⟨w.heap.size,0,none⟩ _ _ _ (by rw [ha,hn0,hc0]; exact hr2) b hb
        show w.heap.size<=b
        rw [<- this]; exact Yyt _
    · by_cases hroom:s.n+m<=s.c
      · have hfit:s.n*i.size+news.length<=cur.size:=by rw [hl,hcs,e1,<- Nat.add_mul]; exact Nat.mul_le_mul_right _ hroom
        have hr2:=run_append_room (P:=P) w t ty e i hu hi g s.n s.c cur hgg x m c news (by rw [e1]; exact hl) hnews hone hroom hfit
        right
        have:=fin ⟨g,0,none⟩ _ _ _ (by rw [ha]; exact hr2) b hb
        rw [ha,<- this]; rfl
      · have holds:∀ j u,xs[j]?=some u->w.cell? ((⟨g,0,none⟩:Addr).add j)=some u:=ho.row.cells (g:=g) (by rw [ha]; rfl)
        have hr2:=run_append_grow (P:=P) w t ty e i z hu hi hz' ⟨g,0,none⟩ s.n s.c xs (by rw [e1]; exact ho.1) holds x m c news (by rw [e1]; exact hl) hnews (by omega) (by omega) (growslice_fits (by omega) (by rw [e2]; exact hbytes))
        refine .inl ?_
        have:=fin ⟨w.heap.size,0,none⟩ _ _ _ (by rw [ha]; exact hr2) b hb
        show w.heap.size<=b
        rw [<- this]; exact Yyt _
theorem St.appended {P:Program} {h0 h:Heap} {L:List It} (hs:St h0 h L) (k:Nat) {s:Sl} {t e:TypeId} {n bytes:Nat} {rows:List (List Value)} (hk:L[k]?=some (.sl s e n rows)) (hT:appB P t e n bytes=true)
    {x:Addr} {m c:Nat} {news:List (List Value)} (hx:atC h x news.flatten) (hl:news.length=m) (hr:∀ r ∈ news,r.length=n) (h1:news.flatten.all oneB=true) (hbytes:(s.n+m)*bytes<=140737488355328) (h63:s.n+m<=maxLen)
    {K:Sl->Heap->Prop} (hK:∀ (r:Sl) (h':Heap),r.n=s.n+m->St h0 h' (L.set k (.sl r e n (rows++news)))->K r h'):App P t t (.slice s.a s.n s.c) (.slice (some x) m c) h K:=by
  have ho:=hs.get hk
  refine App_own2 hT ho.1 hx (by rw [flatten_len news hr,hl]) h1 hbytes h63 fun r h' hn hor hsz hkeep hwhere=>hK r h' hn ?_
  have hor2:(It.sl r e n (rows++news)).ok h':=⟨by rw [List.flatten_append]; exact hor,fun q hq=>by rcases Yk.1 hq with hq | hq; exact ho.2 q hq; exact hr q hq⟩
  exact hs.turn hk hsz hor2 hwhere fun b hb hne=>hkeep b hb fun g hg e=>by subst e; exact hne (by show s.a.map (·.block)=_; rw [hg]; rfl)
theorem St.app {P:Program} {h0 h:Heap} {L:List It} (hs:St h0 h L) (k:Nat) {s:Sl} {t e:TypeId} {n bytes:Nat} {rows:List (List Value)} (hk:L[k]?=some (.sl s e n rows)) (hT:appB P t e n bytes=true)
    {m c:Nat} (news:List (List Value)) {cells:List Value} (hc:cells=news.flatten) {e2:TypeId} (hl:news.length=m) (hr:∀ r ∈ news,r.length=n) (h1:news.flatten.all oneB=true) (hbytes:(s.n+m)*bytes<=140737488355328) (h63:s.n+m<=maxLen)
    {K:Sl->Heap->Prop} (hK:∀ (r:Sl) (h':Heap),r.n=s.n+m->St h0 h' (L.set k (.sl r e n (rows++news)))->K r h') :
    ∀ h2:Heap,h2=h.push (.cells ⟨cells⟩ e2)->App P t t (.slice s.a s.n s.c) (.slice (some ⟨h.size,0,none⟩) m c) h2 K:=by
  subst hc
  refine hs.newb fun h2 hs2=>?_
  refine hs2.appended (k+1) hk hT (hs2.at 0 rfl (n:=news.flatten.length) (by rw [List.drop_zero,Yye])) hl hr h1 hbytes h63 fun r h' hn h3=>hK r h' hn ?_
  exact h3.drop 1
theorem St.appRw {P:Program} {h0 h:Heap} {L:List It} (hs:St h0 h L) (k:Nat) {s y:Sl} {t e:TypeId} {n bytes:Nat} {rows news:List (List Value)} (hk:L[k]?=some (.sl s e n rows)) (hT:appB P t e n bytes=true)
    (hy:Rw h n y news) (hr:∀ r ∈ news,r.length=n) (hna:y.a=none->y.n=0/\y.c=0) (h1:news.flatten.all oneB=true) (hbytes:(s.n+y.n)*bytes<=140737488355328) (h63:s.n+y.n<=maxLen)
    {K:Sl->Heap->Prop} (hK:∀ (r:Sl) (h':Heap),r.n=s.n+y.n->St h0 h' (L.set k (.sl r e n (rows++news)))->K r h'):App P t t (.slice s.a s.n s.c) (.slice y.a y.n y.c) h K:=by
  cases hya:y.a with
  | none=>
    obtain ⟨h2,h3⟩:=hna hya
    have hr0:news=[]:=List.length_eq_zero_iff.1 (by have:=hy.1; omega)
    subst hr0
    rw [h2,h3]
    refine App_none hT (hs.get hk).1 (hK s h (by omega) ?_)
    rw [Yw]
    have e:L.set k (.sl s e n rows)=L:=by
      apply Yyr
      intro m
      by_cases hm:k=m
      · subst hm; rw [Yq (Ya.1 hk).1,hk]
      · rw [Yy hm]
    rw [e]; exact hs
  | some x=>
    have hx:atC h x news.flatten:=by
      by_cases h0':0<news.length
      · obtain ⟨b,o,ha,hall⟩:=hy.2 h0'
        rw [hya] at ha; cases ha
        exact atC_flat news o hr hall
      · have hr0:news=[]:=List.length_eq_zero_iff.1 (by omega)
        subst hr0
        intro i v hv; simp at hv
    exact hs.appended k hk hT hx hy.1.symm hr h1 hbytes h63 hK
theorem splice_left {l m vs:List Value} {p:Nat} (h:p+vs.length<=l.length):splice (l++m) p vs=splice l p vs++m:=by
  unfold splice
  rw [Yyq (by omega),List.drop_append_of_le_length (by omega)]
  simp only [Yz]
theorem splice_right {l m vs:List Value} {p:Nat}:splice (l++m) (l.length+p) vs=l++splice m p vs:=by
  unfold splice
  rw [List.take_length_add_append,show l.length+p+vs.length=l.length+(p+vs.length) by omega,List.drop_length_add_append]
  simp only [Yz]
theorem splice_take {l vs:List Value} {p N:Nat} (h:p+vs.length<=N) (hN:N<=l.length):(splice l p vs).take N=splice (l.take N) p vs:=by
  have e:l=l.take N++l.drop N:=(List.take_append_drop N l).symm
  have hl:(l.take N).length=N:=by rw [Yu]; omega
  have e2:splice l p vs=splice (l.take N) p vs++l.drop N:=by
    conv=>lhs; rw [e]
    exact splice_left (by omega)
  rw [e2]
  have h3:(splice (l.take N) p vs).length=N:=by
    unfold splice
    simp only [Yh,Yu,List.length_drop]; omega
  rw [Yyq (by omega),Yj (by omega)]
theorem splice_lng {l vs:List Value} {p:Nat} (h:p+vs.length<=l.length):(splice l p vs).length=l.length:=by
  unfold splice
  simp only [Yh,Yu,List.length_drop]; omega
theorem splice_flat {n j:Nat} {vs row:List Value}:∀ (rows:List (List Value)) (i:Nat),(∀ r ∈ rows,r.length=n)->rows[i]?=some row->j+vs.length<=n->splice rows.flatten (i*n+j) vs=(rows.set i (splice row j vs)).flatten
  | [],i,_,h,_=>by simp at h
  | a::rows,0,hr,h,hj=>by
    rw [List.getElem?_cons_zero] at h; cases h
    have:=hr row (by simp)
    rw [Yyu,List.set_cons_zero,Yyu,Nat.zero_mul,Nat.zero_add]
    exact splice_left (by omega)
  | a::rows,i+1,hr,h,hj=>by
    rw [List.getElem?_cons_succ] at h
    have ha:=hr a (by simp)
    rw [Yyu,List.set_cons_succ,Yyu,<- splice_flat rows i (fun r hm=>hr r (Yn _ hm)) h hj]
    rw [<- splice_right,ha,show (i+1)*n+j=n+(i*n+j) by rw [Nat.succ_mul]; omega]
theorem St.nbput {h0 h:Heap} {L:List It} (hs:St h0 h L) (k:Nat) {s:Sl} {e:TypeId} {n:Nat} {rows:List (List Value)} (hk:L[k]?=some (.sl s e n rows)) (hn0:0<n) {i:Nat} {row vs:List Value} (hi:rows[i]?=some row) (j:Nat) (hv:j+vs.length<=n)
    {K:Nat->Nat->Heap->Prop} (hK:∀ b o h',St h0 h' (L.set k (.sl s e n (rows.set i (splice row j vs))))->K b o h') {m:Nat} (hm:m=vs.length) {B:Prop} (hB:B) :
    NB s.a fun b o=>B/\(okAt h ⟨b,o+i*n+j,none⟩ m/\∀ h',h'=hputs h ⟨b,o+i*n+j,none⟩ 0 vs->K b o h'):=by
  subst hm
  have ho:=hs.get hk
  have hlen:=ho.1.len
  have hil:=(Ya.1 hi).1
  have hrl:=ho.2 row (Yb hi)
  rw [flatten_len rows ho.2] at hlen
  have hrn:rows.length=s.n:=Nat.eq_of_mul_eq_mul_right hn0 hlen
  rcases ho.1.2 with ⟨_,h0',_⟩ | ⟨g,cur,ha,hb,hh,hnc,hcm,hcs,ht⟩
  · omega
  · rw [ha,NB_some]
    refine ⟨hB,?_⟩
    have hown:Own h g cur.toList e:=hh
    have h1:(i+1)*n<=s.n*n:=Nat.mul_le_mul_right _ (by omega)
    have h2:s.n*n<=s.c*n:=Nat.mul_le_mul_right _ hnc
    rw [Nat.succ_mul] at h1
    have hcl:cur.toList.length=s.c*n:=by rw [Array.length_toList]; exact hcs
    have hfit:i*n+j+vs.length<=cur.toList.length:=by omega
    rw [Nat.zero_add]
    refine ⟨hown.okAt hfit,?_⟩
    rintro h' rfl
    have hbt:But g h (hputs h ⟨g,i*n+j,none⟩ 0 vs):=But.hputs (a:=⟨g,i*n+j,none⟩) vs 0 h
    have hnew:=Own.hputs vs 0 h cur.toList (o:=i*n+j) hown (by omega)
    rw [Nat.add_zero] at hnew
    refine hK _ _ _ (hs.turn hk (by rw [hbt.1]; exact Yyt _) ⟨⟨?_,.inr ⟨g,⟨splice cur.toList (i*n+j) vs⟩,ha,Nat.zero_le _,hnew,hnc,hcm,?_,?_⟩⟩,?_⟩ (fun c hc=>.inr hc) fun c _ hc=>hbt.2 c fun e=>hc (by rw [e]; show s.a.map (·.block)=_; rw [ha]; rfl))
    · rw [<- splice_flat rows i ho.2 hi hv,splice_lng (by rw [flatten_len rows ho.2]; omega),flatten_len rows ho.2,hrn]
    · show (splice cur.toList (i*n+j) vs).length=_
      rw [splice_lng hfit]; exact hcl
    · show (splice cur.toList (i*n+j) vs).take (s.n*n)=_
      rw [splice_take (by omega) (by omega),ht,splice_flat rows i ho.2 hi hv]
    · intro r hr
      rcases List.mem_or_eq_of_mem_set hr with hr | rfl
      · exact ho.2 r hr
      · rw [splice_lng (by omega)]; exact hrl

theorem sBi {p:Prop} [Decidable p] {a b:Prop} (h1:p->a) (h2:¬p->b):sB (decide p) a b:=sB_intro (fun h=>h1 (Yyn h)) (fun h=>h2 (Yyo h))
theorem sBe {x y:Int} {a b:Prop} (h1:x=y->a) (h2:x ≠ y->b):sB (x == y) a b:=sB_intro (fun h=>h1 (by simpa using h)) (fun h=>h2 (by simpa using h))
theorem sBn {x y:Int} {a b:Prop} (h1:x ≠ y->a) (h2:x=y->b):sB (x != y) a b:=sB_intro (fun h=>h1 (by simpa using h)) (fun h=>h2 (by simpa using h))
theorem dF {p:Prop} [Decidable p] (h:¬ p):Value.bool false=.bool (decide p):=by rw [decide_eq_false h]
theorem dT {p:Prop} [Decidable p] (h:p):Value.bool true=.bool (decide p):=by rw [decide_eq_true h]
theorem imin_min (x y:Int):imin x y=min x y:=by unfold imin; rw [Int.min_def]; split <;> split <;> omega
theorem imax_max (x y:Int):imax x y=max x y:=by unfold imax; rw [Int.max_def]; split <;> split <;> omega
theorem Rw.nbI {α:Type} {h:Heap} {k:Nat} {s:Sl} {cs:α->List Value} {L:List α} (hr:Rw h k s (L.map cs)) {x:Int} (h0:0<=x) (h1:x<s.n) {F:Nat->Nat->Prop}
    (hF:∀ b o d,L[x.toNat]?=some d->atC h ⟨b,o+x.toNat*k,none⟩ (cs d)->F b o):NB s.a fun b o=>(0<=x/\x<(s.n:Nat))/\F b o:=by
  have hn:=hr.1
  rw [Yc] at hn
  have hl:x.toNat<L.length:=by omega
  refine hr.nb (i:=x.toNat) (row:=cs L[x.toNat]) (by rw [Yd,Yi hl]; rfl) fun b o _ hat=>⟨⟨h0,h1⟩,hF b o _ (Yi hl) hat⟩
theorem Rw.ln {α:Type} {h:Heap} {k:Nat} {s:Sl} {cs:α->List Value} {L:List α} (hr:Rw h k s (L.map cs)):s.n=L.length:=by have:=hr.1; rwa [Yc] at this
theorem atC.sub {h:Heap} {b o:Nat} {vs us:List Value} (ha:atC h ⟨b,o,none⟩ vs) (i n:Nat) (hu:(vs.drop i).take n=us):atC h ⟨b,o+i,none⟩ us:=by
  subst hu
  intro j v hj
  rw [Yyf] at hj
  split at hj
  · rw [List.getElem?_drop] at hj
    have:=ha.nth (i+j) hj
    rw [addk_at,Nat.add_assoc]; exact this
  · cases hj
theorem St.rows {α:Type} {h0 h:Heap} {L:List It} (hs:St h0 h L) (k:Nat) {s:Sl} {e:TypeId} {n:Nat} {cs:α->List Value} {l:List α} (hk:L[k]?=some (.sl s e n (l.map cs))) (hn:0<n):Rw h n s (l.map cs):=hs.rw k hk hn
theorem up_loopS {n:Nat} {h0 h:Heap} {L:List It} {B:(Int->Heap->Nat->Prop)->Env->Int->Heap->Nat->Prop} (hs:St h0 h L) (Q:Nat->Prop) (q0:Q 0)
    (hB:∀ (e:Env) (i:Nat) (h':Heap),i<=n->St h0 h' L/\Q i->B (Up n fun i h'=>St h0 h' L/\Q i) e i h' (n - i)):∃ I:Int->Heap->Nat->Prop,(∃ m,I 0 h m)/\∀ (e:Env) (x:Int) (h':Heap) (m:Nat),I x h' m->B I e x h' m:=
  up_loop (fun i h'=>St h0 h' L/\Q i) ⟨hs,q0⟩ hB
def UpA (n:Nat) (Q:Nat->Sl->Heap->Prop) (s:Sl) (x:Int) (h:Heap) (m:Nat):Prop:=∃ i:Nat,x=i/\m=n - i/\i<=n/\Q i s h
theorem up_loopA {n:Nat} {h0 h:Heap} {L:List It} {e:TypeId} {k:Nat} {s0:Sl} {r0:List (List Value)} {B:(Sl->Int->Heap->Nat->Prop)->Env->Sl->Int->Heap->Nat->Prop} (hs:St h0 h (.sl s0 e k r0::L)) (Q:Nat->List (List Value)->Prop) (q0:Q 0 r0)
    (hB:∀ (ρ:Env) (i:Nat) (s:Sl) (h':Heap) (rows:List (List Value)),i<=n->St h0 h' (.sl s e k rows::L)->Q i rows->B (UpA n fun i s h'=>∃ rows,St h0 h' (.sl s e k rows::L)/\Q i rows) ρ s i h' (n - i)) :
    ∃ I:Sl->Int->Heap->Nat->Prop,(∃ m,I s0 0 h m)/\∀ (ρ:Env) (s:Sl) (x:Int) (h':Heap) (m:Nat),I s x h' m->B I ρ s x h' m:=
  ⟨UpA n fun i s h'=>∃ rows,St h0 h' (.sl s e k rows::L)/\Q i rows,⟨_,0,rfl,rfl,by omega,r0,hs,q0⟩,by rintro ρ s x h' m ⟨i,rfl,rfl,hi,rows,h1,h2⟩; exact hB ρ i s h' rows hi h1 h2⟩
theorem UpA.next {n i:Nat} {Q:Nat->Sl->Heap->Prop} {s:Sl} {h:Heap} (hi:i<n) (hn:n<=9223372036854775807) (h1:Q (i+1) s h):∃ m,m<n - i/\UpA n Q s (IntKind.wrap .i64 ((i:Int)+1)) h m:=
  ⟨_,by omega,i+1,by rw [w64 (by omega) (by omega)]; omega,rfl,by omega,h1⟩
end Go.VC
end
