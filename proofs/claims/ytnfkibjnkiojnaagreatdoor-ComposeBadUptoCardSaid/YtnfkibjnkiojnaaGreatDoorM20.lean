/- TkT1 TkStubB TkT TkU TkV0 TkV TkW0 TkW UkB. -/
import Derived.Test.YtnfkibjnkiojnaaGreatDoorM09
import Derived.Test.YtnfkibjnkiojnaaGreatDoorProg
import Derived.Test.YtnfkibjnkiojnaaGreatDoorM19
import Derived.KernelRfl
import Derived.DeepKeys4
import Derived.Test.YtnfkibjnkiojnaaGreatDoorM01
import Derived.Test.YtnfkibjnkiojnaaGreatDoorM18
import Derived.Test.YtnfkibjnkiojnaaGreatDoorM03
import Derived.Test.YtnfkibjnkiojnaaGreatDoorM15
set_option linter.unusedVariables false
set_option linter.unusedSimpArgs false
set_option maxRecDepth 100000

section
/- The types of maps of layer 25. -/
namespace Go.VC
open Go.Proofs Go.Maps

theorem kl_int {P:Program} {d t:Nat} {q:IntKind} {n:Int} (hu:P.underlying t=some (.int q)) (hw:(Lit.int q n).wf=true):P.keyLits (d+1) t [.int q n]=some [.int q n]:=by simp [Program.keyLits,hu,hw]
theorem kl_bool {P:Program} {d t:Nat} {b:Bool} (hu:P.underlying t=some .bool):P.keyLits (d+1) t [.bool b]=some [.bool b]:=by simp [Program.keyLits,hu]
theorem kl_struct {P : Program} {d t : Nat} {fs : Array Field} {cs : List Value} (hu : P.underlying t = some (.struct fs)) (hl : cs.length = P.cellsOf t) (hn : fs.all (·.name != "_") = true) {l : List (TypeId × Nat)} (hf : fs.toList.map (fun f => (f.type, f.offset)) = l)
  {r:List (List Lit)} (hr:l.mapM (fun q=>P.keyLits d q.1 ((cs.drop q.2).take (P.cellsOf q.1)))=some r):P.keyLits (d+1) t cs=some r.flatten:=by
 have e:fs.toList.mapM (fun f=>P.keyLits d f.type ((cs.drop f.offset).take (P.cellsOf f.type)))=some r:=by
  rw [<- hr,<- hf,List.mapM_map]; rfl
 unfold Program.keyLits
 simp only [hu]
 rw [if_pos ⟨hl,hn⟩,e]; rfl
def inR (n:Int):Prop:=-9223372036854775808<=n/\n<=9223372036854775807
theorem inR.wf {n:Int} (h:inR n):(Lit.int .i64 n).wf=true:=by
 unfold Lit.wf
 simp only [Yt,decide_eq_true_eq]
 have e1:IntKind.i64.min=-9223372036854775808:=by decide
 have e2:IntKind.i64.max=9223372036854775807:=by decide
 rw [e1,e2]; exact h
theorem u3:Pz.underlying 3=some (.int .i64):=by kernel_rfl
theorem u4:Pz.underlying 4=some .bool:=by kernel_rfl
theorem su {P : Program} {t : Nat} {l : List (TypeId × Nat)} (h : (match P.underlying t with | some (.struct fs) => decide (fs.toList.map (fun f => (f.type, f.offset)) = l) && fs.all (·.name != "_") | _ => false) = true) :
  ∃ fs, P.underlying t = some (.struct fs) /\ fs.all (·.name != "_") = true /\ fs.toList.map (fun f => (f.type, f.offset)) = l := by
 split at h
 ·
  rename_i fs hu
  simp only [Yt,decide_eq_true_eq] at h
  exact ⟨fs,hu,h.2,h.1⟩
 ·
  cases h
theorem s91 : ∃ fs, Pz.underlying 224 = some (.struct fs) /\ fs.all (·.name != "_") = true /\ fs.toList.map (fun f => (f.type, f.offset)) = [(4, 0), (3, 1), (3, 2)] := su (by kernel_rfl)
theorem s212 : ∃ fs, Pz.underlying 338 = some (.struct fs) /\ fs.all (·.name != "_") = true /\ fs.toList.map (fun f => (f.type, f.offset)) = [(3, 0), (3, 1), (224, 2), (4, 5), (3, 6)] := su (by kernel_rfl)
theorem c3:Pz.cellsOf 3=1:=by kernel_rfl
theorem c4:Pz.cellsOf 4=1:=by kernel_rfl
theorem c91:Pz.cellsOf 224=3:=by kernel_rfl
theorem c212:Pz.cellsOf 338=7:=by kernel_rfl
def kokS (s:Sg):Prop:=inR s.b/\inR s.k/\inR s.x.peer/\inR s.x.label/\inR s.num
theorem lits_ev (x:Ev) (h1:inR x.peer) (h2:inR x.label) (d:Nat):∃ r,Pz.keyLits (d+2) 224 x.cs=some r:=by
 obtain ⟨fs,hu,hn,hf⟩:=s91
 refine ⟨_,kl_struct hu (by rw [c91]; rfl) hn hf (r:=[[.bool x.send],[.int .i64 x.peer],[.int .i64 x.label]]) ?_⟩
 simp only [List.mapM_cons,List.mapM_nil,c3,c4,Ev.cs,List.drop_zero,List.take_succ_cons,Yyk,List.drop_succ_cons,kl_bool u4,kl_int u3 h1.wf,kl_int u3 h2.wf]
 rfl
theorem key_sg (s:Sg) (h:kokS s):∃ l,keyOf Pz 338 s.v=some l:=by
 obtain ⟨fs,hu,hn,hf⟩:=s212
 obtain ⟨h1,h2,h3,h4,h5⟩:=h
 have hsz:∃ n,Pz.types.size+1=n+3:=⟨502,by kernel_rfl⟩
 obtain ⟨n,hsz⟩:=hsz
 obtain ⟨r,hr⟩:=lits_ev s.x h3 h4 n
 have hl:Pz.keyLits (n+3) 338 [.int .i64 s.b,.int .i64 s.k,.bool s.x.send,.int .i64 s.x.peer,.int .i64 s.x.label,.bool s.ag,.int .i64 s.num]=some [[.int .i64 s.b],[.int .i64 s.k],r,[.bool s.ag],[.int .i64 s.num]].flatten:=by
  refine kl_struct hu (by rw [c212]; rfl) hn hf ?_
  simp only [List.mapM_cons,List.mapM_nil,c3,c4,c91,List.drop_zero,List.take_succ_cons,Yyk,List.drop_succ_cons,kl_bool u4,kl_int u3 h1.wf,kl_int u3 h2.wf,kl_int u3 h5.wf]
  unfold Ev.cs at hr
  rw [hr]; rfl
 have hkt:Pz.keyType 338=true:=by kernel_rfl
 have hfo:s.v.formed Pz 338=true:=by
  unfold Sg.v Value.formed
  simp only [hu,c212]; rfl
 have e:keyOf Pz 338 s.v=(Pz.keyLits (n+3) 338 [.int .i64 s.b,.int .i64 s.k,.bool s.x.send,.int .i64 s.x.peer,.int .i64 s.x.label,.bool s.ag,.int .i64 s.num]).map fun ls=>.string (keyBytes ls):=by
  unfold keyOf
  simp only [hu,hkt,hfo,Bool.and_self,if_true,hsz]
  rfl
 rw [e,hl]
 exact ⟨_,rfl⟩
theorem laid25:laidOutB Pz=true:=by kernel_rfl
def iv (n:Int):Value:=.int .i64 n
theorem M210:MT Pz 336 338 3 Sg.v kokS (.int .i64 0) where
 K:=Keyed.of_law (deep_law_laid laid25 (m:=3) (by omega) (Yyn (by kernel_rfl)) (by kernel_rfl) (by kernel_rfl))
 ht:=by kernel_rfl
 key:=key_sg
 inj:=Sg.v_inj
 z:=fun w=>by kernel_rfl
theorem key_int (n:Int) (h:inR n):∃ l,keyOf Pz 3 (iv n)=some l:=⟨_,keyOf_int_mk u3 h.wf⟩
theorem iv_inj (a b:Int) (h:iv a=iv b):a=b:=by unfold iv at h; simpa using h
theorem M215:MT Pz 340 3 3 iv inR (.int .i64 0) where
 K:=int_keyed u3
 ht:=by kernel_rfl
 key:=key_int
 inj:=iv_inj
 z:=fun w=>by kernel_rfl
theorem M140:MT Pz 234 3 190 iv inR (.agg ⟨[.int .i64 0,.int .i64 0,.int .i64 0]⟩) where
 K:=int_keyed u3
 ht:=by kernel_rfl
 key:=key_int
 inj:=iv_inj
 z:=fun w=>by kernel_rfl
end Go.VC
end

section
/- Sorting of moves: PjSh. -/
end

section
/- Contracts: the classes of the states of a machine. -/
namespace Go.VC
open Go.Proofs Go.LexS

theorem mvrows (L:List Mv):∀ r ∈ L.map Mv.cs,r.length=6:=fun r hr=>by obtain ⟨x,_,rfl⟩:=Yp.1 hr; rfl
theorem mv1 (x:Mv):x.cs.all oneB=true:=rfl
theorem flat_oneB {α:Type} {cs:α->List Value} (h:∀ x,(cs x).all oneB=true):∀ L:List α,(L.map cs).flatten.all oneB=true
 | []=>rfl
 | a::L=>by rw [Yyl,Yyu,List.all_append,h a,flat_oneB h L]; rfl
theorem clone125 (L:List Mv) (s:Sl) (h:Heap) (hr:Rw h 6 s (L.map Mv.cs)) (hn0:s.a=none->s.n=0/\s.c=0) (hm:L.length<=1048576) :
  Fn Pz 220 #[.slice s.a s.n s.c] h fun v h'=>∃ r:Sl,v=.slice r.a r.n r.c/\St h h' [.sl r 108 6 (L.map Mv.cs)]:=by
 apply vc220; unfold W220
 have hs:=St.refl h
 have hn:=hr.ln
 refine sB_intro (fun c1=>?_) (fun c1=>?_)
 ·
  have:L=[]:=by
   have:=hn0 (Option.isNone_iff_eq_none.1 c1)
   exact List.length_eq_zero_iff.1 (by omega)
  subst this
  exact ⟨⟨none,0,0⟩,rfl,hs.nil_ 108 6⟩
 ·
  refine hs.newb fun h1 hs=>?_
  have hs:=hs.blkS 0 6 [] rfl (by simp) rfl (by decide)
  refine hs.appRw 0 rfl app31 (y:=s) (hr.ext hs.ext) (mvrows L) hn0 (flat_oneB mv1 L) (by show (0+s.n)*48<=_; omega) (by show 0+s.n<=_; simp only [maxLen]; omega) fun r h3 _ hs=>?_
  exact ⟨r,rfl,hs⟩
def Nv (N:List (Sg × Int)):List (Value × Value):=N.map fun q=>(q.1.v,iv q.2)
theorem next126 {h0 h:Heap} {L:List It} (hs:St h0 h L) (k1 k2:Nat) {nb b mb:Nat} {n:Int} {N:List (Sg × Int)} (hk1:L[k1]?=some (.blk nb [.map (some b)] 336)) (hk2:L[k2]?=some (.mp b (Nv N))) (hn:hc h ⟨mb,1,none⟩=some (.int .i64 n)) (hn0:0<=n/\n<=200)
  (hN:NOk n N) (hok:∀ q ∈ N,kokS q.1) (s:Sg) (hsk:kokS s) (hl:N.length<=1048576) :
  Fn Pz 221 #[s.v,.pointer (some ⟨nb,0,none⟩),.pointer (some ⟨mb,0,none⟩)] h fun v h'=>v=.int .i64 (nextF n N s).1/\St h0 h' (L.set k2 (.mp b (Nv (nextF n N s).2))):=by
 apply vc221 s.b s.k s.x.send s.x.peer s.x.label s.ag s.num; unfold W221
 refine hs.newbE fun h8 E8 hs=>?_
 refine ⟨_,hs.rd (k1+1) hk1 rfl,?_⟩
 refine ⟨_,_,_,_,_,_,_,hs.at 0 rfl (n:=7) rfl,?_⟩
 refine hs.mlook (ck:=Sg.v) (cv:=iv) M210 (k2+1) (l:=N) hk2 hok hN.nd (a:=s) hsk true ?_
 unfold nextF
 cases hg:mget N s with
 | some v=>
  refine ⟨v,true,rfl,?_⟩
  refine sB_f rfl ?_
  refine ⟨rfl,?_⟩
  have e:L.set k2 (.mp b (Nv N))=L:=by
   apply Yyr
   intro m
   by_cases hm:k2=m
   ·
    subst hm; rw [Yq (Ya.1 hk2).1,hk2]
   ·
    rw [Yy hm]
  show St h0 h8 (L.set k2 (.mp b (Nv N)))
  rw [e]; exact hs.drop 1
 | none=>
  refine ⟨0,false,rfl,?_⟩
  refine sB_t rfl ?_
  refine ⟨_,hs.rd (k1+1) hk1 rfl,?_⟩
  refine hs.mlen (ck:=Sg.v) (cv:=iv) M210 (k2+1) (l:=N) hk2 ?_
  refine ⟨_,rfl,n,hc_ext E8 hn,_,hs.rd (k1+1) hk1 rfl,_,_,_,_,_,_,_,hs.at 0 rfl (n:=7) rfl,?_⟩
  have ew:IntKind.wrap .i64 (IntKind.wrap .i64 ((N.length:Int)+n)+2)=(N.length:Int)+n+2:=by rw [w64 (n:=(N.length:Int)+n) (by omega) (by omega),w64 (by omega) (by omega)]
  rw [ew]
  refine hs.mput (ck:=Sg.v) (cv:=iv) M210 (k2+1) (l:=N) hk2 hok hN.nd (a:=s) hsk ((N.length:Int)+n+2) fun h34 hs=>?_
  rw [mset_none (mget_not hg)] at hs
  exact ⟨rfl,hs.drop 1⟩
end Go.VC
end

section
/- Contract: classes. -/
namespace Go.VC
open Go.Proofs Go.LexS

structure MI (h:Heap) (m:Mch) (sf sm sl:Sl):Prop where
 pf:RL h 1 sf bC m.fin
 pm:RL h 6 sm Mv.cs m.mv
 pl:RL h 3 sl To.cs m.li
theorem MI.ext {h h':Heap} {m:Mch} {sf sm sl:Sl} (hm:MI h m sf sm sl) (E:Ext h h'):MI h' m sf sm sl:=⟨hm.pf.ext E,hm.pm.ext E,hm.pl.ext E⟩
def natV (c:Nat):Value:=.int .i64 (c:Int)
theorem made3n (n:Nat):madeL Pz 3 n=(List.replicate n 0).map natV:=by
 have e:zeroC Pz 3=[.int .i64 0]:=by kernel_rfl
 unfold madeL
 rw [e,List.map_replicate]
 induction n with
 | zero=>rfl
 | succ n ih=>rw [List.replicate_succ,List.replicate_succ,Yyu,ih]; rfl
theorem made3i (n:Nat):madeL Pz 3 n=(List.replicate n (0:Int)).map iv:=by
 rw [made3n,List.map_replicate,List.map_replicate]; rfl
def HsA (N:List (Sg × Int)) (A:List Int) (n:Nat) (H:Nat->List Sg):Prop:=∀ s,s<n->∃ v,A[s]?=some v/\HsN N v (H s)
theorem HsA.step {n:Nat} {N:List (Sg × Int)} {A:List Int} {H H':Nat->List Sg} (hA:HsA N A n H) (hN:NOk n N) (hAl:A.length=n) {s0:Nat} (hs0:s0<n) {v0:Int} (hv0:A[s0]?=some v0) (sg:Sg) (hb:sg.b=v0) (hk:sg.k ≠ 0) (sg0:Sg) (hsg0:({ sg with b:=0 }:Sg)=sg0)
  (hH:∀ s:Nat,H' s=if s=s0 then sg0::H s else H s):HsA (nextF n N sg).2 (A.set s0 (nextF n N sg).1) n H':=by
 obtain ⟨h1,h2,h3,_,_⟩:=nextF_spec hN sg
 intro s hs
 obtain ⟨v,hv,hh⟩:=hA s hs
 rw [hH]
 by_cases e:s=s0
 ·
  subst e
  rw [hv0] at hv; cases hv
  rw [if_pos rfl,<- hsg0]
  exact ⟨_,Yq (by omega),.step h3 hk (by rw [hb]; exact hh.mono h2)⟩
 ·
  rw [if_neg e]
  exact ⟨v,by rw [Yy (fun h=>e h.symm)]; exact hv,hh.mono h2⟩
def clL (ab nb mb cb gb:Nat) (m:Mch) (sf sm sl x10:Sl) (N:List (Sg × Int)) (A:List Int) (C:List Nat):List It:=
 [.blk ab (A.map iv) 3,.blk nb [.map (some mb)] 336,.mp mb (Nv N),.blk cb (C.map natV) 3,.sl x10 108 6 (m.mv.map Mv.cs),.blk gb (mC m sf sm sl) 55]
theorem getD_some {α:Type} {l:List α} {i:Nat} {d x:α} (h:l[i]?=some x):l.getD i d=x:=by rw [Yo,h]; rfl
theorem HsN.bound {n:Int} {N:List (Sg × Int)} (hN:NOk n N) {v:Int} {l:List Sg} (h:HsN N v l):n+2<=v/\v<(N.length:Int)+n+2:=by
 cases h with
 | base hm _=>exact hN.bound hm
 | step hm _ _=>exact hN.bound hm
theorem class_step {A:List Int} {C:List Nat} {i:Nat} {a:Int} (ha:A[i]?=some a) (hC:C.length=A.length):((A.take i).map (idxF (dedF (A.take i)))++C.drop i).set i (idxF (dedF (A.take (i+1))) a)=(A.take (i+1)).map (idxF (dedF (A.take (i+1))))++C.drop (i+1):=by
 obtain ⟨h1,h2⟩:=Ya.1 ha
 have hl:((A.take i).map (idxF (dedF (A.take i)))).length=i:=by rw [Yc,Yu]; omega
 have hm:(A.take i).map (idxF (dedF (A.take i)))=(A.take i).map (idxF (dedF (A.take (i+1)))):=by
  apply List.map_congr_left
  intro x hx
  have hx':=(dedF_mem _ _).2 hx
  rw [dedF_take ha]
  split
  ·
   rfl
  ·
   rw [idxF_mem hx']
 rw [List.drop_eq_getElem_cons (by omega:i<C.length),List.set_append_right _ _ (by omega),hl,Nat.sub_self,List.set_cons_zero,hm]
 generalize idxF (dedF (A.take (i+1)))=F
 rw [take_snoc ha,Ym,Yz]; rfl
theorem inR0:inR 0:=⟨by decide,by decide⟩
theorem inR1:inR 1:=⟨by decide,by decide⟩
theorem inR2:inR 2:=⟨by decide,by decide⟩
theorem inRn {n:Int} (h0:0<=n) (h1:n<=1000000000):inR n:=⟨by omega,by omega⟩
theorem natflat (L:List Nat):L.map natV=((L.map fun c:Nat=>(c:Int)).map inC).flatten:=by
 induction L with
 | nil=>rfl
 | cons a L ih=>rw [Yyl,Yyl,Yyl,Yyu,<- ih]; rfl
def Fv (F:List (Int × Int)):List (Value × Value):=F.map fun q=>(iv q.1,iv q.2)
set_option maxHeartbeats 4000000 in
theorem classes71 (m:Mch) (sf sm sl:Sl) (h:Heap) (hM:MI h m sf sm sl) (hO:MOk m) (hS:m.mv.Pairwise mvLt) :
  Fn Pz 157 #[.agg ⟨mC m sf sm sl⟩] h fun v h'=>∃ sc:Sl,v=.tuple ⟨[.slice sc.a sc.n sc.c,.int .i64 ((cls m).2:Nat)]⟩/\St h h' [.sl sc 3 1 (((cls m).1.map fun c:Nat=>(c:Int)).map inC)]:=by
 apply vc157 m.role m.n m.s sf sm sl; unfold W157
 have hs:=St.refl h
 have hn:=hO.n
 have hfl:=hO.fl
 have hml:=hO.ml
 have hll:=hO.ll
 have hMl:=hM.pl.ln
 have hMf:=hM.pf.ln
 have hMm:=hM.pm.ln
 refine hs.newb fun h7 hs=>?_
 refine ⟨sm,hs.rd 0 rfl rfl,?_⟩
 refine (clone125 m.mv sm h7 (hM.pm.ext hs.ext).rw hM.pm.nil (by omega)).mono ?_
 rintro _ h11 ⟨x10,rfl,hsc⟩
 have hs:=(hs.join hsc).perm (List.perm_append_comm (l₁:=[_]) (l₂:=[_]))
 refine ⟨x10,rfl,?_⟩
 refine (sort72 hs 0 rfl (by omega)).mono ?_
 rintro _ h13 ⟨rfl,l',hp,hso,hs⟩
 have hle:=mvSorted_same hp hS hso
 subst hle
 refine ⟨rfl,?_⟩
 refine ⟨_,hs.rd 1 rfl rfl,by omega,?_⟩
 rw [made3n]
 refine hs.newb fun h15 hs=>?_
 have hx10:=(hs.rows 1 (s:=x10) (cs:=Mv.cs) rfl (by omega)).ln
 have hsz13:h13.size<h15.size:=hs.get (k:=0) rfl |>.lt rfl
 refine ⟨fun count h' μ=>∃ (C:List Nat) (c f:Nat),count=(c:Int)/\μ=201 - c/\c<=200/\202<=f+c/\C.length=m.n.toNat/\(∀ x ∈ C,x<=200)/\(c=0\/(dedF C).length=c)/\cls m=clsN m f C c/\St h h' [.blk h13.size (C.map natV) 3,.sl x10 108 6 (m.mv.map Mv.cs),.blk h.size (mC m sf sm sl) 55],
  ⟨_,List.replicate m.n.toNat 0,0,202,rfl,rfl,by omega,by omega,Yg,fun x hx=>(by rw [List.mem_replicate] at hx; omega),.inl rfl,rfl,hs⟩,?_⟩
 clear hs
 rintro - _ h20 μ ⟨C,c,f,rfl,rfl,hc,hf,hCl,hCb,hcd,hcls,hs⟩
 refine hs.mmake 210 fun h23 E23 hs=>?_
 refine ⟨_,rfl,?_⟩
 refine hs.newput (vs:=[.map (some h20.size)]) rfl rfl fun h25 hs=>?_
 refine ⟨_,hs.rd 4 rfl rfl,by omega,?_⟩
 rw [made3i]
 refine hs.newb fun h27 hs=>?_
 have hs:St h h27 (clL h25.size h23.size h20.size h13.size h.size m sf sm sl x10 [] (List.replicate m.n.toNat 0) C):=hs
 refine ⟨fun x h' μ=>∃ (i:Nat) (N:List (Sg × Int)) (A:List Int),x=i/\μ=m.n.toNat - i/\i<=m.n.toNat/\St h h' (clL h25.size h23.size h20.size h13.size h.size m sf sm sl x10 N A C)/\NOk m.n.toNat N/\(∀ q ∈ N,kokS q.1)/\N.length<=i/\A.length=m.n.toNat/\HsA N A i (keyH m C [] []),
  ⟨_,0,[],_,rfl,rfl,by omega,hs,.nil _,fun q hq=>(by cases hq),by decide,Yg,fun s hs=>(by omega)⟩,?_⟩
 clear hs
 rintro - _ h32 μ ⟨i,N,A,rfl,rfl,hi,hs,hN,hok,hNl,hAl,hA⟩
 refine sBi (fun c1=>?_) (fun c1=>?_)
 ·
  obtain ⟨ci,hci⟩:=get_some (l:=C) (i:=i) (by omega)
  have hcid:C.getD i 0=ci:=getD_some hci
  refine ⟨⟨by omega,by omega⟩,?_⟩
  rw [show 0+Int.toNat (i:Int)*1=i by omega]
  refine ⟨_,hs.rd 3 rfl (by rw [Yd,hci]; rfl),sf,hs.rd 5 rfl rfl,?_⟩
  refine (hM.pf.ext hs.ext).rw.nbI (by omega) (by omega) fun b35 o36 bf g35 t35=>?_
  replace g35:m.fin[i]?=some bf:=g35
  refine ⟨_,t35.hd,?_⟩
  have hsg:sgB C m.fin i=⟨(ci:Int),0,ev0,bf,0⟩:=by unfold sgB; rw [hcid,getD_some g35]
  have hcb:ci<=200:=hCb ci (Yb hci)
  have hkk:kokS ⟨(ci:Int),0,ev0,bf,0⟩:=⟨inRn (n:=(ci:Int)) (by omega) (by omega),inR0,inR0,inR0,inR0⟩
  refine Fn.mono (next126 hs 1 2 (mb:=h.size) (n:=((m.n.toNat:Nat):Int)) rfl rfl (by rw [show ((m.n.toNat:Nat):Int)=m.n by omega]; exact hs.rd 5 rfl rfl) (by omega) hN hok ⟨(ci:Int),0,ev0,bf,0⟩ hkk (by omega)) ?_
  rintro _ h40 ⟨rfl,hs⟩
  refine ⟨_,rfl,⟨by omega,by omega⟩,?_⟩
  rw [<- hsg] at hs hkk ⊢
  obtain ⟨e1,e2,e3,e4,e5⟩:=nextF_spec hN (sgB C m.fin i)
  refine hs.put 0 rfl (o:=i) (vs:=[iv (nextF m.n.toNat N (sgB C m.fin i)).1]) rfl (by rw [Yc,Yv]; omega) fun h41 hs=>?_
  rw [map_splice iv (by omega)] at hs
  refine ⟨_,by omega,i+1,_,_,by rw [w64 (by omega) (by omega)]; omega,rfl,by omega,hs,e1,fun q hq=>?_,by omega,by rw [Yyh]; exact hAl,fun s hs'=>?_⟩
  ·
   rcases e5 q hq with h | h
   ·
    exact hok q h
   ·
    rw [h]; exact hkk
  ·
   by_cases e:s=i
   ·
    subst e
    exact ⟨_,Yq (by omega),.base e3 rfl⟩
   ·
    obtain ⟨v,hv,hh⟩:=hA s (by omega)
    exact ⟨v,by rw [Yy (fun h=>e h.symm)]; exact hv,hh.mono e2⟩
 have hin:i=m.n.toNat:=by omega
 subst hin
 refine ⟨sl,hs.rd 5 rfl rfl,?_⟩
 refine ⟨fun x h' μ=>∃ (j:Nat) (N:List (Sg × Int)) (A:List Int),x=j/\μ=m.li.length - j/\j<=m.li.length/\St h h' (clL h25.size h23.size h20.size h13.size h.size m sf sm sl x10 N A C)/\NOk m.n.toNat N/\(∀ q ∈ N,kokS q.1)/\N.length<=m.n.toNat+j/\A.length=m.n.toNat/\HsA N A m.n.toNat (keyH m C (m.li.take j) []),
  ⟨_,0,N,A,rfl,rfl,by omega,hs,hN,hok,hNl,hAl,hA⟩,?_⟩
 clear hs hN hok hNl hAl hA hi c1
 rintro - _ h48 μ ⟨j,N,A,rfl,rfl,hj,hs,hN,hok,hNl,hAl,hA⟩
 refine sBi (fun c1=>?_) (fun c1=>?_)
 ·
  refine (hM.pl.ext hs.ext).rw.nbI (by omega) (by omega) fun b49 o50 t g49 t49=>?_
  replace g49:m.li[j]?=some t:=g49
  obtain ⟨ht1,ht2,ht3,ht4,ht5⟩:=hO.li t (Yb g49)
  refine ⟨_,_,_,t49,?_⟩
  refine hs.newput (vs:=t.cs) rfl rfl fun h55 hs=>?_
  refine ⟨sm,hs.rd 6 rfl rfl,_,hs.rd 0 rfl rfl,?_⟩
  refine (hM.pm.ext hs.ext).rw.nbI (by omega) (by omega) fun b58 o59 y g58 t58=>?_
  obtain ⟨_,_,_,_,hy1,hy2⟩:=hO.mv y (Yb g58)
  refine ⟨_,_,_,_,_,_,t58,?_⟩
  refine hs.newput (vs:=y.cs) rfl rfl fun h67 hs=>?_
  refine ⟨_,hs.rd 1 rfl rfl,_,hs.rd 1 rfl rfl,⟨by omega,by omega⟩,?_⟩
  obtain ⟨v,hv,hh⟩:=hA t.s.toNat (by omega)
  have hvb:=hh.bound hN
  rw [show 0+Int.toNat t.s*1=t.s.toNat by omega]
  refine ⟨v,hs.rd 2 rfl (by rw [Yd,hv]; rfl),_,hs.rd 0 rfl rfl,_,hs.rd 0 rfl rfl,_,hs.rd 0 rfl rfl,_,hs.rd 1 rfl rfl,?_⟩
  have hkk:kokS ⟨v,1,y.ev,false,t.k⟩:=⟨inRn (n:=v) (by omega) (by omega),inR1,hy1,hy2,ht5⟩
  refine Fn.mono (next126 hs 3 4 (mb:=h.size) (n:=((m.n.toNat:Nat):Int)) rfl rfl (by rw [show ((m.n.toNat:Nat):Int)=m.n by omega]; exact hs.rd 7 rfl rfl) (by omega) hN hok ⟨v,1,y.ev,false,t.k⟩ hkk (by omega)) ?_
  rintro _ h77 ⟨rfl,hs2⟩
  refine ⟨_,rfl,sm_cons (hs.same hs2 1 1 rfl rfl) sm_nil,⟨by omega,by omega⟩,?_⟩
  obtain ⟨e1,e2,e3,e4,e5⟩:=nextF_spec hN ⟨v,1,y.ev,false,t.k⟩
  refine hs2.put 2 rfl (o:=t.s.toNat) (vs:=[iv (nextF m.n.toNat N ⟨v,1,y.ev,false,t.k⟩).1]) rfl (by rw [Yc,Yv]; omega) fun h78 hs=>?_
  rw [map_splice iv (by omega)] at hs
  refine ⟨_,by omega,j+1,_,_,by rw [w64 (by omega) (by omega)]; omega,rfl,by omega,hs.drop 2,e1,fun q hq=>?_,by omega,by rw [Yyh]; exact hAl,?_⟩
  ·
   rcases e5 q hq with h | h
   ·
    exact hok q h
   ·
    rw [h]; exact hkk
  ·
   refine hA.step hN hAl (by omega) hv _ rfl (show (1:Int) ≠ 0 by decide) (sgL m.mv t) ?_ fun s=>?_
   ·
    unfold sgL; rw [g58]
   ·
    rw [keyH_li g49]
    by_cases e:t.s=(s:Int)
    ·
     rw [if_pos e,if_pos (by omega)]
    ·
     rw [if_neg e,if_neg (by omega)]
 have hjn:j=m.li.length:=by omega
 subst hjn
 rw [Yye] at hA
 refine ⟨fun x h' μ=>∃ (j:Nat) (N:List (Sg × Int)) (A:List Int),x=j/\μ=m.mv.length - j/\j<=m.mv.length/\St h h' (clL h25.size h23.size h20.size h13.size h.size m sf sm sl x10 N A C)/\NOk m.n.toNat N/\(∀ q ∈ N,kokS q.1)/\N.length<=m.n.toNat+m.li.length+j/\A.length=m.n.toNat/\HsA N A m.n.toNat (keyH m C m.li (m.mv.take j)),
  ⟨_,0,N,A,rfl,rfl,by omega,hs,hN,hok,hNl,hAl,hA⟩,?_⟩
 clear hs hN hok hNl hAl hA hj c1
 rintro - _ h84 μ ⟨j,N,A,rfl,rfl,hj,hs,hN,hok,hNl,hAl,hA⟩
 refine sBi (fun c1=>?_) (fun c1=>?_)
 ·
  refine (hs.rows 4 (s:=x10) (cs:=Mv.cs) rfl (by omega)).nbI (by omega) (by omega) fun b85 o86 x g85 t85=>?_
  replace g85:m.mv[j]?=some x:=g85
  obtain ⟨hx1,hx2,hx3,hx4,hx5,hx6⟩:=hO.mv x (Yb g85)
  refine ⟨_,_,_,_,_,_,t85,?_⟩
  refine hs.newput (vs:=x.cs) rfl rfl fun h94 hs=>?_
  refine ⟨_,hs.rd 0 rfl rfl,_,hs.rd 0 rfl rfl,⟨by omega,by omega⟩,?_⟩
  obtain ⟨v,hv,hh⟩:=hA x.f.toNat (by omega)
  have hvb:=hh.bound hN
  obtain ⟨ct,hct⟩:=get_some (l:=C) (i:=x.t.toNat) (by omega)
  have hcb:ct<=200:=hCb ct (Yb hct)
  rw [show 0+Int.toNat x.f*1=x.f.toNat by omega]
  refine ⟨v,hs.rd 1 rfl (by rw [Yd,hv]; rfl),_,hs.rd 0 rfl rfl,_,hs.rd 0 rfl rfl,_,hs.rd 0 rfl rfl,_,hs.rd 0 rfl rfl,_,hs.rd 0 rfl rfl,⟨by omega,by omega⟩,?_⟩
  rw [show 0+Int.toNat x.t*1=x.t.toNat by omega]
  refine ⟨_,hs.rd 4 rfl (by rw [Yd,hct]; rfl),?_⟩
  have hkk:kokS ⟨v,2,x.ev,x.ag,(ct:Int)⟩:=⟨inRn (n:=v) (by omega) (by omega),inR2,hx5,hx6,inRn (n:=(ct:Int)) (by omega) (by omega)⟩
  refine Fn.mono (next126 hs 2 3 (mb:=h.size) (n:=((m.n.toNat:Nat):Int)) rfl rfl (by rw [show ((m.n.toNat:Nat):Int)=m.n by omega]; exact hs.rd 6 rfl rfl) (by omega) hN hok ⟨v,2,x.ev,x.ag,(ct:Int)⟩ hkk (by omega)) ?_
  rintro _ h106 ⟨rfl,hs2⟩
  refine ⟨_,rfl,sm_cons (hs.same hs2 0 0 rfl rfl) sm_nil,⟨by omega,by omega⟩,?_⟩
  obtain ⟨e1,e2,e3,e4,e5⟩:=nextF_spec hN ⟨v,2,x.ev,x.ag,(ct:Int)⟩
  refine hs2.put 1 rfl (o:=x.f.toNat) (vs:=[iv (nextF m.n.toNat N ⟨v,2,x.ev,x.ag,(ct:Int)⟩).1]) rfl (by rw [Yc,Yv]; omega) fun h78 hs=>?_
  rw [map_splice iv (by omega)] at hs
  refine ⟨_,by omega,j+1,_,_,by rw [w64 (by omega) (by omega)]; omega,rfl,by omega,hs.drop 1,e1,fun q hq=>?_,by omega,by rw [Yyh]; exact hAl,?_⟩
  ·
   rcases e5 q hq with h | h
   ·
    exact hok q h
   ·
    rw [h]; exact hkk
  ·
   refine hA.step hN hAl (by omega) hv _ rfl (show (2:Int) ≠ 0 by decide) (sgM C x) ?_ fun s=>?_
   ·
    unfold sgM; rw [getD_some hct]
   ·
    rw [keyH_mv g85]
    by_cases e:x.f=(s:Int)
    ·
     rw [if_pos e,if_pos (by omega)]
    ·
     rw [if_neg e,if_neg (by omega)]
 have hjn:j=m.mv.length:=by omega
 subst hjn
 rw [Yye] at hA
 have hpat:canonL A=canonL (clsK m C)/\(dedF A).length=(dedF (clsK m C)).length:=by
  refine canon_eq (by rw [clsK_len,hAl]) fun i j a b a' b' h1 h2 h3 h4=>?_
  have hi:=(Ya.1 h1).1
  have hj:=(Ya.1 h2).1
  obtain ⟨v,hv,hh⟩:=hA i (by omega)
  obtain ⟨v',hv',hh'⟩:=hA j (by omega)
  rw [h1] at hv; cases hv
  rw [h2] at hv'; cases hv'
  unfold clsK at h3 h4
  rw [Yd,Yyb (by omega)] at h3 h4
  cases h3; cases h4
  constructor
  ·
   intro e; subst e; exact HsN.func hN hh hh'
  ·
   intro e; exact HsN.inj hN hh (by rw [show keyH m C m.li m.mv i=_ from e]; exact hh')
 have hAr:∀ a ∈ A,inR a:=fun a ha=>by
  obtain ⟨i,hi⟩:=Yf.1 ha
  have:=(Ya.1 hi).1
  obtain ⟨v,hv,hh⟩:=hA i (by omega)
  rw [hi] at hv; cases hv
  have:=hh.bound hN
  exact ⟨by omega,by omega⟩
 have hge:=clsK_ge hCl
 have hle:=dedF_len_le (clsK m C)
 rw [clsK_len] at hle
 refine hs.mmake 215 fun h111 E111 hs=>?_
 refine ⟨_,rfl,?_⟩
 refine ⟨fun x h' μ=>∃ i:Nat,x=i/\μ=m.n.toNat - i/\i<=m.n.toNat/\St h h' (.mp h84.size (Fv (zipI (dedF (A.take i)) 0))::clL h25.size h23.size h20.size h13.size h.size m sf sm sl x10 N A ((A.take i).map (idxF (dedF (A.take i)))++C.drop i)),⟨_,0,rfl,rfl,by omega,hs⟩,?_⟩
 clear hs
 rintro - _ h116 μ ⟨i,rfl,rfl,hi,hs⟩
 have hDr:∀ {i:Nat},∀ q ∈ zipI (dedF (A.take i)) 0,inR q.1:=fun q hq=>by
  have:q.1 ∈ (zipI (dedF (A.take _)) 0).map Prod.fst:=Yp.2 ⟨q,hq,rfl⟩
  rw [zipI_fst,dedF_mem] at this
  exact hAr _ (List.mem_of_mem_take this)
 have hDn:∀ {i:Nat},((zipI (dedF (A.take i)) 0).map Prod.fst).Nodup:=fun {_}=>by rw [zipI_fst]; exact dedF_nodup _
 refine sBi (fun c2=>?_) (fun c2=>?_)
 ·
  obtain ⟨a,ha⟩:=get_some (l:=A) (i:=i) (by omega)
  have har:=hAr a (Yb ha)
  have hCl2:((A.take i).map (idxF (dedF (A.take i)))++C.drop i).length=m.n.toNat:=by rw [Yh,Yc,Yu,List.length_drop]; omega
  refine ⟨⟨by omega,by omega⟩,?_⟩
  rw [show 0+Int.toNat (i:Int)*1=i by omega]
  refine ⟨a,hs.rd 1 rfl (by rw [Yd,ha]; rfl),?_⟩
  refine hs.mlook (ck:=iv) (cv:=iv) M215 0 rfl hDr hDn (a:=a) har true ?_
  have hlast:∀ {h':Heap},St h h' (.mp h84.size (Fv (zipI (dedF (A.take (i+1))) 0))::clL h25.size h23.size h20.size h13.size h.size m sf sm sl x10 N A ((A.take (i+1)).map (idxF (dedF (A.take (i+1))))++C.drop (i+1))) ->
    ∃ μ,μ<m.n.toNat - i/\∃ i2:Nat,IntKind.wrap .i64 ((i:Int)+1)=i2/\μ=m.n.toNat - i2/\i2<=m.n.toNat/\St h h' (.mp h84.size (Fv (zipI (dedF (A.take i2)) 0))::clL h25.size h23.size h20.size h13.size h.size m sf sm sl x10 N A ((A.take i2).map (idxF (dedF (A.take i2)))++C.drop i2)):=
   fun h2=>⟨_,by omega,i+1,by rw [w64 (by omega) (by omega)]; omega,rfl,by omega,h2⟩
  rw [mget_zipI]
  have hD:=dedF_take ha
  have hcs:=class_step (C:=C) ha (by omega)
  by_cases hm:a ∈ dedF (A.take i)
  ·
   rw [if_pos hm] at hD ⊢
   refine ⟨_,true,rfl,?_⟩
   refine sB_f rfl ?_
   refine hs.mlook (ck:=iv) (cv:=iv) M215 0 rfl hDr hDn (a:=a) har false ?_
   rw [mget_zipI,if_pos hm]
   refine ⟨_,rfl,⟨by omega,by omega⟩,?_⟩
   refine hs.put 4 rfl (o:=i) (vs:=[natV (idxF (dedF (A.take i)) a)]) rfl (by rw [Yc,Yv]; omega) fun h134 hs=>?_
   rw [map_splice natV (by omega)] at hs
   rw [hD] at hcs
   rw [hcs] at hs
   refine hlast ?_
   rw [hD]; exact hs
  ·
   rw [if_neg hm] at hD ⊢
   have hnone:∀ q ∈ zipI (dedF (A.take i)) 0,q.1 ≠ a:=fun q hq e=>hm (by
    have h1:q.1 ∈ (zipI (dedF (A.take i)) 0).map Prod.fst:=Yp.2 ⟨q,hq,rfl⟩
    rwa [zipI_fst,e] at h1)
   refine ⟨0,false,rfl,?_⟩
   refine sB_t rfl ?_
   refine hs.mlen (ck:=iv) (cv:=iv) M215 0 rfl ?_
   refine ⟨_,rfl,?_⟩
   refine hs.mput (ck:=iv) (cv:=iv) M215 0 rfl hDr hDn (a:=a) har (((zipI (dedF (A.take i)) 0).length:Nat):Int) fun h125 hs=>?_
   rw [mset_none hnone,zipI_len,<- zipI_snoc,<- hD] at hs
   refine hs.mlook (ck:=iv) (cv:=iv) M215 0 rfl hDr hDn (a:=a) har false ?_
   rw [mget_zipI,if_pos (by rw [hD,Yk]; exact .inr (Ye.2 rfl))]
   refine ⟨_,rfl,⟨by omega,by omega⟩,?_⟩
   refine hs.put 4 rfl (o:=i) (vs:=[natV (idxF (dedF (A.take (i+1))) a)]) rfl (by rw [Yc,Yv]; omega) fun h134 hs=>?_
   rw [map_splice natV (by omega),hcs] at hs
   exact hlast hs
 have hin:i=m.n.toNat:=by omega
 subst hin
 rw [Yj (by omega),List.drop_eq_nil_of_le (by omega),Yw] at hs
 have hcl2:A.map (idxF (dedF A))=canonL (clsK m C):=hpat.1
 obtain ⟨f',rfl⟩:∃ f',f=f'+1:=⟨f - 1,by omega⟩
 rw [clsN] at hcls
 refine hs.mlen (ck:=iv) (cv:=iv) M215 0 rfl ?_
 refine ⟨_,rfl,?_⟩
 refine sBe (fun c3=>?_) (fun c3=>?_)
 ·
  rw [zipI_len,hpat.2] at c3
  rw [if_pos (by omega)] at hcls
  rw [hcls]
  refine ⟨⟨some ⟨h13.size,0,none⟩,m.n.toNat,m.n.toNat⟩,rfl,?_⟩
  rw [hcl2] at hs
  have h1:=(hs.drop 4).sub (List.sublist_append_left [_] _)
  exact h1.blkS m.n.toNat 1 _ (natflat _) (inrows _) (by rw [Yc,Yc,canonL_len,clsK_len]) (by simp only [maxLen]; omega)
 ·
  refine hs.mlen (ck:=iv) (cv:=iv) M215 0 rfl ?_
  refine ⟨_,rfl,?_⟩
  rw [zipI_len,hpat.2] at c3 ⊢
  rw [if_neg (by omega)] at hcls
  rw [hcl2] at hs
  refine ⟨_,?_,canonL (clsK m C),(dedF (clsK m C)).length,f',rfl,rfl,by omega,by omega,by rw [canonL_len,clsK_len],fun x hx=>by have:=canonL_lt hx; omega,.inr (dedF_canon _),hcls,(hs.drop 4)⟩
  omega
end Go.VC
end

section
/- The canonical minimal machine, on lists. No program here. -/
namespace Go.VC

def addQ (Q:List Nat) (c:Nat):List Nat:=if c ∈ Q then Q else Q++[c]
def minX (m:Mch) (C:List Nat) (hd:Nat) (tl:Option To) (st:List Nat × List Mv × List To) (x:Mv):List Nat × List Mv × List To:=
 (addQ st.1 (C.getD x.t.toNat 0),st.2.1++[⟨hd,x.send,x.peer,x.label,(idxF (addQ st.1 (C.getD x.t.toNat 0)) (C.getD x.t.toNat 0):Nat),x.ag⟩],
  st.2.2++(match tl with
   | none=>[]
   | some t=>match m.mv[t.e.toNat]? with
    | some y=>if x.ev=y.ev then [⟨hd,t.k,(st.2.1.length:Nat)⟩] else []
    | none=>[]))
def limM (li:List To):List (Int × To):=li.foldl (fun l t=>mset l t.s t) []
def outM (m:Mch) (s:Nat):List Mv:=m.mv.filter fun x=>x.f=(s:Int)
def minN (m:Mch) (C:List Nat):Nat->Nat->List Nat->List Bool->List Mv->List To->Mch
 | 0,_,Q,fin,mv,li=>⟨m.role,(Q.length:Nat),0,fin,mv,li⟩
 | f+1,hd,Q,fin,mv,li=>match Q[hd]? with
  | none=>⟨m.role,(Q.length:Nat),0,fin,mv,li⟩
  | some c=>minN m C f (hd+1) ((outM m (idxF C c)).foldl (minX m C hd (mget (limM m.li) (idxF C c:Nat))) (Q,mv,li)).1 (fin++[m.fin.getD (idxF C c) false])
    ((outM m (idxF C c)).foldl (minX m C hd (mget (limM m.li) (idxF C c:Nat))) (Q,mv,li)).2.1 ((outM m (idxF C c)).foldl (minX m C hd (mget (limM m.li) (idxF C c:Nat))) (Q,mv,li)).2.2
def minF (m:Mch):Mch:=minN m (cls m).1 202 0 [(cls m).1.getD m.s.toNat 0] [] [] []
structure CsOk (m:Mch) (C:List Nat) (cnt:Nat):Prop where
 cl:C.length=m.n.toNat
 cb:∀ c ∈ C,c<cnt
 cc:cnt<=m.n.toNat
 cs:∀ c,c<cnt->c ∈ C
theorem idxF_get {K:Type} [DecidableEq K]:∀ {l:List K} {k:K},k ∈ l->l[idxF l k]?=some k
 | [],_,h=>by cases h
 | x::r,k,h=>by
  rw [idxF]
  split
  ·
   rename_i e; rw [e]; rfl
  ·
   rename_i e
   rw [List.getElem?_cons_succ]
   exact idxF_get (by rcases Yr.1 h with h | h; exact absurd h.symm e; exact h)
theorem canon_surj {K:Type} [DecidableEq K] (l:List K):∀ c,c<(dedF l).length->c ∈ canonL l:=by
 intro c hc
 obtain ⟨k,hk⟩:=get_some (l:=dedF l) (i:=c) hc
 have hkm:=Yb hk
 have hkl:=(dedF_mem _ _).1 hkm
 refine Yp.2 ⟨k,hkl,?_⟩
 have h1:=idxF_get hkm
 have h2:=idxF_lt hkm
 exact (List.getElem?_inj h2 (dedF_nodup l)).1 (h1.trans hk.symm)
theorem cls_ok {m:Mch} (hO:MOk m):CsOk m (cls m).1 (cls m).2:=by
 have hn:=hO.n
 have key:∀ (f:Nat) (C:List Nat) (c:Nat),C.length=m.n.toNat->202<=f+c->c<=m.n.toNat->(c=0\/(dedF C).length=c)->CsOk m (clsN m f C c).1 (clsN m f C c).2:=by
  intro f
  induction f with
  | zero=>intro C c _ h _ _; omega
  | succ f ih=>
   intro C c hC hf hc hd
   have hge:=clsK_ge hC
   have hle:=dedF_len_le (clsK m C)
   rw [clsK_len] at hle
   rw [clsN]
   by_cases e:(dedF (clsK m C)).length=c
   ·
    rw [if_pos e]
    exact ⟨by rw [canonL_len,clsK_len],fun x hx=>by have:=canonL_lt hx; omega,hc,fun x hx=>canon_surj _ x (by omega)⟩
   ·
    rw [if_neg e]
    exact ih _ _ (by rw [canonL_len,clsK_len]) (by omega) hle (.inr (dedF_canon _))
 exact key 202 _ 0 Yg (by omega) (by omega) (.inl rfl)
structure QOk (Q:List Nat) (cnt:Nat):Prop where
 nd:Q.Nodup
 lt:∀ c ∈ Q,c<cnt
theorem QOk.le {Q:List Nat} {cnt:Nat} (h:QOk Q cnt):Q.length<=cnt:=by
 have:=List.Nodup.length_le_of_subset h.nd (l₂:=List.range cnt) fun c hc=>List.mem_range.2 (h.lt c hc)
 rwa [Yyd] at this
theorem QOk.add {Q:List Nat} {cnt c:Nat} (h:QOk Q cnt) (hc:c<cnt):QOk (addQ Q c) cnt:=by
 unfold addQ
 split
 ·
  exact h
 ·
  rename_i hn
  refine ⟨?_,fun x hx=>?_⟩
  ·
   rw [List.nodup_append]
   exact ⟨h.nd,by simp,fun a ha b hb=>by rw [Ye] at hb; subst hb; exact fun e=>hn (e ▸ ha)⟩
  ·
   rcases Yk.1 hx with hx | hx
   ·
    exact h.lt x hx
   ·
    rw [Ye] at hx; rw [hx]; exact hc
theorem addQ_mem {Q:List Nat} {c:Nat}:c ∈ addQ Q c:=by unfold addQ; split; assumption; simp
theorem addQ_len {Q:List Nat} {c:Nat}:Q.length<=(addQ Q c).length:=by unfold addQ; split; omega; simp
def NumQ (NUM:List Int) (Q:List Nat) (cnt:Nat):Prop:=NUM.length=cnt/\∀ c,c<cnt->NUM[c]?=some (if c ∈ Q then (idxF Q c:Int) else -1)
theorem NumQ.add {NUM:List Int} {Q:List Nat} {cnt c:Nat} (h:NumQ NUM Q cnt) (hc:c<cnt) (hn:c ∉ Q):NumQ (NUM.set c (Q.length:Nat)) (Q++[c]) cnt:=by
 obtain ⟨h1,h2⟩:=h
 refine ⟨by rw [Yyh,h1],fun x hx=>?_⟩
 by_cases e:x=c
 ·
  subst e
  rw [Yq (by omega),if_pos (by simp)]
  congr 2
  have:∀ (l:List Nat),x ∉ l->idxF (l++[x]) x=l.length:=by
   intro l hl
   induction l with
   | nil=>rw [List.nil_append,idxF,if_pos rfl]; rfl
   | cons y r ih=>
    rw [Yr,not_or] at hl
    rw [List.cons_append,idxF,if_neg (fun e=>hl.1 e.symm),ih hl.2,Yyj]
  exact (this Q hn).symm
 ·
  rw [Yy (fun h=>e h.symm),h2 x hx]
  by_cases hm:x ∈ Q
  ·
   rw [if_pos hm,if_pos (Yk.2 (.inl hm)),idxF_mem hm]
  ·
   rw [if_neg hm,if_neg (fun hc=>by rcases Yk.1 hc with hc | hc; exact hm hc; exact e (Ye.1 hc))]
theorem limM_nd (li:List To):((limM li).map Prod.fst).Nodup:=by
 unfold limM
 suffices h:∀ (l:List To) (a:List (Int × To)),(a.map Prod.fst).Nodup->((l.foldl (fun l t=>mset l t.s t) a).map Prod.fst).Nodup from h li [] List.nodup_nil
 intro l
 induction l with
 | nil=>intro a h; exact h
 | cons x r ih=>intro a h; rw [List.foldl_cons]; exact ih _ (mset_nodup _ _ _ h)
theorem mset_mem {α β:Type} [DecidableEq α] {a:α} {b:β}:∀ {l:List (α × β)} {q:α × β},q ∈ mset l a b->q ∈ l\/q=(a,b)
 | [],q,h=>by rw [mset,Ye] at h; exact .inr h
 | (x,y)::r,q,h=>by
  rw [mset] at h
  split at h
  ·
   rename_i e
   rcases Yr.1 h with h | h
   ·
    rw [h,e]; exact .inr rfl
   ·
    exact .inl (Yn _ h)
  ·
   rcases Yr.1 h with h | h
   ·
    rw [h]; exact .inl (Yx ..)
   ·
    rcases mset_mem h with h | h
    ·
     exact .inl (Yn _ h)
    ·
     exact .inr h
theorem limM_mem {li:List To} {q:Int × To} (h:q ∈ limM li):q.2 ∈ li/\q.2.s=q.1:=by
 have key:∀ n,∀ q ∈ limM (li.take n),q.2 ∈ li/\q.2.s=q.1:=by
  intro n
  induction n with
  | zero=>intro q hq; cases hq
  | succ n ih=>
   intro q hq
   by_cases hn:n<li.length
   ·
    obtain ⟨t,ht⟩:=get_some (l:=li) (i:=n) hn
    have e:limM (li.take (n+1))=mset (limM (li.take n)) t.s t:=by unfold limM; rw [take_snoc ht,List.foldl_append]; rfl
    rw [e] at hq
    rcases mset_mem hq with h | h
    ·
     exact ih q h
    ·
     rw [h]; exact ⟨Yb ht,rfl⟩
   ·
    rw [Yj (by omega)] at hq
    refine ih q ?_
    rw [Yj (by omega)]; exact hq
 have:=key li.length q
 rw [Yye] at this
 exact this h
theorem limM_snoc {li:List To} {j:Nat} {t:To} (h:li[j]?=some t):limM (li.take (j+1))=mset (limM (li.take j)) t.s t:=by unfold limM; rw [take_snoc h,List.foldl_append]; rfl
theorem outM_snoc {mv:List Mv} {j:Nat} {x:Mv} (h:mv[j]?=some x) (s:Nat):(mv.take (j+1)).filter (fun y=>y.f=(s:Int))=if x.f=(s:Int) then (mv.take j).filter (fun y=>y.f=(s:Int))++[x] else (mv.take j).filter (fun y=>y.f=(s:Int)):=by
 rw [take_snoc h,List.filter_append]
 by_cases e:x.f=(s:Int)
 ·
  rw [if_pos e,List.filter_cons_of_pos (by simpa using e)]; rfl
 ·
  rw [if_neg e,List.filter_cons_of_neg (by simpa using e)]; simp
theorem minX_len (m:Mch) (C:List Nat) (hd:Nat) (tl:Option To) (st:List Nat × List Mv × List To) (x:Mv):(minX m C hd tl st x).2.1.length=st.2.1.length+1/\(minX m C hd tl st x).2.2.length<=st.2.2.length+1:=by
 unfold minX
 refine ⟨by simp,?_⟩
 rw [Yh]
 split
 ·
  simp
 ·
  split
  ·
   split <;> simp
  ·
   simp
end Go.VC
end

section
/- Contract: minimal. -/
namespace Go.VC
open Go.Proofs Go.LexS

theorem St.nestLn {α:Type} {h0 h:Heap} {A B:List It} {Q:List (Sl × List α)} {e:TypeId} {n:Nat} {cs:α->List Value} (hs:St h0 h (A++Q.map (nest e n cs)++B)) {i:Nat} {q:Sl × List α} (hi:Q[i]?=some q) (hn:0<n):Rw h n q.1 (q.2.map cs):=by
 have hil:i<(Q.map (nest e n cs)).length:=by rw [Yc]; exact (Ya.1 hi).1
 exact hs.rw (A.length+i) (rows:=q.2.map cs) (by rw [get_mid hil,Yd,hi]; rfl) hn
theorem made31 (n:Nat):madeL Pz 52 n=(List.replicate n (⟨none,0,0⟩:Sl)).map slV:=by
 have e:zeroC Pz 52=[.slice none 0 0]:=by kernel_rfl
 unfold madeL
 rw [e,List.map_replicate]
 induction n with
 | zero=>rfl
 | succ n ih=>rw [List.replicate_succ,List.replicate_succ,Yyu,ih]; rfl
theorem list_set_self {α:Type} {L:List α} {k:Nat} {x:α} (h:L[k]?=some x):L.set k x=L:=by
 apply Yyr
 intro m
 by_cases hm:k=m
 ·
  subst hm; rw [Yq (Ya.1 h).1,h]
 ·
  rw [Yy hm]
def toV (t:To):Value:=.agg ⟨t.cs⟩
def natI (L:List Nat):List Int:=L.map fun c:Nat=>(c:Int)
theorem natI_snoc (L:List Nat) (c:Nat):natI (L++[c])=natI L++[(c:Int)]:=by unfold natI; rw [Ym]; rfl
theorem natI_get {L:List Nat} {i:Nat} {d:Int} (h:(natI L)[i]?=some d):∃ c:Nat,L[i]?=some c/\d=c:=by
 unfold natI at h
 rw [Yd] at h
 obtain ⟨c,hc,rfl⟩:=Yya.1 h
 exact ⟨c,hc,rfl⟩
def mnA (xb lb msb sb ob gb nmb:Nat) (m:Mch) (sf sm sl sc q ofn omv oli:Sl) (C Q:List Nat) (NUM:List Int) (fin:List Bool) (mv:List Mv) (li:List To) (SM:List Nat) (MS:List Sl):List It:=
 [.blk xb [.int .i64 m.role,.int .i64 0,.int .i64 0,.slice ofn.a ofn.n ofn.c,.slice omv.a omv.n omv.c,.slice oli.a oli.n oli.c] 55,.sl q 3 1 ((natI Q).map inC),.blk nmb (NUM.map iv) 3,.mp lb ((limM m.li).map fun q=>(iv q.1,toV q.2)),.sl ofn 4 1 (fin.map bC),.sl omv 108 6 (mv.map Mv.cs),.sl oli 190 3 (li.map To.cs),
  .blk msb (MS.map slV) 52,.blk sb (SM.map natV) 3,.sl sc 3 1 ((natI C).map inC),.blk ob m0 55,.blk gb (mC m sf sm sl) 55]
set_option maxHeartbeats 8000000 in
theorem minimal36 (m:Mch) (sf sm sl:Sl) (h:Heap) (hM:MI h m sf sm sl) (hO:MOk m) (hS:m.mv.Pairwise mvLt) :
  Fn Pz 115 #[.agg ⟨mC m sf sm sl⟩] h fun v h'=>∃ sf' sm' sl':Sl,v=.agg ⟨mC (minF m) sf' sm' sl'⟩/\St h h' (mL (minF m) sf' sm' sl'):=by
 apply vc115 m.role m.n m.s sf sm sl; unfold W115
 have hs:=St.refl h
 have hn:=hO.n
 have hms:=hO.s
 have hml:=hO.ml
 have hll:=hO.ll
 have hfl:=hO.fl
 have hMl:=hM.pl.ln
 have hMf:=hM.pf.ln
 have hMm:=hM.pm.ln
 have hCs:=cls_ok hO
 have hmin:minF m=minN m (cls m).1 202 0 [(cls m).1.getD m.s.toNat 0] [] [] []:=rfl
 refine hs.newb fun h7 hs=>?_
 refine hs.newb fun h8 hs=>?_
 refine ⟨_,_,_,sf,sm,sl,hs.at 1 rfl (n:=6) rfl,?_⟩
 refine (classes71 m sf sm sl h8 (hM.ext hs.ext) hO hS).mono ?_
 rintro _ h18 ⟨sc,rfl,hsc⟩
 have hs:=(hs.join hsc).perm (List.perm_append_comm (l₁:=[_,_]) (l₂:=[_]))
 generalize hC:(cls m).1=C at *
 generalize hcnt:(cls m).2=cnt at *
 obtain ⟨hCl,hCb,hcc,hCsu⟩:=hCs
 refine ⟨sc,_,rfl,by omega,?_⟩
 rw [made3n]
 refine hs.newb fun h19 hs=>?_
 refine ⟨_,hs.rd 3 rfl rfl,?_⟩
 have hscn:=(hs.rows 1 (s:=sc) (cs:=inC) rfl (by omega)).ln
 rw [Yc] at hscn
 rw [w64 (n:=m.n - 1) (by omega) (by omega)]
 refine ⟨fun x h' μ=>∃ (i:Nat) (SM:List Nat),x=(i:Int) - 1/\μ=i/\i<=m.n.toNat/\SM.length=cnt/\(∀ c,c<cnt->c ∈ C.drop i->SM[c]?=some (i+idxF (C.drop i) c))/\St h h' [.blk h18.size (SM.map natV) 3,.sl sc 3 1 ((natI C).map inC),.blk h7.size m0 55,.blk h.size (mC m sf sm sl) 55],
  ⟨_,m.n.toNat,_,by omega,rfl,by omega,by rw [Yg]; omega,fun c _ hc=>(by rw [List.drop_eq_nil_of_le (by omega)] at hc; cases hc),hs⟩,?_⟩
 clear hs
 rintro - _ h25 i ⟨_,SM,rfl,rfl,hi,hSMl,hSM,hs⟩
 refine sBi (fun c1=>?_) (fun c1=>?_)
 ·
  obtain ⟨i,rfl⟩:∃ i',i=i'+1:=⟨i - 1,by omega⟩
  rw [show (((i+1:Nat):Int) - 1)=(i:Int) by omega]
  refine (hs.rows 1 (s:=sc) (cs:=inC) rfl (by omega)).nbI (by omega) (by omega) fun b26 o27 d26 g26 t26=>?_
  rw [Ys] at g26
  obtain ⟨c,gc,rfl⟩:=natI_get g26
  have hcb:=hCb c (Yb gc)
  refine ⟨_,t26.hd,⟨by omega,by omega⟩,?_⟩
  rw [show 0+Int.toNat (c:Int)*1=c by omega]
  refine hs.put 0 rfl (o:=c) (vs:=[natV i]) rfl (by rw [Yc,Yv]; omega) fun h29 hs=>?_
  rw [map_splice natV (by omega)] at hs
  refine ⟨_,by omega,i,_,by rw [w64 (by omega) (by omega)],rfl,by omega,by rw [Yyh]; exact hSMl,fun c' hc' hm=>?_,hs⟩
  rw [drop_get gc] at hm ⊢
  rw [idxF]
  by_cases e:c=c'
  ·
   subst e; rw [if_pos rfl,Yq (by omega)]; rfl
  ·
   rw [if_neg e,Yy e]
   rcases Yr.1 hm with hm | hm
   ·
    exact absurd hm.symm e
   ·
    rw [hSM c' hc' hm]; congr 1; omega
 have hi0:i=0:=by omega
 subst hi0
 have hSM':∀ c,c<cnt->SM[c]?=some (idxF C c):=fun c hc=>by
  have:=hSM c hc (by rw [List.drop_zero]; exact hCsu c hc)
  rwa [List.drop_zero,Nat.zero_add] at this
 clear hSM c1 hi
 refine ⟨_,hs.rd 3 rfl rfl,by omega,?_⟩
 rw [made31]
 refine hs.newb fun h32 hs=>?_
 have hs:=hs.nests (α:=Mv) (e:=108) (k:=6) (cs:=Mv.cs) (A:=[_,_,_,_,_]) (B:=[]) m.n.toNat
 refine ⟨sm,hs.rd 4 rfl rfl,?_⟩
 refine ⟨fun x h' μ=>∃ (j:Nat) (MS:List (Sl × List Mv)),x=(j:Int)/\μ=m.mv.length - j/\j<=m.mv.length/\MS.map Prod.snd=((List.range m.n.toNat).map fun s:Nat=>(m.mv.take j).filter (fun y=>y.f=(s:Int))) /\
  St h h' ([.blk h25.size ((MS.map Prod.fst).map slV) 52,.blk h18.size (SM.map natV) 3,.sl sc 3 1 ((natI C).map inC),.blk h7.size m0 55,.blk h.size (mC m sf sm sl) 55]++MS.map (nest 108 6 Mv.cs)++[]),
  ⟨_,0,List.replicate m.n.toNat ((⟨.none,0,0⟩,[]):Sl × List Mv),rfl,rfl,by omega,?_,?_⟩,?_⟩
 rotate_left 2
 ·
  clear hs
  rintro - _ h38 μ ⟨j,MS,rfl,rfl,hj,hMS,hs⟩
  have hMSl:MS.length=m.n.toNat:=by have:=congrArg List.length hMS; simpa using this
  refine sBi (fun c1=>?_) (fun c1=>?_)
  ·
   refine (hM.pm.ext hs.ext).rw.nbI (by omega) (by omega) fun b39 o40 x g39 t39=>?_
   replace g39:m.mv[j]?=some x:=g39
   obtain ⟨hx1,hx2,_,_,_,_⟩:=hO.mv x (Yb g39)
   obtain ⟨q,hq⟩:=get_some (l:=MS) (i:=x.f.toNat) (by omega)
   refine ⟨_,_,_,_,_,_,t39,?_⟩
   refine hs.newput (vs:=x.cs) rfl rfl fun h48 hs=>?_
   refine ⟨_,hs.rd 0 rfl rfl,_,hs.rd 0 rfl rfl,⟨by omega,by omega⟩,?_⟩
   rw [show 0+Int.toNat x.f*1=x.f.toNat by omega]
   refine ⟨q.1,hs.rd 1 rfl (by rw [Yd,Yd,hq]; rfl),?_⟩
   refine ⟨_,_,_,_,_,_,hs.at 0 rfl (n:=6) rfl,?_⟩
   refine hs.newbE fun h58 E58 hs=>⟨E58.sm,?_⟩
   have hs:St h h58 ((.blk h48.size x.cs 108 :: .blk h38.size x.cs 108::[.blk h25.size ((MS.map Prod.fst).map slV) 52,.blk h18.size (SM.map natV) 3,.sl sc 3 1 ((natI C).map inC),.blk h7.size m0 55,.blk h.size (mC m sf sm sl) 55])++MS.map (nest 108 6 Mv.cs)++[]):=hs
   have hqn:=(hs.nestLn hq (by omega)).ln
   have hq2:q.2=(m.mv.take j).filter (fun y=>y.f=((x.f.toNat:Nat):Int)):=by
    have:=congrArg (·[x.f.toNat]?) hMS
    simp only [Yd,hq,Yyb (show x.f.toNat<m.n.toNat by omega),Option.map_some,Option.some.injEq] at this
    exact this
   have hql:q.2.length<=400:=by rw [hq2]; refine Yys (List.length_filter_le _ _) ?_; rw [Yu]; omega
   refine hs.nestAt hq app31 x (hs.at 0 rfl (n:=6) rfl) rfl rfl (by omega) (by simp only [maxLen]; omega) fun r h60 hr hs3=>?_
   refine ⟨sm_cons (hs.same hs3 1 1 rfl rfl) sm_nil,⟨by omega,by omega⟩,?_⟩
   refine hs3.put 2 rfl (o:=x.f.toNat) (vs:=[slV r]) rfl (by rw [Yc,Yc,Yv]; omega) fun h61 hs=>?_
   rw [map_splice slV (by rw [Yc]; omega)] at hs
   refine ⟨_,by omega,j+1,MS.set x.f.toNat (r,q.2++[x]),by rw [w64 (by omega) (by omega)]; omega,rfl,by omega,?_,?_⟩
   ·
    apply Yyr
    intro s
    rw [Yd,Yd]
    by_cases hsn:s<m.n.toNat
    ·
     rw [Yyb hsn]
     have h1:=congrArg (·[s]?) hMS
     simp only [Yd,Yyb hsn,Option.map_some] at h1
     by_cases e:x.f.toNat=s
     ·
      subst e
      rw [Yq (by omega),Option.map_some,Option.map_some,outM_snoc g39,if_pos (by omega),hq2]
     ·
      rw [Yy e,h1,Option.map_some,outM_snoc g39,if_neg (by omega)]
    ·
     rw [Yl (by rw [Yyh]; omega),Yl (by rw [Yyd]; omega)]; rfl
   ·
    rw [List.map_set]
    exact hs.drop 2
  have hjn:j=m.mv.length:=by omega
  subst hjn
  rw [Yye] at hMS
  rw [Yw] at hs
  have hMSl:MS.length=m.n.toNat:=by have:=congrArg List.length hMS; simpa using this
  have hMSg:∀ s:Nat,s<m.n.toNat->∃ q:Sl,MS[s]?=some (q,outM m s):=fun s hsn=>by
   obtain ⟨q,hq⟩:=get_some (l:=MS) (i:=s) (by omega)
   have:=congrArg (·[s]?) hMS
   simp only [Yd,hq,Yyb hsn,Option.map_some,Option.some.injEq] at this
   exact ⟨q.1,by rw [hq]; congr 1; exact Prod.ext rfl this⟩
  clear hMS
  refine hs.mmake 140 fun h65 E65 hs=>?_
  refine ⟨_,rfl,sl,hs.rd 5 rfl rfl,?_⟩
  refine ⟨fun x h' μ=>∃ j:Nat,x=(j:Int)/\μ=m.li.length - j/\j<=m.li.length/\St h h' (.mp h38.size ((limM (m.li.take j)).map fun q=>(iv q.1,toV q.2))::[.blk h25.size ((MS.map Prod.fst).map slV) 52,.blk h18.size (SM.map natV) 3,.sl sc 3 1 ((natI C).map inC),.blk h7.size m0 55,.blk h.size (mC m sf sm sl) 55]++MS.map (nest 108 6 Mv.cs)),⟨_,0,rfl,rfl,by omega,hs⟩,?_⟩
  clear hs
  rintro - _ h71 μ ⟨j,rfl,rfl,hj,hs⟩
  refine sBi (fun c2=>?_) (fun c2=>?_)
  ·
   refine (hM.pl.ext hs.ext).rw.nbI (by omega) (by omega) fun b72 o73 t g72 t72=>?_
   replace g72:m.li[j]?=some t:=g72
   obtain ⟨ht1,ht2,ht3,ht4,ht5⟩:=hO.li t (Yb g72)
   refine ⟨_,_,_,t72,?_⟩
   refine hs.newput (vs:=t.cs) rfl rfl fun h78 hs=>?_
   refine ⟨_,hs.rd 0 rfl rfl,_,_,_,hs.at 0 rfl (n:=3) rfl,?_⟩
   have hlr:∀ q ∈ limM (m.li.take j),inR q.1:=fun q hq=>by
    obtain ⟨h1,h2⟩:=limM_mem hq
    have:=hO.li _ (List.mem_of_mem_take h1)
    rw [<- h2]; exact inRn (by omega) (by omega)
   refine hs.mput (ck:=iv) (cv:=toV) M140 1 rfl hlr (limM_nd _) (a:=t.s) (inRn (by omega) (by omega)) t fun h83 hs=>?_
   rw [<- limM_snoc g72] at hs
   exact ⟨_,by omega,j+1,by rw [w64 (by omega) (by omega)]; omega,rfl,by omega,hs.drop 1⟩
  have hjn:j=m.li.length:=by omega
  subst hjn
  rw [Yye] at hs
  refine ⟨by omega,?_⟩
  rw [<- made3n,made3i]
  refine hs.newb fun h85 hs=>?_
  refine ⟨fun x h' μ=>∃ j:Nat,x=(j:Int)/\μ=cnt - j/\j<=cnt/\St h h' (.blk h71.size ((List.replicate j (-1)++List.replicate (cnt - j) 0).map iv) 3 :: .mp h38.size ((limM m.li).map fun q=>(iv q.1,toV q.2))::[.blk h25.size ((MS.map Prod.fst).map slV) 52,.blk h18.size (SM.map natV) 3,.sl sc 3 1 ((natI C).map inC),.blk h7.size m0 55,.blk h.size (mC m sf sm sl) 55]++MS.map (nest 108 6 Mv.cs)),⟨_,0,rfl,rfl,by omega,hs⟩,?_⟩
  clear hs
  rintro - _ h90 μ ⟨j,rfl,rfl,hj,hs⟩
  refine sBi (fun c3=>?_) (fun c3=>?_)
  ·
   refine ⟨⟨by omega,by omega⟩,?_⟩
   rw [show 0+Int.toNat (j:Int)*1=j by omega]
   refine hs.put 0 rfl (o:=j) (vs:=[iv (-1)]) rfl (by rw [Yc,Yh,Yg,Yg,Yv]; omega) fun h91 hs=>?_
   rw [map_splice iv (by rw [Yh,Yg,Yg]; omega)] at hs
   have e:(List.replicate j (-1:Int)++List.replicate (cnt - j) 0).set j (-1)=List.replicate (j+1) (-1)++List.replicate (cnt - (j+1)) 0:=by
    rw [List.set_append_right _ _ (by rw [Yg]; omega),Yg,Nat.sub_self,show cnt - j=(cnt - (j+1))+1 by omega,List.replicate_succ,List.set_cons_zero,List.replicate_succ' (n:=j),Yz]; rfl
   rw [e] at hs
   exact ⟨_,by omega,j+1,by rw [w64 (by omega) (by omega)]; omega,rfl,by omega,hs⟩
  have hjn:j=cnt:=by omega
  subst hjn
  rw [Nat.sub_self,List.replicate_zero,Yw] at hs
  obtain ⟨c0,hc0⟩:=get_some (l:=C) (i:=m.s.toNat) (by omega)
  have hc0b:=hCb c0 (Yb hc0)
  rw [getD_some hc0] at hmin
  refine ⟨_,hs.rd 6 rfl rfl,?_⟩
  refine (hs.rows 4 (s:=sc) (cs:=inC) rfl (by omega)).nbI (by omega) (by omega) fun b94 o95 d94 g94 t94=>?_
  obtain ⟨c0',gc0,rfl⟩:=natI_get g94
  rw [hc0] at gc0; cases gc0
  refine ⟨_,t94.hd,?_⟩
  refine hs.newb fun h97 hs=>?_
  refine ⟨⟨by omega,by omega⟩,_,hs.rd 0 rfl rfl,⟨by omega,by omega⟩,?_⟩
  rw [show 0+Int.toNat (c0:Int)*1=c0 by omega]
  refine hs.put 1 rfl (o:=c0) (vs:=[iv 0]) rfl (by rw [Yc,Yg,Yv]; omega) fun h99 hs=>?_
  rw [map_splice iv (by rw [Yg]; omega)] at hs
  have hs:=hs.blkS 1 1 ((natI [c0]).map inC) rfl (inrows _) rfl (by decide)
  refine ⟨_,hs.rd 7 rfl rfl,?_⟩
  refine hs.newput (vs:=[.int .i64 m.role,.int .i64 0,.int .i64 0,.slice none 0 0,.slice none 0 0,.slice none 0 0]) rfl rfl fun h102 hs=>?_
  have hs:St h h102 (mnA h99.size h38.size h25.size h18.size h7.size h.size h71.size m sf sm sl sc ⟨some ⟨h90.size,0,none⟩,1,1⟩ ⟨none,0,0⟩ ⟨none,0,0⟩ ⟨none,0,0⟩ C [c0] ((List.replicate j (-1:Int)).set c0 0) [] [] [] SM (MS.map Prod.fst)++MS.map (nest 108 6 Mv.cs)):=
   (((hs.nil_ 190 3).nil_ 108 6).nil_ 4 1).perm (List.Perm.append_right _ (List.perm_append_comm (l₁:=[_,_,_]) (l₂:=[_,_,_,_])))
  have hq0:QOk [c0] j:=⟨by simp,fun c hc=>by rw [Ye] at hc; omega⟩
  have hnq0:NumQ ((List.replicate j (-1:Int)).set c0 0) [c0] j:=by
   refine ⟨by rw [Yyh,Yg],fun c hc=>?_⟩
   by_cases e:c=c0
   ·
    subst e
    rw [Yq (by rw [Yg]; exact hc),if_pos (by simp),idxF,if_pos rfl]; rfl
   ·
    rw [Yy (fun h=>e h.symm),if_neg (by simpa using e),List.getElem?_replicate,if_pos hc]
  generalize j=cnt at *
  refine ⟨fun q x h' μ=>∃ (i:Nat) (ofn omv oli:Sl) (Q:List Nat) (NUM:List Int) (fin:List Bool) (mv:List Mv) (li:List To),x=(i:Int)/\μ=cnt - i/\i<=Q.length /\
   St h h' (mnA h99.size h38.size h25.size h18.size h7.size h.size h71.size m sf sm sl sc q ofn omv oli C Q NUM fin mv li SM (MS.map Prod.fst)++MS.map (nest 108 6 Mv.cs))/\QOk Q cnt/\NumQ NUM Q cnt/\mv.length<=i*400/\li.length<=i*400/\fin.length=i/\minF m=minN m C (202 - i) i Q fin mv li,
   ⟨_,0,_,_,_,_,_,_,_,_,rfl,rfl,by omega,hs,hq0,hnq0,by decide,by decide,rfl,hmin⟩,?_⟩
  clear hs hq0 hnq0 hmin
  rintro - q _ h108 μ ⟨i,ofn,omv,oli,Q,NUM,fin,mv,li,rfl,rfl,hi,hs,hQ,hNQ,hmvl,hlil,hfinl,hmin⟩
  have hQl:=hQ.le
  have hqn:=(hs.rows 1 (s:=q) (cs:=inC) rfl (by omega)).ln
  rw [show (natI Q).length=Q.length from Yc _] at hqn
  refine sBi (fun c4=>?_) (fun c4=>?_)
  ·
   have hiQ:i<Q.length:=by omega
   obtain ⟨c,hc⟩:=get_some (l:=Q) (i:=i) hiQ
   have hcb:=hQ.lt c (Yb hc)
   have hcm:=hCsu c hcb
   have hsl:idxF C c<m.n.toNat:=by have:=idxF_lt hcm; omega
   generalize hsr:idxF C c=s at *
   obtain ⟨bf,hbf⟩:=get_some (l:=m.fin) (i:=s) (by omega)
   obtain ⟨ms,hms2⟩:=hMSg s hsl
   rw [show 202 - i=(202 - (i+1))+1 by omega,minN,hc] at hmin
   replace hmin:minF m=minN m C (202 - (i+1)) (i+1) ((outM m (idxF C c)).foldl (minX m C i (mget (limM m.li) (idxF C c:Nat))) (Q,mv,li)).1 (fin++[m.fin.getD (idxF C c) false])
    ((outM m (idxF C c)).foldl (minX m C i (mget (limM m.li) (idxF C c:Nat))) (Q,mv,li)).2.1 ((outM m (idxF C c)).foldl (minX m C i (mget (limM m.li) (idxF C c:Nat))) (Q,mv,li)).2.2:=hmin
   rw [hsr,getD_some hbf] at hmin
   have hout:(outM m s).length<=400:=Yys (List.length_filter_le _ _) hml
   have houts:(outM m s).Pairwise mvLt:=hS.filter _
   have houtm:∀ x ∈ outM m s,x ∈ m.mv:=fun x hx=>(List.mem_filter.1 hx).1
   generalize outM m s=OM at *
   refine (hs.rows 1 (s:=q) (cs:=inC) rfl (by omega)).nbI (by omega) (by omega) fun b109 o110 d109 g109 t109=>?_
   rw [Ys] at g109
   obtain ⟨c',gc',rfl⟩:=natI_get g109
   rw [hc] at gc'; cases gc'
   refine ⟨_,t109.hd,⟨by omega,by omega⟩,?_⟩
   rw [show 0+Int.toNat (c:Int)*1=c by omega]
   refine ⟨_,hs.rd 8 rfl (by rw [Yd,hSM' c hcb,hsr]; rfl),ofn,hs.rd 0 rfl rfl,sf,hs.rd 11 rfl rfl,?_⟩
   have hofn:=(hs.rows 4 (s:=ofn) (cs:=bC) rfl (by omega)).ln
   refine (hM.pf.ext hs.ext).rw.nbI (by omega) (by omega) fun b115 o116 bf' g115 t115=>?_
   rw [Ys,hbf] at g115
   cases g115
   refine ⟨_,t115.hd,?_⟩
   refine hs.newbE fun h118 E118 hs=>⟨E118.sm,?_⟩
   refine hs.appended 5 (rows:=fin.map bC) rfl app30 (m:=1) (news:=[bC bf]) (hs.at 0 rfl (n:=1) rfl) rfl (fun r hr=>by rw [Ye] at hr; rw [hr]; rfl) rfl (by omega) (by simp only [maxLen]; omega) fun s119 h120 n119 hs=>?_
   refine hs.put 1 rfl (o:=3) (vs:=[.slice s119.a s119.n s119.c]) rfl (show 4<=6 by decide) fun h121 hs=>?_
   have hs:St h h121 (mnA h99.size h38.size h25.size h18.size h7.size h.size h71.size m sf sm sl sc q s119 omv oli C Q NUM (fin++[bf]) mv li SM (MS.map Prod.fst)++MS.map (nest 108 6 Mv.cs)):=by
    unfold mnA
    rw [Ym (l₁:=fin)]
    exact hs.drop 1
   refine ⟨⟨by omega,by omega⟩,?_⟩
   rw [show 0+Int.toNat (s:Int)*1=s by omega]
   refine ⟨ms,hs.rd 7 rfl (by rw [Yd,Yd,hms2]; rfl),?_⟩
   have hk72:(mnA h99.size h38.size h25.size h18.size h7.size h.size h71.size m sf sm sl sc q s119 omv oli C Q NUM (fin++[bf]) mv li SM (MS.map Prod.fst)++MS.map (nest 108 6 Mv.cs))[12+s]?=some (.sl ms 108 6 (OM.map Mv.cs)):=by
    rw [Yyc (by show 12<=12+s; omega)]
    show (MS.map (nest 108 6 Mv.cs))[12+s - 12]?=_
    rw [show 12+s - 12=s by omega,Yd,hms2]; rfl
   refine (sort72 hs (12+s) hk72 (by omega)).mono ?_
   rintro _ h124 ⟨rfl,l',hp,hso,hs⟩
   have hle:=(mvSorted_same hp houts hso).symm
   subst hle
   rw [list_set_self hk72] at hs
   refine ⟨rfl,?_⟩
   have hlr:∀ q ∈ limM m.li,inR q.1:=fun q hq=>by
    obtain ⟨h1,h2⟩:=limM_mem hq
    have:=hO.li _ h1
    rw [<- h2]; exact inRn (by omega) (by omega)
   refine hs.mlookOk (ck:=iv) (cv:=toV) M140 3 rfl hlr (limM_nd _) (a:=(s:Int)) (inRn (by omega) (by omega)) ?_
   generalize htl:mget (limM m.li) (s:Int)=tl at *
   have htlm:∀ t,tl=some t->t ∈ m.li:=fun t ht=>by subst ht; exact (limM_mem (mget_mem htl)).1
   have htup:tl.elim (.agg ⟨[.int .i64 0,.int .i64 0,.int .i64 0]⟩) toV=.agg ⟨(tl.getD ⟨0,0,0⟩).cs⟩:=by cases tl <;> rfl
   rw [htup]
   refine ⟨_,_,_,_,rfl,?_⟩
   generalize htt:tl.getD ⟨0,0,0⟩=tt at *
   refine hs.newput (vs:=tt.cs) rfl rfl fun h132 hs=>?_
   refine ⟨⟨by omega,by omega⟩,?_⟩
   refine ⟨ms,hs.rd 8 rfl (by rw [Yd,Yd,hms2]; rfl),?_⟩
   refine ⟨fun q x h' μ=>∃ (j:Nat) (omv oli:Sl) (Q2:List Nat) (NUM2:List Int) (mv2:List Mv) (li2:List To),x=(j:Int)/\μ=OM.length - j/\j<=OM.length /\
    St h h' (.blk h124.size tt.cs 190::(mnA h99.size h38.size h25.size h18.size h7.size h.size h71.size m sf sm sl sc q s119 omv oli C Q2 NUM2 (fin++[bf]) mv2 li2 SM (MS.map Prod.fst)++MS.map (nest 108 6 Mv.cs)))/\QOk Q2 cnt/\NumQ NUM2 Q2 cnt/\mv2.length<=mv.length+j/\li2.length<=li.length+j/\Q.length<=Q2.length/\(OM.take j).foldl (minX m C i tl) (Q,mv,li)=(Q2,mv2,li2),
    ⟨_,0,omv,oli,Q,NUM,mv,li,rfl,rfl,by omega,hs,hQ,hNQ,by omega,by omega,by omega,rfl⟩,?_⟩
   clear hs hQ hNQ hqn hofn hQl c4
   rintro - q2 _ h139 μ ⟨j,omv2,oli2,Q2,NUM2,mv2,li2,rfl,rfl,hj,hs,hQ,hNQ,hmv2,hli2,hQ2,hfold⟩
   have hs':St h h139 ((.blk h124.size tt.cs 190::mnA h99.size h38.size h25.size h18.size h7.size h.size h71.size m sf sm sl sc q2 s119 omv2 oli2 C Q2 NUM2 (fin++[bf]) mv2 li2 SM (MS.map Prod.fst))++MS.map (nest 108 6 Mv.cs)++[]):=by rw [Yw]; exact hs
   have hnl:Rw h139 6 ms (OM.map Mv.cs):=hs'.nestLn hms2 (by omega)
   clear hs'
   have hmsn:=hnl.ln
   have hqn2:=(hs.rows 2 (s:=q2) (cs:=inC) rfl (by omega)).ln
   rw [show (natI Q2).length=Q2.length from Yc _] at hqn2
   have hQ2l:=hQ.le
   refine sBi (fun c5=>?_) (fun c5=>?_)
   ·
    refine hnl.nbI (by omega) (by omega) fun b140 o141 x g140 t140=>?_
    replace g140:OM[j]?=some x:=g140
    have hxm:=houtm x (Yb g140)
    obtain ⟨hx1,hx2,hx3,hx4,_,_⟩:=hO.mv x hxm
    have hmpos:0<m.mv.length:=List.length_pos_of_mem hxm
    refine ⟨_,_,_,_,_,_,t140,?_⟩
    refine hs.newput (vs:=x.cs) rfl rfl fun h149 hs=>?_
    refine ⟨_,hs.rd 0 rfl rfl,?_⟩
    refine (hs.rows 11 (s:=sc) (cs:=inC) rfl (by omega)).nbI (by omega) (by omega) fun b151 o152 d151 g151 t151=>?_
    obtain ⟨cx,gcx,rfl⟩:=natI_get g151
    have hcxb:=hCb cx (Yb gcx)
    have hcxg:C.getD x.t.toNat 0=cx:=getD_some gcx
    refine ⟨_,t151.hd,?_⟩
    refine ⟨fun q' h'=>∃ NUM3,St h h' (.blk h139.size x.cs 108 :: .blk h124.size tt.cs 190::(mnA h99.size h38.size h25.size h18.size h7.size h.size h71.size m sf sm sl sc q' s119 omv2 oli2 C (addQ Q2 cx) NUM3 (fin++[bf]) mv2 li2 SM (MS.map Prod.fst)++MS.map (nest 108 6 Mv.cs)))/\NumQ NUM3 (addQ Q2 cx) cnt,?_,?_⟩
    ·
     have hnc:=hNQ.2 cx hcxb
     refine ⟨⟨by omega,by omega⟩,?_⟩
     rw [show 0+Int.toNat (cx:Int)*1=cx by omega]
     refine ⟨_,hs.rd 4 rfl (by rw [Yd,hnc]; rfl),?_⟩
     by_cases hm:cx ∈ Q2
     ·
      rw [if_pos hm]
      refine sB_f (decide_eq_false (by omega)) ?_
      have ea:addQ Q2 cx=Q2:=by unfold addQ; rw [if_pos hm]
      rw [ea]
      exact ⟨NUM2,hs,hNQ⟩
     ·
      rw [if_neg hm]
      refine sB_t (decide_eq_true (by decide)) ?_
      have ea:addQ Q2 cx=Q2++[cx]:=by unfold addQ; rw [if_neg hm]
      refine ⟨⟨by omega,by omega⟩,?_⟩
      refine hs.put 4 rfl (o:=cx) (vs:=[iv (q2.n:Nat)]) rfl (by rw [Yc,Yv,hNQ.1]; omega) fun h156 hs=>?_
      rw [map_splice iv (by rw [hNQ.1]; omega),hqn2] at hs
      refine hs.app 3 rfl app42 (m:=1) [[.int .i64 cx]] rfl rfl (by simp) rfl (by omega) (by simp only [maxLen]; omega) fun s158 h159 n158 hs=>?_
      rw [ea]
      refine ⟨_,?_,hNQ.add hcxb hm⟩
      unfold mnA
      rw [natI_snoc,Ym (l₁:=natI Q2)]
      exact hs
    ·
     rintro - q3 h161 ⟨NUM3,hs,hNQ3⟩
     refine ⟨sm,hs.rd 13 rfl rfl,_,hs.rd 1 rfl rfl,?_⟩
     have hye:0<=imax tt.e 0/\imax tt.e 0<m.mv.length/\∀ t,tl=some t->imax tt.e 0=t.e:=by
      rw [imax_max]
      cases tl with
      | none=>subst htt; exact ⟨by show (0:Int)<=max 0 0; omega,by show max (0:Int) 0<_; omega,fun t ht=>by cases ht⟩
      | some t=>
       subst htt
       obtain ⟨_,_,h3,h4,_⟩:=hO.li t (htlm t rfl)
       exact ⟨by show (0:Int)<=max t.e 0; omega,by show max t.e 0<_; omega,fun t' ht=>by cases ht; show max t.e 0=t.e; omega⟩
     refine (hM.pm.ext hs.ext).rw.nbI hye.1 (by omega) fun b164 o165 y g164 t164=>?_
     have hyt:∀ t,tl=some t->m.mv[t.e.toNat]?=some y:=fun t ht=>by rw [<- hye.2.2 t ht]; exact g164
     refine ⟨_,_,_,_,_,_,t164,?_⟩
     refine hs.newput (vs:=y.cs) rfl rfl fun h173 hs=>?_
     have homv:=(hs.rows 8 (s:=omv2) (cs:=Mv.cs) rfl (by omega)).ln
     have holi:=(hs.rows 9 (s:=oli2) (cs:=To.cs) rfl (by omega)).ln
     have hno:(tl=none\/x.ev ≠ y.ev)->(minX m C i tl (Q2,mv2,li2) x).2.2=li2:=by
      intro h
      unfold minX
      cases tl with
      | none=>exact Yw _
      | some t=>
       show li2++(match m.mv[t.e.toNat]? with | some y=>if x.ev=y.ev then [⟨(i:Nat),t.k,(mv2.length:Nat)⟩] else [] | none=>[])=li2
       rw [hyt t rfl]
       rcases h with h | h
       ·
        cases h
       ·
        show li2++(if x.ev=y.ev then _ else _)=li2
        rw [if_neg h,Yw]
     have hyes:∀ t,tl=some t->x.ev=y.ev->(minX m C i tl (Q2,mv2,li2) x).2.2=li2++[⟨(i:Nat),t.k,(mv2.length:Nat)⟩]:=by
      intro t ht h
      unfold minX
      subst ht
      show li2++(match m.mv[t.e.toNat]? with | some y=>if x.ev=y.ev then [⟨(i:Nat),t.k,(mv2.length:Nat)⟩] else [] | none=>[])=_
      rw [hyt t rfl]
      show li2++(if x.ev=y.ev then _ else _)=_
      rw [if_pos h]
     have hminl:=minX_len m C i tl (Q2,mv2,li2) x
     have hminq:(minX m C i tl (Q2,mv2,li2) x).1=addQ Q2 cx:=by unfold minX; rw [hcxg]
     have hminm:(minX m C i tl (Q2,mv2,li2) x).2.1=mv2++[⟨(i:Nat),x.send,x.peer,x.label,(idxF (addQ Q2 cx) cx:Nat),x.ag⟩]:=by unfold minX; rw [hcxg]
     generalize hLI:(minX m C i tl (Q2,mv2,li2) x).2.2=LI at *
     refine ⟨fun h'=>∃ oli',St h h' (.blk h161.size y.cs 108 :: .blk h139.size x.cs 108 :: .blk h124.size tt.cs 190::(mnA h99.size h38.size h25.size h18.size h7.size h.size h71.size m sf sm sl sc q3 s119 omv2 oli' C (addQ Q2 cx) NUM3 (fin++[bf]) mv2 LI SM (MS.map Prod.fst)++MS.map (nest 108 6 Mv.cs))),?_,?_⟩
     ·
      have hJ:LI=li2->∃ oli',St h h173 (.blk h161.size y.cs 108 :: .blk h139.size x.cs 108 :: .blk h124.size tt.cs 190::(mnA h99.size h38.size h25.size h18.size h7.size h.size h71.size m sf sm sl sc q3 s119 omv2 oli' C (addQ Q2 cx) NUM3 (fin++[bf]) mv2 LI SM (MS.map Prod.fst)++MS.map (nest 108 6 Mv.cs))):=fun e=>by rw [e]; exact ⟨oli2,hs⟩
      refine sB_intro (fun c6=>?_) (fun c6=>?_)
      ·
       obtain ⟨t,ht⟩:=Option.isSome_iff_exists.1 c6
       have hte:tt=t:=by rw [<- htt,ht]; rfl
       refine ⟨_,hs.rd 1 rfl rfl,_,hs.rd 0 rfl rfl,?_⟩
       refine sB_intro (fun c7=>?_) (fun c7=>hJ (hno (.inr fun e=>by have e1:=congrArg Ev.send e; have e1:x.send=y.send:=e1; rw [e1] at c7; simp at c7)))
       refine ⟨_,hs.rd 1 rfl rfl,_,hs.rd 0 rfl rfl,?_⟩
       refine sBe (fun c8=>?_) (fun c8=>hJ (hno (.inr fun e=>c8 (congrArg Ev.peer e))))
       refine ⟨_,hs.rd 1 rfl rfl,_,hs.rd 0 rfl rfl,?_⟩
       refine sBe (fun c9=>?_) (fun c9=>hJ (hno (.inr fun e=>c9 (congrArg Ev.label e))))
       have hev:x.ev=y.ev:=ev_ext (show x.send=y.send by simpa using c7) c8 c9
       refine ⟨oli2,hs.rd 3 rfl rfl,_,hs.rd 2 rfl rfl,omv2,hs.rd 3 rfl rfl,?_⟩
       refine hs.app 9 rfl app25 (m:=1) [To.cs ⟨(i:Nat),tt.k,(omv2.n:Nat)⟩] rfl rfl (fun r hr=>by rw [Ye] at hr; rw [hr]; rfl) rfl (by omega) (by simp only [maxLen]; omega) fun s185 h186 n185 hs=>?_
       refine hs.put 3 rfl (o:=5) (vs:=[.slice s185.a s185.n s185.c]) rfl (show 6<=6 by decide) fun h187 hs=>?_
       refine ⟨s185,?_⟩
       rw [hyes t ht hev]
       unfold mnA
       rw [Ym (l₁:=li2),<- hte,<- homv]
       exact hs
      ·
       have:tl=none:=by cases tl with
        | none=>rfl
        | some t=>cases c6
       exact hJ (hno (.inl this))
     ·
      rintro - h188 ⟨oli',hs⟩
      have hnc:=hNQ3.2 cx hcxb
      rw [if_pos addQ_mem] at hnc
      refine ⟨⟨by omega,by omega⟩,?_⟩
      rw [show 0+Int.toNat (cx:Int)*1=cx by omega]
      refine ⟨_,hs.rd 5 rfl (by rw [Yd,hnc]; rfl),?_⟩
      refine hs.put 1 rfl (o:=0) (vs:=[.int .i64 (i:Nat)]) rfl (show 1<=6 by decide) fun h190 hs2=>?_
      refine ⟨sm_cons (hs.same hs2 5 5 rfl rfl) sm_nil,?_⟩
      refine hs2.put 1 rfl (o:=4) (vs:=[.int .i64 (idxF (addQ Q2 cx) cx:Nat)]) rfl (show 5<=6 by decide) fun h191 hs=>?_
      refine ⟨omv2,hs.rd 3 rfl rfl,_,_,_,_,_,_,hs.at 1 rfl (n:=6) rfl,?_⟩
      refine hs.app 8 rfl app31 (m:=1) [Mv.cs ⟨(i:Nat),x.send,x.peer,x.label,(idxF (addQ Q2 cx) cx:Nat),x.ag⟩] rfl rfl (fun r hr=>by rw [Ye] at hr; rw [hr]; rfl) rfl (by omega) (by simp only [maxLen]; omega) fun s200 h201 n200 hs=>?_
      refine hs.put 3 rfl (o:=4) (vs:=[.slice s200.a s200.n s200.c]) rfl (show 5<=6 by decide) fun h202 hs=>?_
      have hlm:(mv2++[(⟨(i:Nat),x.send,x.peer,x.label,(idxF (addQ Q2 cx) cx:Nat),x.ag⟩:Mv)]).length=mv2.length+1:=by simp
      refine ⟨_,by omega,j+1,s200,oli',addQ Q2 cx,NUM3,mv2++[⟨(i:Nat),x.send,x.peer,x.label,(idxF (addQ Q2 cx) cx:Nat),x.ag⟩],LI,by rw [w64 (by omega) (by omega)]; omega,rfl,by omega,?_,hQ.add hcxb,hNQ3,by omega,by have:=hminl.2; simp only at this; omega,Yys hQ2 addQ_len,?_⟩
      ·
       unfold mnA
       rw [Ym (l₁:=mv2)]
       exact hs.drop 2
      ·
       rw [foldl_snoc g140,hfold]
       exact Prod.ext hminq (Prod.ext hminm hLI)
   ·
    have hjn:j=OM.length:=by omega
    subst hjn
    rw [Yye] at hfold
    rw [hfold] at hmin
    exact ⟨_,by omega,i+1,s119,omv2,oli2,Q2,NUM2,fin++[bf],mv2,li2,by rw [w64 (by omega) (by omega)]; omega,rfl,by omega,hs.drop 1,hQ,hNQ,by omega,by omega,by rw [Yh,hfinl]; rfl,hmin⟩
  ·
   have hiQ:i=Q.length:=by omega
   rw [show 202 - i=(202 - (i+1))+1 by omega,minN,Yl (by omega)] at hmin
   replace hmin:minF m=⟨m.role,(Q.length:Nat),0,fin,mv,li⟩:=hmin
   refine hs.put 0 rfl (o:=1) (vs:=[.int .i64 (q.n:Nat)]) rfl (show 2<=6 by decide) fun h205 hs=>?_
   refine ⟨_,_,_,ofn,omv,oli,hs.at 0 rfl (n:=6) rfl,?_⟩
   refine hs.put 10 rfl (o:=0) (vs:=[.int .i64 m.role,.int .i64 (q.n:Nat),.int .i64 0,.slice ofn.a ofn.n ofn.c,.slice omv.a omv.n omv.c,.slice oli.a oli.n oli.c]) rfl (show 6<=6 by decide) fun h212 hs=>?_
   refine ⟨_,_,_,ofn,omv,oli,hs.at 10 rfl (n:=6) rfl,?_⟩
   refine ⟨ofn,omv,oli,?_,?_⟩
   ·
    rw [hmin,hqn]; rfl
   ·
    rw [hmin]
    exact (hs.drop 4).sub (List.sublist_append_left [_,_,_] _)
 ·
  rw [List.map_replicate]
  apply Yyr
  intro s
  rw [Yd,List.getElem?_replicate]
  by_cases hsn:s<m.n.toNat
  ·
   rw [if_pos hsn,Yyb hsn]; rfl
  ·
   rw [if_neg hsn,Yl (by rw [Yyd]; omega)]; rfl
 ·
  rw [List.map_replicate (f:=Prod.fst)]
  exact hs
end Go.VC
end

section
/- Raw machines are al they should be. No program here. -/
namespace Go.VC
open Go.LexS

def evOk (g:Gl) (x:Ev):Prop:=0<=x.peer/\x.peer<g.rs.length/\0<=x.label/\x.label<g.ds.length
theorem vis_ok {g:Gl} {role:Int} (hV:ValidS g) {e:Ed} (he:e ∈ g.es) {x:Ev} (hx:vis1 role e=some x):evOk g x:=by
 have:=hV.num.e e he
 unfold EdS at this
 unfold vis1 at hx
 unfold evOk
 split at hx
 ·
  cases hx; simp only; omega
 ·
  split at hx
  ·
   cases hx; simp only; omega
  ·
   cases hx
theorem evs_mem_ok {g:Gl} {role:Int} {p:PSet} (hV:ValidS g) {x:Ev} (hx:x ∈ evs g.es role p):evOk g x:=by
 unfold evs at hx
 rw [sortE_mem] at hx
 unfold evL at hx
 obtain ⟨n,_,h1⟩:=List.mem_flatMap.1 hx
 obtain ⟨a,ha,rfl⟩:=Yp.1 h1
 unfold visL at ha
 obtain ⟨e,he,h2⟩:=Yym.1 ha
 split at h2
 ·
  rw [Yya] at h2
  obtain ⟨y,hy,rfl⟩:=h2
  exact vis_ok hV he hy
 ·
  cases h2
structure VI (g:Gl) (S:List PSet) (M:List Mv) (i:Nat):Prop where
 so:M.Pairwise mvLt
 mv:∀ x ∈ M,0<=x.f/\x.f<i/\0<=x.t/\x.t<S.length/\evOk g x.ev
theorem rowI_le (S:List PSet) (p:PSet):rowI S p<(rowS S p).length:=by
 unfold rowS
 split
 ·
  rename_i h; exact rowI_lt.2 h
 ·
  rename_i h; rw [rowI_of_not h,Yh]; simp
theorem arcsF_vi {g:Gl} {role:Int} {i:Nat} {p:PSet}:∀ (l:List Ev) (S:List PSet) (M:List Mv),l.Pairwise evLt->(∀ x ∈ l,evOk g x)->M.Pairwise mvLt->(∀ x ∈ M,0<=x.f/\(x.f<i\/(x.f=i/\∀ y ∈ l,evLt x.ev y))/\0<=x.t/\x.t<S.length/\evOk g x.ev) ->
  VI g (arcsF g.es role i p l S M).1 (arcsF g.es role i p l S M).2 (i+1)/\S.length<=(arcsF g.es role i p l S M).1.length
 | [],S,M,_,_,hM,hm=>⟨⟨hM,fun x hx=>by obtain ⟨h1,h2,h3,h4,h5⟩:=hm x hx; exact ⟨h1,by rcases h2 with h2 | h2; omega; (have:=h2.1; omega),h3,h4,h5⟩⟩,Yyt _⟩
 | x::r,S,M,hl,hok,hM,hm=>by
  rw [arcsF]
  rw [List.pairwise_cons] at hl
  have hlen:=rowS_len (S:=S) (p:=clo g.es role (toL g.es role p x))
  have hri:=rowI_le S (clo g.es role (toL g.es role p x))
  have ih:=arcsF_vi (g:=g) (role:=role) (i:=i) (p:=p) r (rowS S (clo g.es role (toL g.es role p x))) (M++[⟨i,x.send,x.peer,x.label,rowI S (clo g.es role (toL g.es role p x)),false⟩]) hl.2 (fun y hy=>hok y (Yn _ hy)) ?_ ?_
  ·
   exact ⟨ih.1,Yys hlen.2 ih.2⟩
  ·
   rw [List.pairwise_append]
   refine ⟨hM,List.pairwise_singleton _ _,fun a ha b hb=>?_⟩
   rw [Ye] at hb
   subst hb
   obtain ⟨_,h2,_⟩:=hm a ha
   rcases h2 with h2 | ⟨h2,h3⟩
   ·
    exact .inl h2
   ·
    exact .inr ⟨h2,h3 x (Yx ..)⟩
  ·
   intro y hy
   rcases Yk.1 hy with hy | hy
   ·
    obtain ⟨h1,h2,h3,h4,h5⟩:=hm y hy
    refine ⟨h1,?_,h3,by omega,h5⟩
    rcases h2 with h2 | ⟨h2,h6⟩
    ·
     exact .inl h2
    ·
     exact .inr ⟨h2,fun z hz=>h6 z (Yn _ hz)⟩
   ·
    rw [Ye] at hy
    subst hy
    exact ⟨by simp only; omega,.inr ⟨rfl,fun z hz=>hl.1 z hz⟩,by simp only; omega,by simp only; omega,hok x (Yx ..)⟩
theorem viewsF_vi {g:Gl} {role:Int} (hV:ValidS g):∀ (f i:Nat) (S:List PSet) (M:List Mv) {S':List PSet} {M':List Mv},VI g S M i->i<=S.length->S.length<=200->viewsF g.es role f i S M=some (S',M')->VI g S' M' S'.length/\S'.length<=200/\S.length<=S'.length
 | 0,_,_,_,_,_,_,_,_,h=>by cases h
 | f+1,i,S,M,S',M',hv,hi,hS,h=>by
  rw [viewsF] at h
  cases hg:S[i]? with
  | none=>
   rw [hg] at h
   cases h
   have:i=S.length:=by have:=List.getElem?_eq_none_iff.1 hg; omega
   subst this
   exact ⟨hv,hS,Yyt _⟩
  | some p=>
   rw [hg] at h
   replace h:(if (arcsF g.es role i p (evs g.es role p) S M).1.length > 200 then none else viewsF g.es role f (i+1) (arcsF g.es role i p (evs g.es role p) S M).1 (arcsF g.es role i p (evs g.es role p) S M).2)=some (S',M'):=h
   have hil:=(Ya.1 hg).1
   obtain ⟨h1,h2⟩:=arcsF_vi (g:=g) (role:=role) (i:=i) (p:=p) (evs g.es role p) S M (sortE_sorted _) (fun x hx=>evs_mem_ok hV hx) hv.so (fun x hx=>by obtain ⟨a,b,c,d,e⟩:=hv.mv x hx; exact ⟨a,.inl b,c,d,e⟩)
   split at h
   ·
    cases h
   ·
    rename_i h3
    have:=viewsF_vi hV f (i+1) _ _ h1 (by omega) (by omega) h
    exact ⟨this.1,this.2.1,Yys h2 this.2.2⟩
theorem views_vi {g:Gl} {role:Int} (hV:ValidS g) {S:List PSet} {M:List Mv} (h:views g role=some (S,M)):VI g S M S.length/\S.length<=200/\1<=S.length:=by
 unfold views at h
 exact viewsF_vi hV 202 0 _ [] ⟨List.Pairwise.nil,fun x hx=>by cases hx⟩ (by simp) (by simp) h
theorem own_k {g:Gl} (hT:TimS g) (role:Int):∀ t ∈ ownT g.es g.ts role g.n.toNat,0<=t.k/\t.k<=1000:=by
 have upd:∀ (T:List Ti) (n:Nat) (f:Ti->Ti),(∀ t ∈ T,0<=t.k/\t.k<=1000)->(∀ t ∈ T,0<=(f t).k/\(f t).k<=1000)->∀ t ∈ updT T n f,0<=t.k/\t.k<=1000:=by
  intro T n f h1 h2 t ht
  unfold updT at ht
  split at ht
  ·
   rename_i t0 h0
   rcases List.mem_or_eq_of_mem_set ht with h | rfl
   ·
    exact h1 t h
   ·
    exact h2 t0 (Yb h0)
  ·
   exact h1 t ht
 have h0:∀ t ∈ (ownE g.es role g.n.toNat).2,0<=t.k/\t.k<=1000:=by
  unfold ownE
  suffices h:∀ (l:List Ed) (s:List Bool × List Ti),(∀ t ∈ s.2,0<=t.k/\t.k<=1000)->∀ t ∈ (l.foldl (own1 role) s).2,0<=t.k/\t.k<=1000 from h _ _ fun t ht=>by rw [List.mem_replicate] at ht; rw [ht.2]; exact ⟨by decide,by decide⟩
  intro l
  induction l with
  | nil=>intro s h; exact h
  | cons a l ih=>
   intro s h
   rw [List.foldl_cons]
   refine ih _ ?_
   unfold own1
   split
   ·
    exact upd _ _ _ h fun t ht=>h t ht
   ·
    exact h
 unfold ownT
 suffices h:∀ (l:List To) (T:List Ti),(∀ x ∈ l,x ∈ g.ts)->(∀ t ∈ T,0<=t.k/\t.k<=1000)->∀ t ∈ l.foldl (own2 g.es (ownE g.es role g.n.toNat).1) T,0<=t.k/\t.k<=1000 from h _ _ (fun x hx=>hx) h0
 intro l
 induction l with
 | nil=>intro T _ h; exact h
 | cons a l ih=>
  intro T hsub h
  rw [List.foldl_cons]
  refine ih _ (fun x hx=>hsub x (Yn _ hx)) ?_
  unfold own2
  split
  ·
   refine upd _ _ _ h fun t ht=>?_
   obtain ⟨i,hi⟩:=Yf.1 (hsub a (Yx ..))
   have:=(hT i a hi).k
   exact ⟨by show 0<=a.k; omega,this.2⟩
  ·
   exact h
theorem viewV_k {F:Nat->List Ev} {en:Nat->Bool} {O:List Bool} {T:List Ti} {l:List Nat} {o:Ti} (hT:∀ t ∈ T,0<=t.k/\t.k<=1000) (h:viewV F en O T l=some o):0<=o.k/\o.k<=1000:=by
 unfold viewV at h
 rw [Yya] at h
 obtain ⟨q,hq,rfl⟩:=h
 suffices hh:∀ (m:List Nat) (st:Option (Bool × Ti)),(∀ q,st=some q->0<=q.2.k/\q.2.k<=1000)->∀ q,m.foldl (stepV F en O T l) st=some q->0<=q.2.k/\q.2.k<=1000 from hh l _ (fun q hq=>by cases hq; exact ⟨by decide,by decide⟩) q hq
 intro m
 induction m with
 | nil=>intro st h q hq; exact h q hq
 | cons a m ih=>
  intro st h q hq
  rw [List.foldl_cons] at hq
  refine ih _ ?_ q hq
  intro q' hq'
  unfold stepV at hq'
  split at hq'
  ·
   cases hq'
  ·
   split at hq'
   ·
    cases hq'
   ·
    split at hq'
    ·
     rename_i t ht
     split at hq'
     ·
      cases hq'
     ·
      cases hq'; exact hT _ (Yb (by assumption))
    ·
     cases hq'; exact h _ rfl
theorem rawL_ok {g:Gl} {vw:List Nat->Option Ti} (hk:∀ l o,vw l=some o->0<=o.k/\o.k<=1000):∀ (n:Nat) (S:List PSet) (M:List Mv) (L:List To) {M':List Mv} {L':List To} {tot:Nat},n+S.length=tot->M.Pairwise mvLt->(∀ x ∈ M,0<=x.f/\x.f<tot/\0<=x.t/\x.t<tot/\evOk g x.ev)->L.length<=n*M.length ->
  (∀ t ∈ L,0<=t.s/\t.s<tot/\0<=t.e/\t.e<M.length/\0<=t.k/\t.k<=1000)->rawL vw n S M L=some (M',L') ->
  M'.Pairwise mvLt/\(∀ x ∈ M',0<=x.f/\x.f<tot/\0<=x.t/\x.t<tot/\evOk g x.ev)/\M'.length=M.length/\L'.length<=tot*M.length/\∀ t ∈ L',0<=t.s/\t.s<tot/\0<=t.e/\t.e<M.length/\0<=t.k/\t.k<=1000
 | n,[],M,L,M',L',tot,ht,hM,hm,hL,hl,h=>by
  cases h
  have:n=tot:=by simpa using ht
  subst this
  exact ⟨hM,hm,rfl,hL,hl⟩
 | n,p::S,M,L,M',L',tot,ht,hM,hm,hL,hl,h=>by
  rw [rawL] at h
  cases hv:vw (elems p) with
  | none=>rw [hv] at h; cases h
  | some o=>
   rw [hv] at h
   replace h:rawL vw (n+1) S (M.map (updR n o)) (L++limR n o M)=some (M',L'):=h
   rw [Yyj] at ht
   have hko:=hk _ _ hv
   have hup:∀ x,(updR n o x).f=x.f/\(updR n o x).ev=x.ev/\(updR n o x).t=x.t:=fun x=>by
    obtain ⟨h1,h2,h3,h4,h5⟩:=updR_same n o x
    exact ⟨h1,by unfold Mv.ev; rw [h2,h3,h4],h5⟩
   have hlen:(M.map (updR n o)).length=M.length:=Yc _
   have:=rawL_ok (g:=g) hk (n+1) S (M.map (updR n o)) (L++limR n o M) (tot:=tot) (by omega) ?_ ?_ ?_ ?_ h
   ·
    rw [hlen] at this; exact this
   ·
    rw [List.pairwise_map]
    refine hM.imp fun {a b} hab=>?_
    unfold mvLt at hab ⊢
    rw [(hup a).1,(hup b).1,(hup a).2.1,(hup b).2.1]; exact hab
   ·
    intro x hx
    obtain ⟨y,hy,rfl⟩:=Yp.1 hx
    rw [(hup y).1,(hup y).2.1,(hup y).2.2]
    exact hm y hy
   ·
    rw [hlen,Yh,Nat.succ_mul]
    have:=limR_len n o M
    omega
   ·
    rw [hlen]
    intro t htm
    rcases Yk.1 htm with htm | htm
    ·
     exact hl t htm
    ·
     unfold limR at htm
     obtain ⟨q,hq,h2⟩:=Yym.1 htm
     have hqi:=List.snd_lt_of_mem_zipIdx hq
     unfold limC at h2
     split at h2
     ·
      cases h2; simp only; omega
     ·
      cases h2
theorem raw_ok {g:Gl} {role:Int} {m:Mch} (hr:g.rs.length<=1048576) (hd:g.ds.length<=1048576) (h:raw g role=(some m,0)):MOk m/\m.mv.Pairwise mvLt:=by
 unfold raw at h
 split at h
 ·
  cases h
 ·
  rename_i hv
  obtain ⟨hV,hr0,hr1⟩:=Decidable.not_not.1 hv
  cases hw:views g role with
  | none=>rw [hw] at h; cases h
  | some q=>
   obtain ⟨S,M⟩:=q
   rw [hw] at h
   replace h:(if M.length > 400 then ((none,6):Option Mch × Int) else
    match rawL (vwG g role) 0 S M [] with
    | none=>(none,18)
    | some (M',L)=>(some ⟨role,S.length,0,S.map (fun p=>p g.e.toNat),M',L⟩,0))=(some m,0):=h
   split at h
   ·
    cases h
   ·
    rename_i hM
    cases hl:rawL (vwG g role) 0 S M [] with
    | none=>rw [hl] at h; cases h
    | some q=>
     obtain ⟨M',L⟩:=q
     rw [hl] at h
     cases h
     obtain ⟨h1,h2,h3⟩:=views_vi hV hw
     obtain ⟨h4,h5,h6,h7,h8⟩:=rawL_ok (g:=g) (fun l o ho=>viewV_k (own_k hV.tim role) ho) 0 S M [] (tot:=S.length) (by omega) h1.so h1.mv (by simp) (fun t ht=>by cases ht) hl
     refine ⟨⟨by simp only; omega,by simp only; omega,?_,by simp only; omega,?_,fun x hx=>?_,fun t ht=>?_⟩,h4⟩
     ·
      simp
     ·
      have:S.length*M.length<=200*400:=Nat.mul_le_mul h2 (by omega)
      simp only; omega
     ·
      obtain ⟨a,b,c,d,e⟩:=h5 x hx
      unfold evOk Mv.ev at e
      simp only at *
      omega
     ·
      have:=h8 t ht
      simp only at *
      omega
end Go.VC
end

section
/- Contract: Project. -/
namespace Go.VC
open Go.Proofs Go.LexS

noncomputable def proj (g:Gl) (role:Int):Option Mch × Int:=match raw g role with
 | (some m,_)=>(some (minF m),0)
 | (none,e)=>(none,e)
theorem St.mi {h0 h:Heap} {L:List It} {m:Mch} {sf sm sl:Sl} (hs:St h0 h L) (k:Nat) (h1:L[k]?=some (.sl sf 4 1 (m.fin.map bC))) (h2:L[k+1]?=some (.sl sm 108 6 (m.mv.map Mv.cs))) (h3:L[k+2]?=some (.sl sl 190 3 (m.li.map To.cs)))
  (b1:m.fin.length<=1048576) (b2:m.mv.length<=1048576) (b3:m.li.length<=1048576):MI h m sf sm sl:=by
 have l1:=hs.len k h1 (by omega)
 have l2:=hs.len (k+1) h2 (by omega)
 have l3:=hs.len (k+2) h3 (by omega)
 exact ⟨⟨hs.rows k h1 (by omega),l1.2.1,l1.2.2,b1⟩,⟨hs.rows (k+1) h2 (by omega),l2.2.1,l2.2.2,b2⟩,⟨hs.rows (k+2) h3 (by omega),l3.2.1,l3.2.2,b3⟩⟩
set_option maxHeartbeats 1000000 in
theorem project12 (g:Gl) (role:Int) (h:Heap) (hg:GI h g) (hx:Gx h) :
  Fn Pz 78 #[g.v,.int .i64 role] h fun v h'=>Ext h h'/\MaR (proj g role) h h' v:=by
 apply vc78 (bs g.nm) g.hr g.hd g.n g.s g.e g.he g.ht; unfold W78
 have hs:=St.refl h
 refine hs.newb fun h9 hs=>?_
 refine hs.newb fun h10 hs=>?_
 refine ⟨_,_,_,_,_,_,_,_,hs.at 1 rfl (n:=8) rfl,?_⟩
 refine (raw14 g role h10 (hg.ext hs.ext) (hx.ext hs.ext)).mono ?_
 rintro _ h27 ⟨E27,hr⟩
 cases hr with
 | @err e he h0=>
  replace hs:=hs.step E27
  refine ⟨0,0,0,⟨none,0,0⟩,⟨none,0,0⟩,⟨none,0,0⟩,e,rfl,?_⟩
  refine hs.newput (vs:=m0) rfl rfl fun h29 hs=>?_
  refine sBn (fun c1=>?_) (fun c1=>absurd c1 h0)
  refine hs.put 1 rfl (o:=0) (vs:=m0) rfl (by decide) fun h30 hs=>?_
  refine ⟨0,0,0,⟨none,0,0⟩,⟨none,0,0⟩,⟨none,0,0⟩,hs.at 1 rfl (n:=6) rfl,hs.ext,?_⟩
  exact .err (by unfold proj; rw [he]) h0
 | @ok m sf sm sl he hm=>
  obtain ⟨hO,hS⟩:=raw_ok hg.r.sm hg.d.r.sm he
  replace hs:=hs.join hm
  refine ⟨m.role,m.n,m.s,sf,sm,sl,0,rfl,?_⟩
  refine hs.newput (vs:=mC m sf sm sl) rfl rfl fun h29 hs=>?_
  refine sBn (fun c1=>absurd rfl c1) (fun _=>?_)
  refine ⟨_,_,_,sf,sm,sl,hs.at 0 rfl (n:=6) rfl,?_⟩
  have hfl:=hO.fl
  have hn:=hO.n
  have hml:=hO.ml
  have hll:=hO.ll
  refine (minimal36 m sf sm sl h29 (hs.mi 3 rfl rfl rfl (by omega) (by omega) (by omega)) hO hS).mono ?_
  rintro _ h50 ⟨sf',sm',sl',rfl,hs2⟩
  replace hs:=hs.join hs2
  refine ⟨_,_,_,sf',sm',sl',rfl,?_⟩
  refine hs.put 1 rfl (o:=0) (vs:=mC (minF m) sf' sm' sl') rfl (show 6<=6 by decide) fun h51 hs=>?_
  refine ⟨_,_,_,sf',sm',sl',hs.at 1 rfl (n:=6) rfl,hs.ext,?_⟩
  exact .ok (m:=minF m) (by unfold proj; rw [he]) (hs.drop 6)
end Go.VC
end

section
/- Contracts: the numbers of a machine; its table, the moves of each state sorted. (Numbers of layer 26's seat.) -/
namespace Go.VC
open Go.Proofs Go.LexS
structure NumM (m:Mch):Prop where
 r:0<=m.role/\m.role<6
 n:1<=m.n/\m.n<=200
 s:0<=m.s/\m.s<m.n
 fl:(m.fin.length:Int)=m.n
 ml:m.mv.length<=400
 mv:∀ x ∈ m.mv,0<=x.f/\x.f<m.n/\0<=x.t/\x.t<m.n/\0<=x.peer/\x.peer<6/\x.peer ≠ m.role/\0<=x.label/\x.label<40
theorem state151 (m:Mch) (sf sm sl:Sl) (p:Int) (h:Heap):Fn Pz 171 #[.agg ⟨mC m sf sm sl⟩,.int .i64 p] h (RP (0<=p/\p<m.n) h):=by
 apply vc171 m.role m.n m.s sf sm sl; unfold W171
 refine (St.refl h).newb fun h7 hs=>?_
 refine sBi (fun c=>⟨_,hs.rd 0 rfl rfl,RP.e ?_ hs.ext⟩) (fun c=>RP.f (by omega) hs.ext)
 rw [decide_eq_true_eq]; omega
theorem numbers96 (m:Mch) (sf sm sl:Sl) (h:Heap) (hM:MI h m sf sm sl):Fn Pz 122 #[.agg ⟨mC m sf sm sl⟩] h (RP (NumM m) h):=by
 apply vc122 m.role m.n m.s sf sm sl; unfold W122
 have hfn:=hM.pf.ln
 have hmn:=hM.pm.ln
 have hmm:=hM.pm.sm
 refine (St.refl h).newb fun h7 hs=>?_
 refine ⟨_,hs.rd 0 rfl rfl,sBi (fun c=>RP.f (fun hG=>by have:=hG.r; omega) hs.ext) (fun c1=>?_)⟩
 refine ⟨_,hs.rd 0 rfl rfl,sBi (fun c=>RP.f (fun hG=>by have:=hG.r; omega) hs.ext) (fun c2=>?_)⟩
 refine ⟨_,hs.rd 0 rfl rfl,sBi (fun c=>RP.f (fun hG=>by have:=hG.n; omega) hs.ext) (fun c3=>?_)⟩
 refine ⟨_,hs.rd 0 rfl rfl,sBi (fun c=>RP.f (fun hG=>by have:=hG.n; omega) hs.ext) (fun c4=>?_)⟩
 refine ⟨_,_,_,sf,sm,sl,hs.at 0 rfl (o:=0) (n:=6) rfl,_,hs.rd 0 rfl rfl,?_⟩
 refine (state151 m sf sm sl m.s h7).mono ?_
 rintro _ h21 ⟨⟨b1,rfl,hb1⟩,E⟩
 have hs:=hs.step E
 refine ⟨_,rfl,sB_intro (fun c=>RP.f (fun hG=>iff_f hb1 (bF c) hG.s) hs.ext) (fun c5=>?_)⟩
 have f5:=hb1.1 (bT c5)
 refine ⟨sf,hs.rd 0 rfl rfl,_,hs.rd 0 rfl rfl,sBn (fun c=>RP.f (fun hG=>by have:=hG.fl; omega) hs.ext) (fun c6=>?_)⟩
 refine ⟨sm,hs.rd 0 rfl rfl,sBi (fun c=>RP.f (fun hG=>by have:=hG.ml; omega) hs.ext) (fun c7=>?_)⟩
 refine ⟨sm,hs.rd 0 rfl rfl,?_⟩
 refine up_loopS (n:=sm.n) hs (fun i=>∀ (j:Nat) (x:Mv),j<i->m.mv[j]?=some x->0<=x.f/\x.f<m.n/\0<=x.t/\x.t<m.n/\0<=x.peer/\x.peer<6/\x.peer ≠ m.role/\0<=x.label/\x.label<40) (fun j x hj=>by omega) ?_
 rintro - i h30 hi ⟨hs,hq⟩
 refine sB_intro (fun c=>?_) (fun c=>RP.t ⟨by omega,by omega,f5,by omega,by omega,fun x hx=>?_⟩ hs.ext)
 ·
  replace c:=lt_t c
  refine (hM.pm.rw.ext hs.ext).nbI (by omega) (by omega) fun b o x gx t=>?_
  replace gx:m.mv[i]?=some x:=gx
  have hxm:=Yb gx
  refine ⟨_,_,_,_,_,_,t,?_⟩
  refine hs.newput (vs:=x.cs) rfl rfl fun h40 hs=>?_
  refine ⟨_,_,_,sf,sm,sl,hs.at 1 rfl (o:=0) (n:=6) rfl,_,hs.rd 0 rfl rfl,?_⟩
  refine (state151 m sf sm sl x.f h40).mono ?_
  rintro _ h50 ⟨⟨b2,rfl,hb2⟩,E⟩
  have hs:=hs.step E
  refine ⟨_,rfl,sB_intro (fun c=>RP.f (fun hG=>iff_f hb2 (bF c) (by have:=hG.mv x hxm; omega)) hs.ext) (fun d1=>?_)⟩
  refine ⟨_,_,_,sf,sm,sl,hs.at 1 rfl (o:=0) (n:=6) rfl,_,hs.rd 0 rfl rfl,?_⟩
  refine (state151 m sf sm sl x.t h50).mono ?_
  rintro _ h60 ⟨⟨b3,rfl,hb3⟩,E⟩
  have hs:=hs.step E
  refine ⟨_,rfl,sB_intro (fun c=>RP.f (fun hG=>iff_f hb3 (bF c) (by have:=hG.mv x hxm; omega)) hs.ext) (fun d2=>?_)⟩
  have g1:=hb2.1 (bT d1)
  have g2:=hb3.1 (bT d2)
  repeat' (first
    | (refine ⟨_,hs.rd 0 rfl rfl,?_⟩)
    | (refine ⟨_,hs.rd 1 rfl rfl,?_⟩)
    | (refine sBi (fun _=>?_) (fun _=>?_))
    | (refine sBe (fun _=>?_) (fun _=>?_))
    | (refine sBn (fun _=>?_) (fun _=>?_)))
  all_goals first
   | exact RP.f (fun hG=>by have:=hG.mv x hxm; omega) hs.ext
   | (refine Up.next c (by omega) ⟨hs.drop 1,fun j y hj hy=>?_⟩
      by_cases e:j=i
      ·
       subst e; rw [gx] at hy; cases hy; omega
      ·
       exact hq j y (by omega) hy)
 ·
  replace c:=lt_f c
  obtain ⟨j,hj⟩:=Yf.1 hx
  exact hq j x (by have:=(Ya.1 hj).1; omega) hj
def outP (m:Mch) (s:Int) (i:Nat):Bool:=match m.mv[i]? with | some x=>decide (x.f=s) | none=>false
def outIx (m:Mch) (s:Int):List Nat:=(List.range m.mv.length).filter (outP m s)
theorem outIx_mem {m:Mch} {s:Int} {k:Nat}:k ∈ outIx m s ↔ ∃ x,m.mv[k]?=some x/\x.f=s:=by
 unfold outIx
 rw [List.mem_filter,List.mem_range]
 constructor
 ·
  rintro ⟨h1,h2⟩
  unfold outP at h2
  rw [Yi h1] at h2
  exact ⟨_,Yi h1,Yyn h2⟩
 ·
  rintro ⟨x,hx,hf⟩
  refine ⟨(Ya.1 hx).1,?_⟩
  unfold outP
  rw [hx]; exact decide_eq_true hf
def evI (m:Mch) (i:Nat):Ev:=match m.mv[i]? with | some x=>x.ev | none=>⟨false,0,0⟩
structure SrtM (m:Mch) (s:Nat) (l:List Nat):Prop where
 p:l.Perm (outIx m (s:Int))
 s:l.Pairwise fun a b=>¬ evLt (evI m b) (evI m a)
structure TbI (h:Heap) (a:Addr) (m:Mch) (sf sm sl:Sl) (S:Nat->List Nat):Prop where
 ex:∃ (ho:Sl) (qs:Nat->Sl),a.spot=none/\atC h a (mC m sf sm sl++[.slice ho.a ho.n ho.c])/\ho.n=m.n.toNat /\
  Rw h 1 ho ((List.range m.n.toNat).map fun i=>slC (qs i))/\∀ i,i<m.n.toNat->Rw h 1 (qs i) ((natI (S i)).map inC)
 so:∀ i,i<m.n.toNat->SrtM m i (S i)
theorem TbI.ext {h h':Heap} {a:Addr} {m:Mch} {sf sm sl:Sl} {S:Nat->List Nat} (hl:TbI h a m sf sm sl S) (E:Ext h h'):TbI h' a m sf sm sl S:=by
 obtain ⟨ho,qs,h0,h1,h2,h3,h4⟩:=hl.ex
 exact ⟨⟨ho,qs,h0,atC_ext E h1,h2,h3.ext E,fun i hi=>(h4 i hi).ext E⟩,hl.so⟩
def Sort152:Prop:=∀ (m:Mch) (sm:Sl) (a:Addr) {h0 h:Heap} {Ls:List It},St h0 h Ls->∀ (i:Nat) {s:Sl} {l:List Nat},Ls[i]?=some (.sl s 3 1 ((natI l).map inC))->(∀ x ∈ l,x<m.mv.length)->(l=[]->s.a=none)->m.mv.length<=1048576->l.length<=1048576 ->
 (∀ h':Heap,h.size<=h'.size->(∀ c,c<h.size->s.a.map (·.block) ≠ some c->h'[c]?=h[c]?)->hc h' ⟨a.block,a.off+4,none⟩=some (.slice sm.a sm.n sm.c)/\Rw h' 6 sm (m.mv.map Mv.cs)) ->
 Fn Pz 172 #[.slice s.a s.n s.c,.func (.func 173) #[] #[.pointer (some a)]] h fun v h'=>v=.tuple ⟨[]⟩/\∃ l':List Nat,l'.Perm l/\l'.Pairwise (fun a b=>¬ evLt (evI m b) (evI m a))/\St h0 h' (Ls.set i (.sl s 3 1 ((natI l').map inC)))
end Go.VC
end
