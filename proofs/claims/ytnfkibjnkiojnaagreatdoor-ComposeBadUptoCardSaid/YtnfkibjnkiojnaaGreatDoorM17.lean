/- TkP TkVcE TkQ TkR. -/
import Derived.Test.YtnfkibjnkiojnaaGreatDoorM16
import Derived.Test.YtnfkibjnkiojnaaGreatDoorM01
import Derived.Test.YtnfkibjnkiojnaaGreatDoorM02
import Derived.Test.YtnfkibjnkiojnaaGreatDoorProg
import Derived.KernelRfl
import Derived.Test.YtnfkibjnkiojnaaGreatDoorM07
import Derived.Test.YtnfkibjnkiojnaaGreatDoorM13
set_option linter.unusedVariables false
set_option linter.unusedSimpArgs false
set_option maxRecDepth 100000

section
/- Contract: Views. -/
namespace Go.VC
open Go.Proofs Go.LexS

theorem app31:appB Pz 52 108 6 48=true:=by kernel_rfl
theorem St.join {h0 h1 h:Heap} {L1 L2:List It} (hs1:St h0 h1 L1) (hs2:St h1 h L2):St h0 h (L1++L2):=by
 have h3:=hs1.step hs2.ext
 refine ⟨h3.ext,fun i hi=>?_,List.pairwise_append.2 ⟨h3.ap,hs2.ap,fun i hi j hj b hb hc=>?_⟩⟩
 ·
  rcases Yk.1 hi with hi | hi
  ·
   exact h3.ok i hi
  ·
   exact ⟨(hs2.ok i hi).1,fun b hb=>Yys hs1.ext.1 ((hs2.ok i hi).2 b hb)⟩
 ·
  have h4:=(hs1.ok i hi).1.lt hb
  have h5:=(hs2.ok j hj).2 b hc
  omega
theorem rowS_mem {S:List PSet} {p q:PSet}:q ∈ rowS S p ↔ q ∈ S\/q=p:=by
 unfold rowS
 split
 ·
  rename_i h
  constructor
  ·
   exact .inl
  ·
   rintro (h1 | rfl)
   ·
    exact h1
   ·
    exact h
 ·
  rw [Yk,Ye]
theorem rowS_len {S:List PSet} {p:PSet}:(rowS S p).length<=S.length+1/\S.length<=(rowS S p).length:=by
 unfold rowS
 split
 ·
  omega
 ·
  rw [Yh,Yv]; omega
theorem rowS_get {S:List PSet} {p q:PSet} {i:Nat} (h:S[i]?=some q):(rowS S p)[i]?=some q:=by
 unfold rowS
 split
 ·
  exact h
 ·
  rw [Yyi (Ya.1 h).1]; exact h
theorem toL_lt {g:Gl} {role:Int} {p:PSet} {x:Ev} (hV:ValidS g):∀ y ∈ toL g.es role p x,0<=y/\y<g.n:=by
 intro y hy
 unfold toL at hy
 obtain ⟨n,_,h2⟩:=List.mem_flatMap.1 hy
 obtain ⟨a,ha,h3⟩:=Yym.1 h2
 unfold visL at ha
 obtain ⟨e,he,h4⟩:=Yym.1 ha
 have:=hV.num.e e he
 unfold EdS at this
 split at h4
 ·
  rw [Yya] at h4
  obtain ⟨_,_,rfl⟩:=h4
  split at h3
  ·
   cases h3; show 0<=e.t/\e.t<g.n; omega
  ·
   cases h3
 ·
  cases h4
def TR (ge:Nat) (ss fs ars:Sl) (E:List SE) (M:List Mv):List It:=
 [.sl ss 222 1 (E.map SE.hd),.sl fs 4 1 ((E.map fun e=>e.p ge).map bC),.sl ars 108 6 (M.map Mv.cs)]++E.map SE.it
def sl0:List Value:=[.slice none 0 0,.slice none 0 0,.slice none 0 0]
theorem drop_get {α:Type} {l:List α} {j:Nat} {x:α} (h:l[j]?=some x):l.drop j=x::l.drop (j+1):=by
 obtain ⟨h1,h2⟩:=Ya.1 h
 rw [<- h2]; exact List.drop_eq_getElem_cons h1
theorem evs_len {g:Gl} {role:Int} {p:PSet} (hV:ValidS g):(evs g.es role p).length<=400:=by
 have h1:=sortE_len (evL g.es role p)
 have h2:=evs_le g.es role p
 have h3:=hV.num.m
 show (sortE _).length<=400
 omega
inductive ViR (g:Gl) (role:Int) (h h':Heap):Value->Prop
 | bad (hn:¬ (ValidS g/\0<=role/\role<g.rs.length)):ViR g role h h' (.tuple ⟨[.agg ⟨sl0⟩,.int .i64 1]⟩)
 | limit (hv:ValidS g/\0<=role/\role<g.rs.length) (hn:views g role=none):ViR g role h h' (.tuple ⟨[.agg ⟨sl0⟩,.int .i64 6]⟩)
 | good (hv:ValidS g/\0<=role/\role<g.rs.length) {ss fs ars:Sl} {E:List SE} {M:List Mv} (hn:views g role=some (E.map (·.p),M)) (hs:St h h' (TR g.e.toNat ss fs ars E M)) (hE:∀ e ∈ E,SI e.ws e.k e.p) (hl:E.length<=200) (hp:∀ p ∈ E.map (·.p),∀ j:Nat,p j=true->(j:Int)<g.n) (hm:M.length<=80000) :
   ViR g role h h' (.tuple ⟨[.agg ⟨[.slice ss.a ss.n ss.c,.slice fs.a fs.n fs.c,.slice ars.a ars.n ars.c]⟩,.int .i64 0]⟩)
set_option maxHeartbeats 2000000 in
theorem views39 (g:Gl) (role:Int) (h:Heap) (hg:GI h g) (hx:Gx h) :
  Fn Pz 153 #[g.v,.int .i64 role] h fun v h'=>Ext h h'/\ViR g role h h' v:=by
 apply vc153 (bs g.nm) g.hr g.hd g.n g.s g.e g.he g.ht; unfold W153
 have hs:=St.refl h
 refine hs.newb fun h9 hs=>?_
 refine hs.newb fun h10 hs=>?_
 refine ⟨_,_,_,_,_,_,_,_,hs.at 1 rfl (n:=8) rfl,?_⟩
 refine (look52 g role h10 (hg.ext hs.ext) (hx.ext hs.ext)).mono ?_
 rintro _ h22 ⟨Eh22,h1 | h1⟩
 ·
  obtain ⟨hn,rfl⟩:=h1
  replace hs:=hs.step Eh22
  refine ⟨_,_,rfl,?_⟩
  refine sBn (fun c1=>?_) (fun c1=>by omega)
  refine hs.put 0 rfl (o:=0) (vs:=sl0) rfl (by decide) fun h23 hs=>?_
  refine ⟨⟨none,0,0⟩,⟨none,0,0⟩,⟨none,0,0⟩,hs.at 0 rfl (n:=3) rfl,?_⟩
  exact ⟨hs.ext,.bad hn⟩
 obtain ⟨hv,bl,hbl,rfl,hl⟩:=h1
 obtain ⟨hV,hr0,hr1⟩:=hv
 have hs1:=hs.step Eh22
 clear hs
 have hN:=hV.num.n
 have hb9:h.size<h22.size:=hs1.get (k:=1) rfl |>.lt rfl
 refine ⟨_,_,rfl,?_⟩
 refine sBn (fun c1=>absurd rfl c1) (fun _=>?_)
 have hs:=St.refl h22
 refine hs.newb fun h27 hs=>?_
 refine ⟨_,(hs1.step hs.ext).rd 1 rfl rfl,?_⟩
 refine hs.newb fun h29 hs=>?_
 have hl2:∀ x ∈ [g.s],0<=x/\x<g.n:=fun x hx=>by rw [Ye] at hx; omega
 have hsl:=hs.blkS 1 1 ([g.s].map inC) rfl (inrows _) rfl (by decide)
 refine (closed53 g role bl [g.s] _ h29 (hl.ext hs.ext) hV (hsl.rows 0 rfl (by omega)) hl2 (show 1<=1048576 by decide)).mono ?_
 clear hsl
 rintro _ h32 ⟨E32,c,k,ws,rfl,hcc,ho,hS⟩
 replace hs:=hs.giftB E32 hcc ho
 refine ⟨⟨some ⟨c,0,none⟩,k,k⟩,rfl,?_⟩
 have hs:=(((hs.eras 1).nil_ 108 6).nil_ 4 1).nil_ 222 1
 have hge:(g.e:Int)=((g.e.toNat:Nat):Int):=by omega
 have he5:∀ {h':Heap},Ext h22 h'->hc h' ⟨h.size,5,none⟩=some (.int .i64 ((g.e.toNat:Nat):Int)):=fun E=>by rw [<- hge]; exact (hs1.step E).rd 1 rfl rfl
 have hs:St h22 h32 ((⟨c,k,ws,clo g.es role [g.s]⟩:SE).it::(TL h22.size g.e.toNat ⟨none,0,0⟩ ⟨none,0,0⟩ ⟨none,0,0⟩ [] []++[])):=
  hs.perm (List.perm_append_comm (l₁:=[_,_,_]) (l₂:=[_,_]))
 refine (row83 (bg:=h.size) hs (fun e he=>by cases he) hS hb9 (he5 hs.ext) (by omega) (by decide)).mono ?_
 rintro _ h35 ⟨rfl,E',ss',fs',hs,hE',hSI'⟩
 refine ⟨_,rfl,?_⟩
 have hE1:E'.map (·.p)=[clo g.es role [g.s]]:=by rw [hE']; rw [List.map_nil]; unfold rowS; rw [if_neg (by simp)]; rfl
 refine ⟨fun x h' m=>∃ (i:Nat) (ss fs ars:Sl) (E:List SE) (M:List Mv),x=i/\m=201 - i/\i<=E.length/\St h22 h' (TL h22.size g.e.toNat ss fs ars E M++[])/\(∀ e ∈ E,SI e.ws e.k e.p) /\
  (∀ p ∈ E.map (·.p),∀ j:Nat,p j=true->(j:Int)<g.n)/\E.length<=200/\M.length<=i*400/\views g role=viewsF g.es role (202 - i) i (E.map (·.p)) M,⟨_,0,_,_,_,E',[],rfl,rfl,by omega,hs,hSI',?_,?_,by simp,?_⟩,?_⟩
 ·
  intro p hp j hj
  rw [hE1,Ye] at hp
  subst hp
  exact clo_lt hV hl2 j hj
 ·
  have:=congrArg List.length hE1
  rw [Yc] at this
  rw [this]; show 1<=200; decide
 ·
  rw [hE1]; rfl
 clear hs hE1 hSI' hE' E' ss' fs'
 rintro - _ h40 m ⟨i,ss,fs,ars,E,M,rfl,rfl,hi,hs,hSI,hlt,hEl,hM,hvw⟩
 have hsl:=hs.len 1 (s:=ss) (e:=222) (n:=1) rfl (by omega)
 rw [Yc] at hsl
 refine ⟨ss,hs.rd 0 rfl rfl,?_⟩
 refine sBi (fun c2=>?_) (fun c2=>?_)
 ·
  have hiE:i<E.length:=by omega
  refine ⟨ss,hs.rd 0 rfl rfl,?_⟩
  refine (hs.rows 1 (cs:=SE.hd) rfl (by omega)).nbI (by omega) (by omega) fun b43 o44 e g43 t43=>?_
  replace g43:E[i]?=some e:=g43
  have heE:=Yb g43
  have hEget:(E.map (·.p))[i]?=some e.p:=by rw [Yd,g43]; rfl
  have hep:∀ j:Nat,e.p j=true->(j:Int)<g.n:=hlt e.p (Yp.2 ⟨e,heE,rfl⟩)
  refine ⟨e.s,t43.hd,?_⟩
  refine (events87 g role bl e.p e.s h40 (hl.ext hs.ext) hV ((hx.ext (hs1.ext.trans hs.ext))) (TL.set (A:=[]) hs hSI e heE) hep).mono ?_
  rintro _ h48 ⟨E48,x47,rfl,ho47⟩
  replace hs:=hs.gift E48 ho47 (evrows _)
  refine ⟨x47,rfl,?_⟩
  have hln:=(hs.rows 0 (cs:=Ev.cs) rfl (by omega)).ln
  have hev:=evs_len (g:=g) (role:=role) (p:=e.p) hV
  generalize hL:evs g.es role e.p=L at *
  refine ⟨fun x h' m=>∃ (j:Nat) (ss2 fs2 ars2:Sl) (E2:List SE) (M2:List Mv),x=j/\m=x47.n - j/\j<=L.length/\St h22 h' (.sl x47 324 3 (L.map Ev.cs)::(TL h22.size g.e.toNat ss2 fs2 ars2 E2 M2++[]))/\(∀ e ∈ E2,SI e.ws e.k e.p) /\
   (∀ p ∈ E2.map (·.p),∀ j:Nat,p j=true->(j:Int)<g.n)/\E2.length<=E.length+j/\M2.length<=M.length+j/\(E2.map (·.p))[i]?=some e.p /\
   arcsF g.es role i e.p L (E.map (·.p)) M=arcsF g.es role i e.p (L.drop j) (E2.map (·.p)) M2,⟨_,0,_,_,_,E,M,rfl,rfl,by omega,hs,hSI,hlt,by omega,by omega,by rw [Yd,g43]; rfl,by rw [List.drop_zero]⟩,?_⟩
  clear hs hSI hlt hsl heE g43 t43 c2 ho47 E48 hi
  rintro - _ h53 m ⟨j,ss2,fs2,ars2,E2,M2,rfl,rfl,hj,hs,hSI,hlt,hE2l,hM2,hget,harc⟩
  have hsl2:=hs.len 2 (s:=ss2) (e:=222) (n:=1) rfl (by omega)
  rw [Yc] at hsl2
  have hEi:i<E2.length:=by have:=(Ya.1 hget).1; rwa [Yc] at this
  refine sBi (fun c3=>?_) (fun c3=>?_)
  ·
   refine (hs.rows 0 (cs:=Ev.cs) rfl (by omega)).nbI (by omega) (by omega) fun b54 o55 y g54 t54=>?_
   replace g54:L[j]?=some y:=g54
   refine ⟨_,_,_,t54,?_⟩
   refine hs.newput (vs:=y.cs) rfl rfl fun h60 hs=>?_
   refine ⟨ss2,hs.rd 2 rfl rfl,?_⟩
   refine (hs.rows 3 (cs:=SE.hd) rfl (by omega)).nbI (by omega) (by omega) fun b62 o63 e2 g62 t62=>?_
   replace g62:E2[i]?=some e2:=g62
   have he2E:=Yb g62
   have hpe:e2.p=e.p:=by rw [Yd,g62] at hget; exact Yyp hget
   refine ⟨e2.s,t62.hd,?_⟩
   refine ⟨_,_,_,hs.at 0 rfl (n:=3) rfl,?_⟩
   refine (after56 g role bl e2.p y e2.s h60 (hl.ext hs.ext) hV ((hx.ext (hs1.ext.trans hs.ext))) (TL.set (A:=[_,_]) hs hSI e2 he2E) (hlt e2.p (Yp.2 ⟨e2,he2E,rfl⟩))).mono ?_
   rintro _ h70 ⟨E70,c4,k4,ws4,rfl,hc4,ho4,hS4⟩
   replace hs:=hs.giftB E70 hc4 ho4
   refine ⟨⟨some ⟨c4,0,none⟩,k4,k4⟩,rfl,?_⟩
   rw [hpe] at hS4
   have hs:St h22 h70 ((⟨c4,k4,ws4,clo g.es role (toL g.es role e.p y)⟩:SE).it::(TL h22.size g.e.toNat ss2 fs2 ars2 E2 M2++[.blk h53.size y.cs 324,.sl x47 324 3 (L.map Ev.cs)])):=by
    rw [Yw] at hs
    exact hs.perm (List.Perm.cons _ (List.perm_append_comm (l₁:=[_,_])))
   refine (row83 (bg:=h.size) hs hSI hS4 hb9 (he5 hs.ext) (by omega) (by omega)).mono ?_
   rintro _ h73 ⟨rfl,E3,ss3,fs3,hs,hE3,hSI3⟩
   refine ⟨_,rfl,?_⟩
   have hs:St h22 h73 (.blk h53.size y.cs 324 :: .sl x47 324 3 (L.map Ev.cs)::TL h22.size g.e.toNat ss3 fs3 ars2 E3 M2):=
    hs.perm (List.perm_append_comm (l₂:=[_,_]))
   refine ⟨ars2,hs.rd 2 rfl rfl,?_⟩
   refine ⟨_,hs.rd 0 rfl rfl,?_⟩
   refine ⟨_,hs.rd 0 rfl rfl,?_⟩
   refine ⟨_,hs.rd 0 rfl rfl,?_⟩
   have har:=(hs.rows 5 (s:=ars2) (cs:=Mv.cs) rfl (by omega)).ln
   refine hs.app 5 rfl app31 (m:=1) [Mv.cs ⟨i,y.send,y.peer,y.label,rowI (E2.map (·.p)) (clo g.es role (toL g.es role e.p y)),false⟩] rfl rfl (fun r hr=>by rw [Ye] at hr; rw [hr]; rfl) rfl (by omega) (by simp only [maxLen]; omega) fun s79 h80 ns79 hs=>?_
   refine hs.put 2 rfl (o:=2) (vs:=[.slice s79.a s79.n s79.c]) rfl (show 3<=3 by decide) fun h81 hs=>?_
   have hrl:=rowS_len (S:=E2.map (·.p)) (p:=clo g.es role (toL g.es role e.p y))
   rw [<- hE3,Yc,Yc] at hrl
   refine ⟨_,by omega,j+1,ss3,fs3,s79,E3,M2++[⟨i,y.send,y.peer,y.label,rowI (E2.map (·.p)) (clo g.es role (toL g.es role e.p y)),false⟩],by rw [w64 (by omega) (by omega)]; omega,rfl,by omega,?_,hSI3,?_,by omega,by rw [Yh,Yv]; omega,by rw [hE3]; exact rowS_get hget,?_⟩
   ·
    rw [Yw]
    unfold TL
    rw [Ym]
    exact hs.drop 1
   ·
    intro p hp
    rw [hE3,rowS_mem] at hp
    rcases hp with hp | rfl
    ·
     exact hlt p hp
    ·
     exact clo_lt hV (toL_lt hV)
   ·
    rw [harc,drop_get g54,hE3]; rfl
  ·
   have hjL:L.length<=j:=by omega
   rw [List.drop_eq_nil_of_le hjL] at harc
   have harc:arcsF g.es role i e.p L (E.map (·.p)) M=(E2.map (·.p),M2):=harc
   have hstep:views g role=if E2.length > 200 then none else viewsF g.es role (202 - (i+1)) (i+1) (E2.map (·.p)) M2:=by
    rw [hvw,show 202 - i=(202 - (i+1))+1 by omega,viewsF,hEget]
    show (if (arcsF g.es role i e.p (evs g.es role e.p) (E.map (·.p)) M).1.length > 200 then none else _)=_
    rw [hL,harc,Yc]
   refine ⟨ss2,hs.rd 1 rfl rfl,?_⟩
   refine sBi (fun c4=>?_) (fun c4=>?_)
   ·
    rw [if_pos (by omega)] at hstep
    have hsA:=hs1.step hs.ext
    refine hsA.put 0 rfl (o:=0) (vs:=sl0) rfl (by decide) fun h84 hs=>?_
    refine ⟨⟨none,0,0⟩,⟨none,0,0⟩,⟨none,0,0⟩,hs.at 0 rfl (n:=3) rfl,?_⟩
    exact ⟨hs.ext,.limit ⟨hV,hr0,hr1⟩ hstep⟩
   ·
    rw [if_neg (by omega)] at hstep
    refine ⟨_,by omega,i+1,ss2,fs2,ars2,E2,M2,by rw [w64 (by omega) (by omega)]; omega,rfl,by omega,hs.drop 1,hSI,hlt,by omega,by omega,hstep⟩
 ·
  have hiE:E.length<=i:=by omega
  have hfin:views g role=some (E.map (·.p),M):=by
   rw [hvw,show 202 - i=(201 - i)+1 by omega,viewsF,Yl (by rw [Yc]; exact hiE)]
  refine ⟨ss,fs,ars,hs.at 0 rfl (n:=3) rfl,?_⟩
  have hsJ:=hs1.join (hs.drop 1)
  refine hsJ.put 0 rfl (o:=0) (vs:=[.slice ss.a ss.n ss.c,.slice fs.a fs.n fs.c,.slice ars.a ars.n ars.c]) rfl (show 3<=3 by decide) fun h92 hs=>?_
  refine ⟨ss,fs,ars,hs.at 0 rfl (n:=3) rfl,?_⟩
  have hs:=hs.drop 2
  rw [show TL h22.size g.e.toNat ss fs ars E M++[]=_ from Yw _] at hs
  exact ⟨hs.ext,.good ⟨hV,hr0,hr1⟩ hfin hs hSI hEl hlt (by omega)⟩
end Go.VC
end

section
namespace Go.VC
open Go.Proofs

def W154 (p0_1:ByteArray) (p0_2 p0_3:Sl) (p0_4 p0_5 p0_6:Int) (p0_7 p0_8:Sl) (p1:Int) (h:Heap) (R:Value->Heap->Prop):Prop:=
 (Wn h (L2 p0_1 p0_2 p0_3 p0_4 p0_5 p0_6 p0_7 p0_8) 92 fun h9=>
 (∃ x10,rI h9 (aS h 3) x10 /\
 (∃ x11,rI h9 (aS h 3) x11 /\
 ((Mk x10 x10 1/\Wn h9 (madeL Pz 4 (Int.toNat x10)) 4 fun h12=>
 (Sm [(aS h 3)] h9 h12 /\
 (Mk x11 x11 40/\Wn h12 (madeL Pz 226 (Int.toNat x11)) 226 fun h13=>
 (Sm [(aS h 3)] h12 h13 /\
 (Wn h13 [.slice none 0 0,.slice none 0 0,.slice (some (aS h9 0)) (Int.toNat x10) (Int.toNat x10),.slice (some (aS h12 0)) (Int.toNat x11) (Int.toNat x11)] 329 fun h14=>
 (∃ x15,rI h14 (aS h 3) x15 /\
 (QI 0 h14 fun I16 x_19 h20 m18=>(
 (sB (decide (x_19<x15))
 ((∃ x21 x22 x23 x24 x25 x26 x27 x28,aL2 h20 (aS h 0) x21 x22 x23 x24 x25 x26 x27 x28 /\
 (Fn Pz 217 #[.agg ⟨(L2 x21 x22 x23 x24 x25 x26 x27 x28)⟩,vI p1,vI x_19] h20
 (fun v29 h33=>∃ (x30:Sl) (x31:Bool) (x32:Int),v29=.tuple ⟨[vS x30,.bool x31,vI x32]⟩ /\
 (QSI ⟨none,0,0⟩ 0 h33 fun I34 out_37 x_38 h39 m36=>(
 (sB (decide (x_38<(x30.n:Int)))
 ((NB x30.a fun b40 o41=>(Ib x_38 x30.n /\
 (∃ x42 x43 x44 x45 x46,aL10 h39 ⟨b40,o41+Int.toNat x_38*5,none⟩ x42 x43 x44 x45 x46 /\
 (Wn h39 [vI 0,.bool false,vI 0,vI 0,.slice none 0 0] 66 fun h47=>
 (Wp h47 (aS h39 0) 5 (L10 x42 x43 x44 x45 x46) fun h48=>
 (∃ x49,rB h48 (aS h39 1) x49 /\
 (∃ x50,rI h48 (aS h39 2) x50 /\
 (∃ x51,rI h48 (aS h39 3) x51 /\
 (Wn h48 (L3 x49 x50 x51) 224 fun h52=>
 (App Pz 332 332 (vS out_37) (.slice (some (aS h48 0)) 1 1) h52 fun s53 h54=>
 (∃ m55,m55<m36/\I34 s53 (IntKind.wrap .i64 (x_38+1)) h54 m55))))))))))))
 ((∃ x56,rS h39 (aS h13 0) x56 /\
 (∃ x57,rS h39 (aS h13 1) x57 /\
 ((Wn h39 [vS out_37] 332 fun h58=>
 (Sm [(aS h13 1),(aS h13 0)] h39 h58 /\
 ((App Pz 327 327 (vS x56) (.slice (some (aS h39 0)) 1 1) h58 fun s59 h60=>
 (Sm [(aS h13 1)] h58 h60 /\
 (Wn h60 [.bool x31] 4 fun h61=>
 (Sm [(aS h13 1),(aS h13 0)] h60 h61 /\
 (App Pz 51 51 (vS x57) (.slice (some (aS h60 0)) 1 1) h61 fun s62 h63=>
 (Sm [(aS h13 0)] h61 h63 /\
 (Wp h63 (aS h13 0) 1 [vS s59] fun h64=>
 (Wp h64 (aS h13 1) 1 [vS s62] fun h65=>
 (∃ m66,m66<m18/\I16 (IntKind.wrap .i64 (x_19+1)) h65 m66))))))))))/\((Wn h58 [.bool x31] 4 fun h67=>
 (Sm [(aS h13 1),(aS h13 0)] h58 h67 /\
 (App Pz 327 327 (vS x56) (.slice (some (aS h39 0)) 1 1) h67 fun s68 h69=>
 (Sm [(aS h13 1)] h67 h69 /\
 (App Pz 51 51 (vS x57) (.slice (some (aS h58 0)) 1 1) h69 fun s70 h71=>
 (Sm [(aS h13 0)] h69 h71 /\
 (Wp h71 (aS h13 0) 1 [vS s68] fun h72=>
 (Wp h72 (aS h13 1) 1 [vS s70] fun h73=>
 (∃ m74,m74<m18/\I16 (IntKind.wrap .i64 (x_19+1)) h73 m74)))))))))))))/\((Wn h39 [.bool x31] 4 fun h75=>
 (Sm [(aS h13 1),(aS h13 0)] h39 h75 /\
 (Wn h75 [vS out_37] 332 fun h76=>
 (Sm [(aS h13 1),(aS h13 0)] h75 h76 /\
 (App Pz 327 327 (vS x56) (.slice (some (aS h75 0)) 1 1) h76 fun s77 h78=>
 (Sm [(aS h13 1)] h76 h78 /\
 (App Pz 51 51 (vS x57) (.slice (some (aS h39 0)) 1 1) h78 fun s79 h80=>
 (Sm [(aS h13 0)] h78 h80 /\
 (Wp h80 (aS h13 0) 1 [vS s77] fun h81=>
 (Wp h81 (aS h13 1) 1 [vS s79] fun h82=>
 (∃ m83,m83<m18/\I16 (IntKind.wrap .i64 (x_19+1)) h82 m83))))))))))))))))))))))
 ((∃ x84,rS h20 (aS h 6) x84 /\
 (QI 0 h20 fun I85 x_88 h89 m87=>(
 (sB (decide (x_88<(x84.n:Int)))
 ((NB x84.a fun b90 o91=>(Ib x_88 x84.n /\
 (∃ x92 x93 x94 x95 x96 x97,aL6 h89 ⟨b90,o91+Int.toNat x_88*6,none⟩ x92 x93 x94 x95 x96 x97 /\
 (Wn h89 [vI 0,vI 0,vI 0,vI 0,vI 0,.bool false] 137 fun h98=>
 (Wp h98 (aS h89 0) 6 (L6 x92 x93 x94 x95 x96 x97) fun h99=>
 (∃ x100,rI h99 (aS h89 1) x100 /\
 (sB (x100 == p1)
 ((∃ x101,rS h99 (aS h13 2) x101 /\
 (∃ x102,rI h99 (aS h89 0) x102 /\
 (∃ x103,rS h99 (aS h13 3) x103 /\
 (∃ x104,rI h99 (aS h89 0) x104 /\
 (∃ x105,rB h99 (aS h89 5) x105 /\
 (NB x101.a fun b106 o107=>(Ib x102 x101.n /\
 (Wp h99 ⟨b106,o107+Int.toNat x102*1,none⟩ 1 [.bool true] fun h108=>
 (Sm [(aS h89 5),(aS h89 0)] h99 h108 /\
 (NB x103.a fun b109 o110=>(Ib x104 x103.n /\
 (Wp h108 ⟨b109,o110+Int.toNat x104*5,none⟩ 1 [.bool x105] fun h111=>
 (∃ m112,m112<m87/\I85 (IntKind.wrap .i64 (x_88+1)) h111 m112))))))))))))))
 ((∃ m113,m113<m87/\I85 (IntKind.wrap .i64 (x_88+1)) h99 m113))))))))))
 ((∃ x114,rS h89 (aS h 7) x114 /\
 (QI 0 h89 fun I115 x_118 h119 m117=>(
 (sB (decide (x_118<(x114.n:Int)))
 ((NB x114.a fun b120 o121=>(Ib x_118 x114.n /\
 (∃ x122 x123 x124,aL4 h119 ⟨b120,o121+Int.toNat x_118*3,none⟩ x122 x123 x124 /\
 (Wn h119 [vI 0,vI 0,vI 0] 190 fun h125=>
 (Wp h125 (aS h119 0) 3 (L4 x122 x123 x124) fun h126=>
 (∃ x127,rS h126 (aS h13 2) x127 /\
 (∃ x128,rI h126 (aS h119 0) x128 /\
 (NB x127.a fun b129 o130=>(Ib x128 x127.n /\
 (∃ x131,rB h126 ⟨b129,o130+Int.toNat x128*1,none⟩ x131 /\
 (sB x131
 ((∃ x132,rS h126 (aS h 6) x132 /\
 (∃ x133,rI h126 (aS h119 2) x133 /\
 (NB x132.a fun b134 o135=>(Ib x133 x132.n /\
 (∃ x136 x137 x138,aL4 h126 ⟨b134,o135+Int.toNat x133*6+1,none⟩ x136 x137 x138 /\
 (Wn h126 [vI 0,vI 0,vI 0] 135 fun h139=>
 (Wp h139 (aS h126 0) 3 (L4 x136 x137 x138) fun h140=>
 (∃ x141,rS h140 (aS h13 3) x141 /\
 (∃ x142,rI h140 (aS h119 0) x142 /\
 (∃ x143,rS h140 (aS h13 3) x143 /\
 (∃ x144,rI h140 (aS h119 0) x144 /\
 (∃ x145,rI h140 (aS h119 1) x145 /\
 (∃ x146,rI h140 (aS h126 1) x146 /\
 (∃ x147,rI h140 (aS h126 2) x147 /\
 (NB x141.a fun b148 o149=>(Ib x142 x141.n /\
 (Wp h140 ⟨b148,o149+Int.toNat x142*5+1,none⟩ 1 [vI x145] fun h150=>
 (Sm [(aS h126 2),(aS h126 1),(aS h119 0)] h140 h150 /\
 (NB x143.a fun b151 o152=>(Ib x144 x143.n /\
 (Wp h150 ⟨b151,o152+Int.toNat x144*5+2,none⟩ 3 [.bool true,vI x146,vI x147] fun h153=>
 (∃ m154,m154<m117/\I115 (IntKind.wrap .i64 (x_118+1)) h153 m154)))))))))))))))))))))))
 ((∃ m155,m155<m117/\I115 (IntKind.wrap .i64 (x_118+1)) h126 m155))))))))))))))
 (R (.pointer (some (aS h13 0))) h119)))))))))))))))))))))/\((Mk x11 x11 40/\Wn h9 (madeL Pz 226 (Int.toNat x11)) 226 fun h156=>
 (Sm [(aS h 3)] h9 h156 /\
 (Mk x10 x10 1/\Wn h156 (madeL Pz 4 (Int.toNat x10)) 4 fun h157=>
 (Sm [(aS h 3)] h156 h157 /\
 (Wn h157 [.slice none 0 0,.slice none 0 0,.slice (some (aS h156 0)) (Int.toNat x10) (Int.toNat x10),.slice (some (aS h9 0)) (Int.toNat x11) (Int.toNat x11)] 329 fun h158=>
 (∃ x159,rI h158 (aS h 3) x159 /\
 (QI 0 h158 fun I160 x_163 h164 m162=>(
 (sB (decide (x_163<x159))
 ((∃ x165 x166 x167 x168 x169 x170 x171 x172,aL2 h164 (aS h 0) x165 x166 x167 x168 x169 x170 x171 x172 /\
 (Fn Pz 217 #[.agg ⟨(L2 x165 x166 x167 x168 x169 x170 x171 x172)⟩,vI p1,vI x_163] h164
 (fun v173 h177=>∃ (x174:Sl) (x175:Bool) (x176:Int),v173=.tuple ⟨[vS x174,.bool x175,vI x176]⟩ /\
 (QSI ⟨none,0,0⟩ 0 h177 fun I178 out_181 x_182 h183 m180=>(
 (sB (decide (x_182<(x174.n:Int)))
 ((NB x174.a fun b184 o185=>(Ib x_182 x174.n /\
 (∃ x186 x187 x188 x189 x190,aL10 h183 ⟨b184,o185+Int.toNat x_182*5,none⟩ x186 x187 x188 x189 x190 /\
 (Wn h183 [vI 0,.bool false,vI 0,vI 0,.slice none 0 0] 66 fun h191=>
 (Wp h191 (aS h183 0) 5 (L10 x186 x187 x188 x189 x190) fun h192=>
 (∃ x193,rB h192 (aS h183 1) x193 /\
 (∃ x194,rI h192 (aS h183 2) x194 /\
 (∃ x195,rI h192 (aS h183 3) x195 /\
 (Wn h192 (L3 x193 x194 x195) 224 fun h196=>
 (App Pz 332 332 (vS out_181) (.slice (some (aS h192 0)) 1 1) h196 fun s197 h198=>
 (∃ m199,m199<m180/\I178 s197 (IntKind.wrap .i64 (x_182+1)) h198 m199))))))))))))
 ((∃ x200,rS h183 (aS h157 0) x200 /\
 (∃ x201,rS h183 (aS h157 1) x201 /\
 ((Wn h183 [vS out_181] 332 fun h202=>
 (Sm [(aS h157 1),(aS h157 0)] h183 h202 /\
 ((App Pz 327 327 (vS x200) (.slice (some (aS h183 0)) 1 1) h202 fun s203 h204=>
 (Sm [(aS h157 1)] h202 h204 /\
 (Wn h204 [.bool x175] 4 fun h205=>
 (Sm [(aS h157 1),(aS h157 0)] h204 h205 /\
 (App Pz 51 51 (vS x201) (.slice (some (aS h204 0)) 1 1) h205 fun s206 h207=>
 (Sm [(aS h157 0)] h205 h207 /\
 (Wp h207 (aS h157 0) 1 [vS s203] fun h208=>
 (Wp h208 (aS h157 1) 1 [vS s206] fun h209=>
 (∃ m210,m210<m162/\I160 (IntKind.wrap .i64 (x_163+1)) h209 m210))))))))))/\((Wn h202 [.bool x175] 4 fun h211=>
 (Sm [(aS h157 1),(aS h157 0)] h202 h211 /\
 (App Pz 327 327 (vS x200) (.slice (some (aS h183 0)) 1 1) h211 fun s212 h213=>
 (Sm [(aS h157 1)] h211 h213 /\
 (App Pz 51 51 (vS x201) (.slice (some (aS h202 0)) 1 1) h213 fun s214 h215=>
 (Sm [(aS h157 0)] h213 h215 /\
 (Wp h215 (aS h157 0) 1 [vS s212] fun h216=>
 (Wp h216 (aS h157 1) 1 [vS s214] fun h217=>
 (∃ m218,m218<m162/\I160 (IntKind.wrap .i64 (x_163+1)) h217 m218)))))))))))))/\((Wn h183 [.bool x175] 4 fun h219=>
 (Sm [(aS h157 1),(aS h157 0)] h183 h219 /\
 (Wn h219 [vS out_181] 332 fun h220=>
 (Sm [(aS h157 1),(aS h157 0)] h219 h220 /\
 (App Pz 327 327 (vS x200) (.slice (some (aS h219 0)) 1 1) h220 fun s221 h222=>
 (Sm [(aS h157 1)] h220 h222 /\
 (App Pz 51 51 (vS x201) (.slice (some (aS h183 0)) 1 1) h222 fun s223 h224=>
 (Sm [(aS h157 0)] h222 h224 /\
 (Wp h224 (aS h157 0) 1 [vS s221] fun h225=>
 (Wp h225 (aS h157 1) 1 [vS s223] fun h226=>
 (∃ m227,m227<m162/\I160 (IntKind.wrap .i64 (x_163+1)) h226 m227))))))))))))))))))))))
 ((∃ x228,rS h164 (aS h 6) x228 /\
 (QI 0 h164 fun I229 x_232 h233 m231=>(
 (sB (decide (x_232<(x228.n:Int)))
 ((NB x228.a fun b234 o235=>(Ib x_232 x228.n /\
 (∃ x236 x237 x238 x239 x240 x241,aL6 h233 ⟨b234,o235+Int.toNat x_232*6,none⟩ x236 x237 x238 x239 x240 x241 /\
 (Wn h233 [vI 0,vI 0,vI 0,vI 0,vI 0,.bool false] 137 fun h242=>
 (Wp h242 (aS h233 0) 6 (L6 x236 x237 x238 x239 x240 x241) fun h243=>
 (∃ x244,rI h243 (aS h233 1) x244 /\
 (sB (x244 == p1)
 ((∃ x245,rS h243 (aS h157 2) x245 /\
 (∃ x246,rI h243 (aS h233 0) x246 /\
 (∃ x247,rS h243 (aS h157 3) x247 /\
 (∃ x248,rI h243 (aS h233 0) x248 /\
 (∃ x249,rB h243 (aS h233 5) x249 /\
 (NB x245.a fun b250 o251=>(Ib x246 x245.n /\
 (Wp h243 ⟨b250,o251+Int.toNat x246*1,none⟩ 1 [.bool true] fun h252=>
 (Sm [(aS h233 5),(aS h233 0)] h243 h252 /\
 (NB x247.a fun b253 o254=>(Ib x248 x247.n /\
 (Wp h252 ⟨b253,o254+Int.toNat x248*5,none⟩ 1 [.bool x249] fun h255=>
 (∃ m256,m256<m231/\I229 (IntKind.wrap .i64 (x_232+1)) h255 m256))))))))))))))
 ((∃ m257,m257<m231/\I229 (IntKind.wrap .i64 (x_232+1)) h243 m257))))))))))
 ((∃ x258,rS h233 (aS h 7) x258 /\
 (QI 0 h233 fun I259 x_262 h263 m261=>(
 (sB (decide (x_262<(x258.n:Int)))
 ((NB x258.a fun b264 o265=>(Ib x_262 x258.n /\
 (∃ x266 x267 x268,aL4 h263 ⟨b264,o265+Int.toNat x_262*3,none⟩ x266 x267 x268 /\
 (Wn h263 [vI 0,vI 0,vI 0] 190 fun h269=>
 (Wp h269 (aS h263 0) 3 (L4 x266 x267 x268) fun h270=>
 (∃ x271,rS h270 (aS h157 2) x271 /\
 (∃ x272,rI h270 (aS h263 0) x272 /\
 (NB x271.a fun b273 o274=>(Ib x272 x271.n /\
 (∃ x275,rB h270 ⟨b273,o274+Int.toNat x272*1,none⟩ x275 /\
 (sB x275
 ((∃ x276,rS h270 (aS h 6) x276 /\
 (∃ x277,rI h270 (aS h263 2) x277 /\
 (NB x276.a fun b278 o279=>(Ib x277 x276.n /\
 (∃ x280 x281 x282,aL4 h270 ⟨b278,o279+Int.toNat x277*6+1,none⟩ x280 x281 x282 /\
 (Wn h270 [vI 0,vI 0,vI 0] 135 fun h283=>
 (Wp h283 (aS h270 0) 3 (L4 x280 x281 x282) fun h284=>
 (∃ x285,rS h284 (aS h157 3) x285 /\
 (∃ x286,rI h284 (aS h263 0) x286 /\
 (∃ x287,rS h284 (aS h157 3) x287 /\
 (∃ x288,rI h284 (aS h263 0) x288 /\
 (∃ x289,rI h284 (aS h263 1) x289 /\
 (∃ x290,rI h284 (aS h270 1) x290 /\
 (∃ x291,rI h284 (aS h270 2) x291 /\
 (NB x285.a fun b292 o293=>(Ib x286 x285.n /\
 (Wp h284 ⟨b292,o293+Int.toNat x286*5+1,none⟩ 1 [vI x289] fun h294=>
 (Sm [(aS h270 2),(aS h270 1),(aS h263 0)] h284 h294 /\
 (NB x287.a fun b295 o296=>(Ib x288 x287.n /\
 (Wp h294 ⟨b295,o296+Int.toNat x288*5+2,none⟩ 3 [.bool true,vI x290,vI x291] fun h297=>
 (∃ m298,m298<m261/\I259 (IntKind.wrap .i64 (x_262+1)) h297 m298)))))))))))))))))))))))
 ((∃ m299,m299<m261/\I259 (IntKind.wrap .i64 (x_262+1)) h270 m299))))))))))))))
 (R (.pointer (some (aS h157 0))) h263))))))))))))))))))))))))
theorem vc154 (p0_1:ByteArray) (p0_2 p0_3:Sl) (p0_4 p0_5 p0_6:Int) (p0_7 p0_8:Sl) (p1:Int) (h:Heap) (R:Value->Heap->Prop) (H:W154 p0_1 p0_2 p0_3 p0_4 p0_5 p0_6 p0_7 p0_8 p1 h R):Fn Pz 154 #[.agg ⟨(L2 p0_1 p0_2 p0_3 p0_4 p0_5 p0_6 p0_7 p0_8)⟩,vI p1] h R:=fnI (A:=(.s .z (.s .z (.s (.s .z (.b (.l [(28,.one (.int .i64))] (.s .z (.s .z (.s (.b (.s .z (.s .z (.s .z (.s (.s .z (.b (.l [(10,.one (.slice)),(41,.one (.int .i64))] .z))) .z))))) .z)))))) (.s (.s .z (.b (.l [(80,.one (.int .i64))] .z))) (.s (.s .z (.b (.l [(110,.one (.int .i64))] .z))) .z)))))) (by kernel_rfl) H

def W218 (p0 p1:Sl) (h:Heap) (R:Value->Heap->Prop):Prop:=
 (sB ((p0.n:Int) != (p1.n:Int))
 (R (.bool false) h)
 ((QI 0 h fun I1 x_4 h5 m3=>(
 (sB (decide (x_4<(p0.n:Int)))
 ((NB p0.a fun b6 o7=>(Ib x_4 p0.n /\
 (∃ x8 x9 x10,aL3 h5 ⟨b6,o7+Int.toNat x_4*3,none⟩ x8 x9 x10 /\
 (NB p1.a fun b11 o12=>(Ib x_4 p1.n /\
 (∃ x13 x14 x15,aL3 h5 ⟨b11,o12+Int.toNat x_4*3,none⟩ x13 x14 x15 /\
 (sB (!((x8 == x13) && ((x9 == x14) && ((x10 == x15) && true))))
 (R (.bool false) h5)
 ((∃ m16,m16<m3/\I1 (IntKind.wrap .i64 (x_4+1)) h5 m16))))))))))
 (R (.bool true) h5))))))
theorem vc218 (p0 p1:Sl) (h:Heap) (R:Value->Heap->Prop) (H:W218 p0 p1 h R):Fn Pz 218 #[vS p0,vS p1] h R:=fnI (A:=(.s .z (.s .z (.s (.s .z (.b (.l [(13,.one (.int .i64))] .z))) .z)))) (by kernel_rfl) H

def W114 (p0_1:ByteArray) (p0_2 p0_3:Sl) (p0_4 p0_5 p0_6:Int) (p0_7 p0_8:Sl) (p1:Int) (h:Heap) (R:Value->Heap->Prop):Prop:=
 (Wn h (L2 p0_1 p0_2 p0_3 p0_4 p0_5 p0_6 p0_7 p0_8) 92 fun h9=>
 (Wn h9 [vI 0,vI 0,vI 0,.slice none 0 0,.slice none 0 0,.slice none 0 0] 55 fun h10=>
 (∃ x11 x12 x13 x14 x15 x16 x17 x18,aL2 h10 (aS h 0) x11 x12 x13 x14 x15 x16 x17 x18 /\
 (Fn Pz 77 #[.agg ⟨(L2 x11 x12 x13 x14 x15 x16 x17 x18)⟩] h10
 (fun v19 h21=>∃ x20,iB v19 x20 /\
 (sB (!x20)
 ((Wp h21 (aS h9 0) 6 [vI 0,vI 0,vI 0,.slice none 0 0,.slice none 0 0,.slice none 0 0] fun h22=>
 (∃ x23 x24 x25 x26 x27 x28,aL1 h22 (aS h9 0) x23 x24 x25 x26 x27 x28 /\
 R (.tuple ⟨[.agg ⟨(L1 x23 x24 x25 x26 x27 x28)⟩,vI 1]⟩) h22)))
 ((sB (decide (p1<0))
 ((Wp h21 (aS h9 0) 6 [vI 0,vI 0,vI 0,.slice none 0 0,.slice none 0 0,.slice none 0 0] fun h29=>
 (∃ x30 x31 x32 x33 x34 x35,aL1 h29 (aS h9 0) x30 x31 x32 x33 x34 x35 /\
 R (.tuple ⟨[.agg ⟨(L1 x30 x31 x32 x33 x34 x35)⟩,vI 1]⟩) h29)))
 ((∃ x36,rS h21 (aS h 1) x36 /\
 (sB (decide (p1 >= (x36.n:Int)))
 ((Wp h21 (aS h9 0) 6 [vI 0,vI 0,vI 0,.slice none 0 0,.slice none 0 0,.slice none 0 0] fun h37=>
 (∃ x38 x39 x40 x41 x42 x43,aL1 h37 (aS h9 0) x38 x39 x40 x41 x42 x43 /\
 R (.tuple ⟨[.agg ⟨(L1 x38 x39 x40 x41 x42 x43)⟩,vI 1]⟩) h37)))
 ((∃ x44 x45 x46 x47 x48 x49 x50 x51,aL2 h21 (aS h 0) x44 x45 x46 x47 x48 x49 x50 x51 /\
 (Fn Pz 153 #[.agg ⟨(L2 x44 x45 x46 x47 x48 x49 x50 x51)⟩,vI p1] h21
 (fun v52 h57=>∃ (x53 x54 x55:Sl) (x56:Int),v52=.tuple ⟨[.agg ⟨(L8 x53 x54 x55)⟩,vI x56]⟩ /\
 (Wn h57 [.slice none 0 0,.slice none 0 0,.slice none 0 0] 216 fun h58=>
 (Wp h58 (aS h57 0) 3 (L8 x53 x54 x55) fun h59=>
 (sB (x56 != 0)
 ((Wp h59 (aS h9 0) 6 [vI 0,vI 0,vI 0,.slice none 0 0,.slice none 0 0,.slice none 0 0] fun h60=>
 (∃ x61 x62 x63 x64 x65 x66,aL1 h60 (aS h9 0) x61 x62 x63 x64 x65 x66 /\
 R (.tuple ⟨[.agg ⟨(L1 x61 x62 x63 x64 x65 x66)⟩,vI x56]⟩) h60)))
 ((∃ x67,rS h59 (aS h57 2) x67 /\
 (sB (decide ((x67.n:Int) > 400))
 ((Wp h59 (aS h9 0) 6 [vI 0,vI 0,vI 0,.slice none 0 0,.slice none 0 0,.slice none 0 0] fun h68=>
 (∃ x69 x70 x71 x72 x73 x74,aL1 h68 (aS h9 0) x69 x70 x71 x72 x73 x74 /\
 R (.tuple ⟨[.agg ⟨(L1 x69 x70 x71 x72 x73 x74)⟩,vI 6]⟩) h68)))
 ((∃ x75 x76 x77 x78 x79 x80 x81 x82,aL2 h59 (aS h 0) x75 x76 x77 x78 x79 x80 x81 x82 /\
 (Fn Pz 154 #[.agg ⟨(L2 x75 x76 x77 x78 x79 x80 x81 x82)⟩,vI p1] h59
 (fun v83 h85=>∃ x84:Option Addr,v83=.pointer x84 /\
 (∃ x86,rS h85 (aS h57 0) x86 /\
 (∃ x87,rS h85 (aS h57 1) x87 /\
 (∃ x88,rS h85 (aS h57 2) x88 /\
 (Wn h85 [vI 0,vI 0,vI 0,.slice none 0 0,.slice none 0 0,.slice none 0 0] 55 fun h89=>
 (Wp h89 (aS h85 0) 6 [vI p1,vI (x86.n:Int),vI 0,vS x87,vS x88,.slice none 0 0] fun h90=>
 (∃ x91,rS h90 (aS h57 0) x91 /\
 (QI 0 h90 fun I92 x_95 h96 m94=>(
 (sB (decide (x_95<(x91.n:Int)))
 ((NB x91.a fun b97 o98=>(Ib x_95 x91.n /\
 (∃ x99,rS h96 ⟨b97,o98+Int.toNat x_95*1,none⟩ x99 /\
 (Fn Pz 156 #[vS x99] h96
 (fun v100 h102=>∃ x101,iS v100 x101 /\
 (Fn Pz 155 #[.pointer x84,vS x101] h102
 (fun v103 h110=>∃ (x104:Bool) (x105:Int) (x106:Bool) (x107 x108:Int) (x109:Bool),v103=.tuple ⟨[.agg ⟨(L5 x104 x105 x106 x107 x108)⟩,.bool x109]⟩ /\
 (Wn h110 [.bool false,vI 0,.bool false,vI 0,vI 0] 226 fun h111=>
 (Wp h111 (aS h110 0) 5 (L5 x104 x105 x106 x107 x108) fun h112=>
 (sB (!x109)
 ((Wp h112 (aS h9 0) 6 [vI 0,vI 0,vI 0,.slice none 0 0,.slice none 0 0,.slice none 0 0] fun h113=>
 (∃ x114 x115 x116 x117 x118 x119,aL1 h113 (aS h9 0) x114 x115 x116 x117 x118 x119 /\
 R (.tuple ⟨[.agg ⟨(L1 x114 x115 x116 x117 x118 x119)⟩,vI 18]⟩) h113)))
 ((∃ x120,rS h112 (aS h85 4) x120 /\
 (QI 0 h112 fun I121 x_124 h125 m123=>(
 (sB (decide (x_124<(x120.n:Int)))
 ((∃ x126,rS h125 (aS h85 4) x126 /\
 (NB x126.a fun b127 o128=>(Ib x_124 x126.n /\
 (∃ x129,rI h125 ⟨b127,o128+Int.toNat x_124*6,none⟩ x129 /\
 (sB (x129 != x_95)
 ((∃ m130,m130<m123/\I121 (IntKind.wrap .i64 (x_124+1)) h125 m130))
 ((∃ x131,rB h125 ⟨b127,o128+Int.toNat x_124*6+1,none⟩ x131 /\
 (sB (!x131)
 ((∃ m132,m132<m123/\I121 (IntKind.wrap .i64 (x_124+1)) h125 m132))
 ((∃ x133,rB h125 (aS h110 0) x133 /\
 (Wp h125 ⟨b127,o128+Int.toNat x_124*6+5,none⟩ 1 [.bool x133] fun h134=>
 (∃ x135,rI h134 (aS h110 1) x135 /\
 (sB (decide (x135 > 0))
 ((∃ x136 x137 x138,aL3 h134 (aS h110 2) x136 x137 x138 /\
 (∃ x139,rI h134 ⟨b127,o128+Int.toNat x_124*6+2,none⟩ x139 /\
 (∃ x140,rI h134 ⟨b127,o128+Int.toNat x_124*6+3,none⟩ x140 /\
 (sB ((x136 == true) && ((x137 == x139) && ((x138 == x140) && true)))
 ((∃ x141,rS h134 (aS h85 5) x141 /\
 (∃ x142,rI h134 (aS h110 1) x142 /\
 (Wn h134 (L4 x_95 x142 x_124) 190 fun h143=>
 (App Pz 53 53 (vS x141) (.slice (some (aS h134 0)) 1 1) h143 fun s144 h145=>
 (Wp h145 (aS h85 5) 1 [vS s144] fun h146=>
 (∃ m147,m147<m123/\I121 (IntKind.wrap .i64 (x_124+1)) h146 m147)))))))
 ((∃ m148,m148<m123/\I121 (IntKind.wrap .i64 (x_124+1)) h134 m148)))))))
 ((∃ m149,m149<m123/\I121 (IntKind.wrap .i64 (x_124+1)) h134 m149))))))))))))))))
 ((∃ m150,m150<m94/\I92 (IntKind.wrap .i64 (x_95+1)) h125 m150))))))))))))))))))
 ((∃ x151 x152 x153 x154 x155 x156,aL1 h96 (aS h85 0) x151 x152 x153 x154 x155 x156 /\
 (Wp h96 (aS h9 0) 6 (L1 x151 x152 x153 x154 x155 x156) fun h157=>
 (∃ x158 x159 x160 x161 x162 x163,aL1 h157 (aS h9 0) x158 x159 x160 x161 x162 x163 /\
 R (.tuple ⟨[.agg ⟨(L1 x158 x159 x160 x161 x162 x163)⟩,vI 0]⟩) h157))))))))))))))))))))))))))))))))))))))
theorem vc114 (p0_1:ByteArray) (p0_2 p0_3:Sl) (p0_4 p0_5 p0_6:Int) (p0_7 p0_8:Sl) (p1:Int) (h:Heap) (R:Value->Heap->Prop) (H:W114 p0_1 p0_2 p0_3 p0_4 p0_5 p0_6 p0_7 p0_8 p1 h R):Fn Pz 114 #[.agg ⟨(L2 p0_1 p0_2 p0_3 p0_4 p0_5 p0_6 p0_7 p0_8)⟩,vI p1] h R:=fnI (A:=(.s .z (.s .z (.s .z (.s .z (.s .z (.s .z (.s .z (.s (.s .z (.b (.l [(61,.one (.int .i64))] (.s .z (.s .z (.s (.b (.s .z (.s .z (.s .z (.s .z (.b (.l [(79,.one (.int .i64))] .z))))))) .z)))))) .z))))))))) (by kernel_rfl) H

def W159 (p0_1:Int) (p0_2:Bool) (p0_3 p0_4 p0_5:Int) (p0_6:Bool) (p1_7:Int) (p1_8:Bool) (p1_9 p1_10 p1_11:Int) (p1_12:Bool) (h:Heap) (R:Value->Heap->Prop):Prop:=
 (Wn h (L0 p0_1 p0_2 p0_3 p0_4 p0_5 p0_6) 108 fun h13=>
 (Wn h13 (L0 p1_7 p1_8 p1_9 p1_10 p1_11 p1_12) 108 fun h14=>
 (∃ x15,rI h14 (aS h 0) x15 /\
 (∃ x16,rI h14 (aS h13 0) x16 /\
 (∃ x17 x18 x19 x20 x21 x22,aL0 h14 (aS h 0) x17 x18 x19 x20 x21 x22 /\
 (∃ x23 x24 x25 x26 x27 x28,aL0 h14 (aS h13 0) x23 x24 x25 x26 x27 x28 /\
 (∃ x29,rI h14 (aS h 2) x29 /\
 (∃ x30,rI h14 (aS h13 2) x30 /\
 (∃ x31,rI h14 (aS h 3) x31 /\
 (∃ x32,rI h14 (aS h13 3) x32 /\
 (Fn Pz 120 #[vI x15,vI x16] h14
 (fun v33 h35=>∃ x34,iI v33 x34 /\
 (Sm [(aS h13 3),(aS h 3),(aS h13 2),(aS h 2),(aS h13 0),(aS h 0)] h14 h35 /\
 (Fn Pz 223 #[.agg ⟨(L0 x17 x18 x19 x20 x21 x22)⟩] h35
 (fun v36 h38=>∃ x37,iI v36 x37 /\
 (Sm [(aS h13 3),(aS h 3),(aS h13 2),(aS h 2),(aS h13 0),(aS h13 0),(aS h 0)] h35 h38 /\
 (Fn Pz 223 #[.agg ⟨(L0 x23 x24 x25 x26 x27 x28)⟩] h38
 (fun v39 h41=>∃ x40,iI v39 x40 /\
 (Sm [(aS h13 3),(aS h 3),(aS h13 2),(aS h 2),(aS h 0),(aS h13 0),(aS h 0)] h38 h41 /\
 (Fn Pz 120 #[vI x37,vI x40] h41
 (fun v42 h44=>∃ x43,iI v42 x43 /\
 (Sm [(aS h13 3),(aS h 3),(aS h13 2),(aS h 2),(aS h13 0),(aS h 0)] h41 h44 /\
 (Fn Pz 120 #[vI x29,vI x30] h44
 (fun v45 h47=>∃ x46,iI v45 x46 /\
 (Sm [(aS h13 3),(aS h 3),(aS h13 0),(aS h 0),(aS h13 0),(aS h 0)] h44 h47 /\
 (Fn Pz 120 #[vI x31,vI x32] h47
 (fun v48 h50=>∃ x49,iI v48 x49 /\
 (Sm [(aS h13 2),(aS h 2),(aS h13 0),(aS h 0),(aS h13 0),(aS h 0)] h47 h50 /\
 (Wn h50 [vI x34,vI x43,vI x46,vI x49] 3 fun h51=>
 (Fn Pz 119 #[.slice (some (aS h50 0)) 4 4] h51
 (fun v52 h54=>∃ x53,iI v52 x53 /\
 R (vI x53) h54)))))))))))))))))))))))))))))))
theorem vc159 (p0_1:Int) (p0_2:Bool) (p0_3 p0_4 p0_5:Int) (p0_6:Bool) (p1_7:Int) (p1_8:Bool) (p1_9 p1_10 p1_11:Int) (p1_12:Bool) (h:Heap) (R:Value->Heap->Prop) (H:W159 p0_1 p0_2 p0_3 p0_4 p0_5 p0_6 p1_7 p1_8 p1_9 p1_10 p1_11 p1_12 h R):Fn Pz 159 #[.agg ⟨(L0 p0_1 p0_2 p0_3 p0_4 p0_5 p0_6)⟩,.agg ⟨(L0 p1_7 p1_8 p1_9 p1_10 p1_11 p1_12)⟩] h R:=fnI (A:=.z) (by kernel_rfl) H

def W223 (p0_1:Int) (p0_2:Bool) (p0_3 p0_4 p0_5:Int) (p0_6:Bool) (h:Heap) (R:Value->Heap->Prop):Prop:=
 (Wn h (L0 p0_1 p0_2 p0_3 p0_4 p0_5 p0_6) 108 fun h7=>
 (∃ x8,rB h7 (aS h 1) x8 /\
 (sB x8
 (R (vI 0) h7)
 (R (vI 1) h7))))
theorem vc223 (p0_1:Int) (p0_2:Bool) (p0_3 p0_4 p0_5:Int) (p0_6:Bool) (h:Heap) (R:Value->Heap->Prop) (H:W223 p0_1 p0_2 p0_3 p0_4 p0_5 p0_6 h R):Fn Pz 223 #[.agg ⟨(L0 p0_1 p0_2 p0_3 p0_4 p0_5 p0_6)⟩] h R:=fnI (A:=.z) (by kernel_rfl) H

def W220 (p0:Sl) (h:Heap) (R:Value->Heap->Prop):Prop:=
 (sB (Option.isNone p0.a)
 (R (.slice none 0 0) h)
 ((Wn h [] 108 fun h1=>
 (App Pz 52 52 (.slice (some (aS h 0)) 0 0) (vS p0) h1 fun s2 h3=>
 R (vS s2) h3))))
theorem vc220 (p0:Sl) (h:Heap) (R:Value->Heap->Prop) (H:W220 p0 h R):Fn Pz 220 #[vS p0] h R:=fnI (A:=.z) (by kernel_rfl) H

def W221 (p0_1 p0_2:Int) (p0_3:Bool) (p0_4 p0_5:Int) (p0_6:Bool) (p0_7:Int) (c0:Addr) (c1:Addr) (h:Heap) (R:Value->Heap->Prop):Prop:=
 (Wn h (L11 p0_1 p0_2 p0_3 p0_4 p0_5 p0_6 p0_7) 338 fun h8=>
 (∃ x9:Option Nat,hc h8 c0=some (.map x9) /\
 (∃ x10 x11 x12 x13 x14 x15 x16,aL11 h8 (aS h 0) x10 x11 x12 x13 x14 x15 x16 /\
 (RunW Pz (Instr.lookup 336 (.map x9) (.agg ⟨(L11 x10 x11 x12 x13 x14 x15 x16)⟩) true) h8
 (fun v17 h20=>∃ (x18:Int) (x19:Bool),v17=.tuple ⟨[vI x18,.bool x19]⟩ /\
 (sB (!x19)
 ((∃ x21:Option Nat,hc h20 c0=some (.map x21) /\
 (RunW Pz (Builtin.len_ #[336] 3 #[.map x21]) h20
 (fun v22 h24=>∃ x23,iI v22 x23 /\
 (∃ x25,rI h24 ⟨c1.block,c1.off+1,none⟩ x25 /\
 (∃ x26:Option Nat,hc h24 c0=some (.map x26) /\
 (∃ x27 x28 x29 x30 x31 x32 x33,aL11 h24 (aS h 0) x27 x28 x29 x30 x31 x32 x33 /\
 (RunW Pz (Instr.mapUpdate 336 (.map x26) (.agg ⟨(L11 x27 x28 x29 x30 x31 x32 x33)⟩) (vI (IntKind.wrap .i64 ((IntKind.wrap .i64 (x23+x25))+2)))) h24 (fun _ h34=>
 R (vI (IntKind.wrap .i64 ((IntKind.wrap .i64 (x23+x25))+2))) h34)))))))))
 (R (vI x18) h20)))))))
theorem vc221 (p0_1 p0_2:Int) (p0_3:Bool) (p0_4 p0_5:Int) (p0_6:Bool) (p0_7:Int) (c0:Addr) (c1:Addr) (h:Heap) (R:Value->Heap->Prop) (H:W221 p0_1 p0_2 p0_3 p0_4 p0_5 p0_6 p0_7 c0 c1 h R):Fn Pz 221 #[.agg ⟨(L11 p0_1 p0_2 p0_3 p0_4 p0_5 p0_6 p0_7)⟩,.pointer (some c0),.pointer (some c1)] h R:=fnI (A:=.z) (by kernel_rfl) H

def W157 (p0_1 p0_2 p0_3:Int) (p0_4 p0_5 p0_6:Sl) (h:Heap) (R:Value->Heap->Prop):Prop:=
 (Wn h (L1 p0_1 p0_2 p0_3 p0_4 p0_5 p0_6) 55 fun h7=>
 (∃ x8,rS h7 (aS h 4) x8 /\
 (Fn Pz 220 #[vS x8] h7
 (fun v9 h11=>∃ x10,iS v9 x10 /\
 (Fn Pz 158 #[vS x10,.func (.func 159) #[] #[]] h11
 (fun v12 h13=>v12=.tuple ⟨[]⟩ /\
 (∃ x14,rI h13 (aS h 1) x14 /\
 (Mk x14 x14 8/\Wn h13 (madeL Pz 3 (Int.toNat x14)) 3 fun h15=>
 (QI 0 h15 fun I16 count_19 h20 m18=>(
 (RunW Pz (Instr.makeMap 336 (none)) h20
 (fun v21 h23=>∃ x22:Option Nat,v21=.map x22 /\
 (Wn h23 [.map none] 336 fun h24=>
 (Wp h24 (aS h23 0) 1 [.map x22] fun h25=>
 (∃ x26,rI h25 (aS h 1) x26 /\
 (Mk x26 x26 8/\Wn h25 (madeL Pz 3 (Int.toNat x26)) 3 fun h27=>
 (QI 0 h27 fun I28 x_31 h32 m30=>(
 (sB (decide (x_31<((Int.toNat x26):Int)))
 (((0<=(x_31:Int)/\(x_31:Int)<((Int.toNat x14):Nat)) /\
 (∃ x33,rI h32 (aS h13 (0+Int.toNat x_31*1)) x33 /\
 (∃ x34,rS h32 (aS h 3) x34 /\
 (NB x34.a fun b35 o36=>(Ib x_31 x34.n /\
 (∃ x37,rB h32 ⟨b35,o36+Int.toNat x_31*1,none⟩ x37 /\
 (Fn Pz 221 #[.agg ⟨[vI x33,vI 0,.bool false,vI 0,vI 0,.bool x37,vI 0]⟩,.pointer (some (aS h23 0)),.pointer (some (aS h 0))] h32
 (fun v38 h40=>∃ x39,iI v38 x39 /\
 ((0<=(x_31:Int)/\(x_31:Int)<((Int.toNat x26):Nat)) /\
 (Wp h40 (aS h25 (0+Int.toNat x_31*1)) 1 [vI x39] fun h41=>
 (∃ m42,m42<m30/\I28 (IntKind.wrap .i64 (x_31+1)) h41 m42))))))))))))
 ((∃ x43,rS h32 (aS h 5) x43 /\
 (QI 0 h32 fun I44 x_47 h48 m46=>(
 (sB (decide (x_47<(x43.n:Int)))
 ((NB x43.a fun b49 o50=>(Ib x_47 x43.n /\
 (∃ x51 x52 x53,aL4 h48 ⟨b49,o50+Int.toNat x_47*3,none⟩ x51 x52 x53 /\
 (Wn h48 [vI 0,vI 0,vI 0] 190 fun h54=>
 (Wp h54 (aS h48 0) 3 (L4 x51 x52 x53) fun h55=>
 (∃ x56,rS h55 (aS h 4) x56 /\
 (∃ x57,rI h55 (aS h48 2) x57 /\
 (NB x56.a fun b58 o59=>(Ib x57 x56.n /\
 (∃ x60 x61 x62 x63 x64 x65,aL0 h55 ⟨b58,o59+Int.toNat x57*6,none⟩ x60 x61 x62 x63 x64 x65 /\
 (Wn h55 [vI 0,.bool false,vI 0,vI 0,vI 0,.bool false] 108 fun h66=>
 (Wp h66 (aS h55 0) 6 (L0 x60 x61 x62 x63 x64 x65) fun h67=>
 (∃ x68,rI h67 (aS h48 0) x68 /\
 (∃ x69,rI h67 (aS h48 0) x69 /\
 ((0<=(x69:Int)/\(x69:Int)<((Int.toNat x26):Nat)) /\
 (∃ x70,rI h67 (aS h25 (0+Int.toNat x69*1)) x70 /\
 (∃ x71,rB h67 (aS h55 1) x71 /\
 (∃ x72,rI h67 (aS h55 2) x72 /\
 (∃ x73,rI h67 (aS h55 3) x73 /\
 (∃ x74,rI h67 (aS h48 1) x74 /\
 (Fn Pz 221 #[.agg ⟨[vI x70,vI 1,.bool x71,vI x72,vI x73,.bool false,vI x74]⟩,.pointer (some (aS h23 0)),.pointer (some (aS h 0))] h67
 (fun v75 h77=>∃ x76,iI v75 x76 /\
 (Sm [(aS h48 0)] h67 h77 /\
 ((0<=(x68:Int)/\(x68:Int)<((Int.toNat x26):Nat)) /\
 (Wp h77 (aS h25 (0+Int.toNat x68*1)) 1 [vI x76] fun h78=>
 (∃ m79,m79<m46/\I44 (IntKind.wrap .i64 (x_47+1)) h78 m79)))))))))))))))))))))))))))
 ((QI 0 h48 fun I80 x_83 h84 m82=>(
 (sB (decide (x_83<(x10.n:Int)))
 ((NB x10.a fun b85 o86=>(Ib x_83 x10.n /\
 (∃ x87 x88 x89 x90 x91 x92,aL0 h84 ⟨b85,o86+Int.toNat x_83*6,none⟩ x87 x88 x89 x90 x91 x92 /\
 (Wn h84 [vI 0,.bool false,vI 0,vI 0,vI 0,.bool false] 108 fun h93=>
 (Wp h93 (aS h84 0) 6 (L0 x87 x88 x89 x90 x91 x92) fun h94=>
 (∃ x95,rI h94 (aS h84 0) x95 /\
 (∃ x96,rI h94 (aS h84 0) x96 /\
 ((0<=(x96:Int)/\(x96:Int)<((Int.toNat x26):Nat)) /\
 (∃ x97,rI h94 (aS h25 (0+Int.toNat x96*1)) x97 /\
 (∃ x98,rB h94 (aS h84 1) x98 /\
 (∃ x99,rI h94 (aS h84 2) x99 /\
 (∃ x100,rI h94 (aS h84 3) x100 /\
 (∃ x101,rB h94 (aS h84 5) x101 /\
 (∃ x102,rI h94 (aS h84 4) x102 /\
 ((0<=(x102:Int)/\(x102:Int)<((Int.toNat x14):Nat)) /\
 (∃ x103,rI h94 (aS h13 (0+Int.toNat x102*1)) x103 /\
 (Fn Pz 221 #[.agg ⟨[vI x97,vI 2,.bool x98,vI x99,vI x100,.bool x101,vI x103]⟩,.pointer (some (aS h23 0)),.pointer (some (aS h 0))] h94
 (fun v104 h106=>∃ x105,iI v104 x105 /\
 (Sm [(aS h84 0)] h94 h106 /\
 ((0<=(x95:Int)/\(x95:Int)<((Int.toNat x26):Nat)) /\
 (Wp h106 (aS h25 (0+Int.toNat x95*1)) 1 [vI x105] fun h107=>
 (∃ m108,m108<m82/\I80 (IntKind.wrap .i64 (x_83+1)) h107 m108)))))))))))))))))))))))
 ((RunW Pz (Instr.makeMap 340 (none)) h84
 (fun v109 h111=>∃ x110:Option Nat,v109=.map x110 /\
 (QI 0 h111 fun I112 x_115 h116 m114=>(
 (sB (decide (x_115<((Int.toNat x26):Int)))
 (((0<=(x_115:Int)/\(x_115:Int)<((Int.toNat x26):Nat)) /\
 (∃ x117,rI h116 (aS h25 (0+Int.toNat x_115*1)) x117 /\
 (RunW Pz (Instr.lookup 340 (.map x110) (vI x117) true) h116
 (fun v118 h121=>∃ (x119:Int) (x120:Bool),v118=.tuple ⟨[vI x119,.bool x120]⟩ /\
 (sB (!x120)
 ((RunW Pz (Builtin.len_ #[340] 3 #[.map x110]) h121
 (fun v122 h124=>∃ x123,iI v122 x123 /\
 (RunW Pz (Instr.mapUpdate 340 (.map x110) (vI x117) (vI x123)) h124 (fun _ h125=>
 (RunW Pz (Instr.lookup 340 (.map x110) (vI x117) false) h125
 (fun v126 h128=>∃ x127,iI v126 x127 /\
 ((0<=(x_115:Int)/\(x_115:Int)<((Int.toNat x14):Nat)) /\
 (Wp h128 (aS h13 (0+Int.toNat x_115*1)) 1 [vI x127] fun h129=>
 (∃ m130,m130<m114/\I112 (IntKind.wrap .i64 (x_115+1)) h129 m130))))))))))
 ((RunW Pz (Instr.lookup 340 (.map x110) (vI x117) false) h121
 (fun v131 h133=>∃ x132,iI v131 x132 /\
 ((0<=(x_115:Int)/\(x_115:Int)<((Int.toNat x14):Nat)) /\
 (Wp h133 (aS h13 (0+Int.toNat x_115*1)) 1 [vI x132] fun h134=>
 (∃ m135,m135<m114/\I112 (IntKind.wrap .i64 (x_115+1)) h134 m135))))))))))))
 ((RunW Pz (Builtin.len_ #[340] 3 #[.map x110]) h116
 (fun v136 h138=>∃ x137,iI v136 x137 /\
 (sB (x137 == count_19)
 (R (.tuple ⟨[.slice (some (aS h13 0)) (Int.toNat x14) (Int.toNat x14),vI count_19]⟩) h138)
 ((RunW Pz (Builtin.len_ #[340] 3 #[.map x110]) h138
 (fun v139 h141=>∃ x140,iI v139 x140 /\
 (∃ m142,m142<m18/\I16 x140 h141 m142))))))))))))))))))))))))))))))))))))))))))
theorem vc157 (p0_1 p0_2 p0_3:Int) (p0_4 p0_5 p0_6:Sl) (h:Heap) (R:Value->Heap->Prop) (H:W157 p0_1 p0_2 p0_3 p0_4 p0_5 p0_6 h R):Fn Pz 157 #[.agg ⟨(L1 p0_1 p0_2 p0_3 p0_4 p0_5 p0_6)⟩] h R:=fnI (A:=(.s .z (.s .z (.s .z (.s .z (.s .z (.b (.l [(6,.one (.int .i64))] (.b (.s .z (.s .z (.s .z (.s (.s .z (.b (.l [(36,.one (.int .i64))] .z))) (.s (.s .z (.b (.l [(58,.one (.int .i64))] .z))) (.s (.s .z (.b (.l [(92,.one (.int .i64))] .z))) (.s .z (.s (.s .z (.b (.l [(126,.one (.int .i64))] .z))) .z))))))))))))))))) (by kernel_rfl) H

def W115 (p0_1 p0_2 p0_3:Int) (p0_4 p0_5 p0_6:Sl) (h:Heap) (R:Value->Heap->Prop):Prop:=
 (Wn h (L1 p0_1 p0_2 p0_3 p0_4 p0_5 p0_6) 55 fun h7=>
 (Wn h7 [vI 0,vI 0,vI 0,.slice none 0 0,.slice none 0 0,.slice none 0 0] 55 fun h8=>
 (∃ x9 x10 x11 x12 x13 x14,aL1 h8 (aS h 0) x9 x10 x11 x12 x13 x14 /\
 (Fn Pz 157 #[.agg ⟨(L1 x9 x10 x11 x12 x13 x14)⟩] h8
 (fun v15 h18=>∃ (x16:Sl) (x17:Int),v15=.tuple ⟨[vS x16,vI x17]⟩ /\
 (Mk x17 x17 8/\Wn h18 (madeL Pz 3 (Int.toNat x17)) 3 fun h19=>
 (∃ x20,rI h19 (aS h 1) x20 /\
 (QI (IntKind.wrap .i64 (x20 - 1)) h19 fun I21 s_24 h25 m23=>(
 (sB (decide (s_24 >= 0))
 ((NB x16.a fun b26 o27=>(Ib s_24 x16.n /\
 (∃ x28,rI h25 ⟨b26,o27+Int.toNat s_24*1,none⟩ x28 /\
 ((0<=(x28:Int)/\(x28:Int)<((Int.toNat x17):Nat)) /\
 (Wp h25 (aS h18 (0+Int.toNat x28*1)) 1 [vI s_24] fun h29=>
 (∃ m30,m30<m23/\I21 (IntKind.wrap .i64 (s_24 - 1)) h29 m30)))))))
 ((∃ x31,rI h25 (aS h 1) x31 /\
 (Mk x31 x31 24/\Wn h25 (madeL Pz 52 (Int.toNat x31)) 52 fun h32=>
 (∃ x33,rS h32 (aS h 4) x33 /\
 (QI 0 h32 fun I34 x_37 h38 m36=>(
 (sB (decide (x_37<(x33.n:Int)))
 ((NB x33.a fun b39 o40=>(Ib x_37 x33.n /\
 (∃ x41 x42 x43 x44 x45 x46,aL0 h38 ⟨b39,o40+Int.toNat x_37*6,none⟩ x41 x42 x43 x44 x45 x46 /\
 (Wn h38 [vI 0,.bool false,vI 0,vI 0,vI 0,.bool false] 108 fun h47=>
 (Wp h47 (aS h38 0) 6 (L0 x41 x42 x43 x44 x45 x46) fun h48=>
 (∃ x49,rI h48 (aS h38 0) x49 /\
 (∃ x50,rI h48 (aS h38 0) x50 /\
 ((0<=(x50:Int)/\(x50:Int)<((Int.toNat x31):Nat)) /\
 (∃ x51,rS h48 (aS h25 (0+Int.toNat x50*1)) x51 /\
 (∃ x52 x53 x54 x55 x56 x57,aL0 h48 (aS h38 0) x52 x53 x54 x55 x56 x57 /\
 (Wn h48 (L0 x52 x53 x54 x55 x56 x57) 108 fun h58=>
 (Sm [(aS h25 (0+Int.toNat x50*1)),(aS h38 0),(aS h38 0)] h48 h58 /\
 (App Pz 52 52 (vS x51) (.slice (some (aS h48 0)) 1 1) h58 fun s59 h60=>
 (Sm [(aS h38 0)] h58 h60 /\
 ((0<=(x49:Int)/\(x49:Int)<((Int.toNat x31):Nat)) /\
 (Wp h60 (aS h25 (0+Int.toNat x49*1)) 1 [vS s59] fun h61=>
 (∃ m62,m62<m36/\I34 (IntKind.wrap .i64 (x_37+1)) h61 m62))))))))))))))))))
 ((RunW Pz (Instr.makeMap 234 (none)) h38
 (fun v63 h65=>∃ x64:Option Nat,v63=.map x64 /\
 (∃ x66,rS h65 (aS h 5) x66 /\
 (QI 0 h65 fun I67 x_70 h71 m69=>(
 (sB (decide (x_70<(x66.n:Int)))
 ((NB x66.a fun b72 o73=>(Ib x_70 x66.n /\
 (∃ x74 x75 x76,aL4 h71 ⟨b72,o73+Int.toNat x_70*3,none⟩ x74 x75 x76 /\
 (Wn h71 [vI 0,vI 0,vI 0] 190 fun h77=>
 (Wp h77 (aS h71 0) 3 (L4 x74 x75 x76) fun h78=>
 (∃ x79,rI h78 (aS h71 0) x79 /\
 (∃ x80 x81 x82,aL4 h78 (aS h71 0) x80 x81 x82 /\
 (RunW Pz (Instr.mapUpdate 234 (.map x64) (vI x79) (.agg ⟨(L4 x80 x81 x82)⟩)) h78 (fun _ h83=>
 (∃ m84,m84<m69/\I67 (IntKind.wrap .i64 (x_70+1)) h83 m84)))))))))))
 ((Mk x17 x17 8/\Wn h71 (madeL Pz 3 (Int.toNat x17)) 3 fun h85=>
 (QI 0 h85 fun I86 x_89 h90 m88=>(
 (sB (decide (x_89<((Int.toNat x17):Int)))
 (((0<=(x_89:Int)/\(x_89:Int)<((Int.toNat x17):Nat)) /\
 (Wp h90 (aS h71 (0+Int.toNat x_89*1)) 1 [vI (-1)] fun h91=>
 (∃ m92,m92<m88/\I86 (IntKind.wrap .i64 (x_89+1)) h91 m92))))
 ((∃ x93,rI h90 (aS h 2) x93 /\
 (NB x16.a fun b94 o95=>(Ib x93 x16.n /\
 (∃ x96,rI h90 ⟨b94,o95+Int.toNat x93*1,none⟩ x96 /\
 (Wn h90 [vI x96] 3 fun h97=>
 (Ib 0 1 /\
 (∃ x98,rI h97 (aS h90 (0+Int.toNat 0*1)) x98 /\
 ((0<=(x98:Int)/\(x98:Int)<((Int.toNat x17):Nat)) /\
 (Wp h97 (aS h71 (0+Int.toNat x98*1)) 1 [vI 0] fun h99=>
 (∃ x100,rI h99 (aS h 0) x100 /\
 (Wn h99 [vI 0,vI 0,vI 0,.slice none 0 0,.slice none 0 0,.slice none 0 0] 55 fun h101=>
 (Wp h101 (aS h99 0) 6 [vI x100,vI 0,vI 0,.slice none 0 0,.slice none 0 0,.slice none 0 0] fun h102=>
 (QSI ⟨(some (aS h90 0)),1,1⟩ 0 h102 fun I103 queue_106 head_107 h108 m105=>(
 (sB (decide (head_107<(queue_106.n:Int)))
 ((NB queue_106.a fun b109 o110=>(Ib head_107 queue_106.n /\
 (∃ x111,rI h108 ⟨b109,o110+Int.toNat head_107*1,none⟩ x111 /\
 ((0<=(x111:Int)/\(x111:Int)<((Int.toNat x17):Nat)) /\
 (∃ x112,rI h108 (aS h18 (0+Int.toNat x111*1)) x112 /\
 (∃ x113,rS h108 (aS h99 3) x113 /\
 (∃ x114,rS h108 (aS h 3) x114 /\
 (NB x114.a fun b115 o116=>(Ib x112 x114.n /\
 (∃ x117,rB h108 ⟨b115,o116+Int.toNat x112*1,none⟩ x117 /\
 (Wn h108 [.bool x117] 4 fun h118=>
 (Sm [(aS h99 3)] h108 h118 /\
 (App Pz 51 51 (vS x113) (.slice (some (aS h108 0)) 1 1) h118 fun s119 h120=>
 (Wp h120 (aS h99 3) 1 [vS s119] fun h121=>
 ((0<=(x112:Int)/\(x112:Int)<((Int.toNat x31):Nat)) /\
 (∃ x122,rS h121 (aS h25 (0+Int.toNat x112*1)) x122 /\
 (Fn Pz 158 #[vS x122,.func (.func 159) #[] #[]] h121
 (fun v123 h124=>v123=.tuple ⟨[]⟩ /\
 (RunW Pz (Instr.lookup 234 (.map x64) (vI x112) true) h124
 (fun v125 h130=>∃ (x126 x127 x128:Int) (x129:Bool),v125=.tuple ⟨[.agg ⟨(L4 x126 x127 x128)⟩,.bool x129]⟩ /\
 (Wn h130 [vI 0,vI 0,vI 0] 190 fun h131=>
 (Wp h131 (aS h130 0) 3 (L4 x126 x127 x128) fun h132=>
 ((0<=(x112:Int)/\(x112:Int)<((Int.toNat x31):Nat)) /\
 (∃ x133,rS h132 (aS h25 (0+Int.toNat x112*1)) x133 /\
 (QSI queue_106 0 h132 fun I134 queue_137 x_138 h139 m136=>(
 (sB (decide (x_138<(x133.n:Int)))
 ((NB x133.a fun b140 o141=>(Ib x_138 x133.n /\
 (∃ x142 x143 x144 x145 x146 x147,aL0 h139 ⟨b140,o141+Int.toNat x_138*6,none⟩ x142 x143 x144 x145 x146 x147 /\
 (Wn h139 [vI 0,.bool false,vI 0,vI 0,vI 0,.bool false] 108 fun h148=>
 (Wp h148 (aS h139 0) 6 (L0 x142 x143 x144 x145 x146 x147) fun h149=>
 (∃ x150,rI h149 (aS h139 4) x150 /\
 (NB x16.a fun b151 o152=>(Ib x150 x16.n /\
 (∃ x153,rI h149 ⟨b151,o152+Int.toNat x150*1,none⟩ x153 /\
 (∃ J154:Sl->Heap->Prop,
 (((0<=(x153:Int)/\(x153:Int)<((Int.toNat x17):Nat)) /\
 (∃ x155,rI h149 (aS h71 (0+Int.toNat x153*1)) x155 /\
 (sB (decide (x155<0))
 (((0<=(x153:Int)/\(x153:Int)<((Int.toNat x17):Nat)) /\
 (Wp h149 (aS h71 (0+Int.toNat x153*1)) 1 [vI (queue_137.n:Int)] fun h156=>
 (Wn h156 [vI x153] 3 fun h157=>
 (App Pz 23 23 (vS queue_137) (.slice (some (aS h156 0)) 1 1) h157 fun s158 h159=>
 (J154 s158 h159))))))
 ((J154 queue_137 h149)))))) /\
 (∀ (_:Env) (queue_160:Sl) (h161:Heap),J154 queue_160 h161 ->
 (∃ x162,rS h161 (aS h 4) x162 /\
 (∃ x163,rI h161 (aS h130 2) x163 /\
 (NB x162.a fun b164 o165=>((0<=((imax x163 0):Int)/\((imax x163 0):Int)<(x162.n:Nat)) /\
 (∃ x166 x167 x168 x169 x170 x171,aL0 h161 ⟨b164,o165+Int.toNat (imax x163 0)*6,none⟩ x166 x167 x168 x169 x170 x171 /\
 (Wn h161 [vI 0,.bool false,vI 0,vI 0,vI 0,.bool false] 108 fun h172=>
 (Wp h172 (aS h161 0) 6 (L0 x166 x167 x168 x169 x170 x171) fun h173=>
 (∃ J174:Heap->Prop,
 ((sB x129
 ((∃ x175,rB h173 (aS h139 1) x175 /\
 (∃ x176,rB h173 (aS h161 1) x176 /\
 (sB (x175 == x176)
 ((∃ x177,rI h173 (aS h139 2) x177 /\
 (∃ x178,rI h173 (aS h161 2) x178 /\
 (sB (x177 == x178)
 ((∃ x179,rI h173 (aS h139 3) x179 /\
 (∃ x180,rI h173 (aS h161 3) x180 /\
 (sB (x179 == x180)
 ((∃ x181,rS h173 (aS h99 5) x181 /\
 (∃ x182,rI h173 (aS h130 1) x182 /\
 (∃ x183,rS h173 (aS h99 4) x183 /\
 (Wn h173 [vI head_107,vI x182,vI (x183.n:Int)] 190 fun h184=>
 (App Pz 53 53 (vS x181) (.slice (some (aS h173 0)) 1 1) h184 fun s185 h186=>
 (Wp h186 (aS h99 5) 1 [vS s185] fun h187=>
 (J174 h187))))))))
 ((J174 h173))))))
 ((J174 h173))))))
 ((J174 h173))))))
 ((J174 h173)))) /\
 (∀ (_:Env) (h188:Heap),J174 h188 ->
 ((0<=(x153:Int)/\(x153:Int)<((Int.toNat x17):Nat)) /\
 (∃ x189,rI h188 (aS h71 (0+Int.toNat x153*1)) x189 /\
 (Wp h188 (aS h139 0) 1 [vI head_107] fun h190=>
 (Sm [(aS h71 (0+Int.toNat x153*1))] h188 h190 /\
 (Wp h190 (aS h139 4) 1 [vI x189] fun h191=>
 (∃ x192,rS h191 (aS h99 4) x192 /\
 (∃ x193 x194 x195 x196 x197 x198,aL0 h191 (aS h139 0) x193 x194 x195 x196 x197 x198 /\
 (Wn h191 (L0 x193 x194 x195 x196 x197 x198) 108 fun h199=>
 (App Pz 52 52 (vS x192) (.slice (some (aS h191 0)) 1 1) h199 fun s200 h201=>
 (Wp h201 (aS h99 4) 1 [vS s200] fun h202=>
 (∃ m203,m203<m136/\I134 queue_160 (IntKind.wrap .i64 (x_138+1)) h202 m203))))))))))))))))))))))))))))))))
 ((∃ m204,m204<m105/\I103 queue_137 (IntKind.wrap .i64 (head_107+1)) h139 m204))))))))))))))))))))))))))))))
 ((Wp h108 (aS h99 1) 1 [vI (queue_106.n:Int)] fun h205=>
 (∃ x206 x207 x208 x209 x210 x211,aL1 h205 (aS h99 0) x206 x207 x208 x209 x210 x211 /\
 (Wp h205 (aS h7 0) 6 (L1 x206 x207 x208 x209 x210 x211) fun h212=>
 (∃ x213 x214 x215 x216 x217 x218,aL1 h212 (aS h7 0) x213 x214 x215 x216 x217 x218 /\
 R (.agg ⟨(L1 x213 x214 x215 x216 x217 x218)⟩) h212))))))))))))))))))))))))))))))))))))))))))))))))))
theorem vc115 (p0_1 p0_2 p0_3:Int) (p0_4 p0_5 p0_6:Sl) (h:Heap) (R:Value->Heap->Prop) (H:W115 p0_1 p0_2 p0_3 p0_4 p0_5 p0_6 h R):Fn Pz 115 #[.agg ⟨(L1 p0_1 p0_2 p0_3 p0_4 p0_5 p0_6)⟩] h R:=fnI (A:=(.s .z (.s .z (.s .z (.s (.s .z (.b (.l [(6,.one (.int .i64))] .z))) (.s .z (.s (.s .z (.b (.l [(52,.one (.int .i64))] .z))) (.s .z (.s (.s .z (.b (.l [(73,.one (.int .i64))] .z))) (.s .z (.s (.s .z (.b (.l [(86,.one (.int .i64))] .z))) (.s .z (.s .z (.s .z (.s (.s .z (.b (.l [(15,.one (.slice)),(17,.one (.int .i64))] (.s .z (.s (.b (.s .z (.s .z (.s .z (.s .z (.s .z (.b (.l [(15,.one (.slice)),(146,.one (.int .i64))] (.s .z (.s .z (.s (.b (.s .z (.s .z (.j [(15,.one (.slice))] .z (.s .z (.j [] .z .z)))))) .z))))))))))) .z))))) .z))))))))))))))) (by kernel_rfl) H

def W78 (p0_1:ByteArray) (p0_2 p0_3:Sl) (p0_4 p0_5 p0_6:Int) (p0_7 p0_8:Sl) (p1:Int) (h:Heap) (R:Value->Heap->Prop):Prop:=
 (Wn h (L2 p0_1 p0_2 p0_3 p0_4 p0_5 p0_6 p0_7 p0_8) 92 fun h9=>
 (Wn h9 [vI 0,vI 0,vI 0,.slice none 0 0,.slice none 0 0,.slice none 0 0] 55 fun h10=>
 (∃ x11 x12 x13 x14 x15 x16 x17 x18,aL2 h10 (aS h 0) x11 x12 x13 x14 x15 x16 x17 x18 /\
 (Fn Pz 114 #[.agg ⟨(L2 x11 x12 x13 x14 x15 x16 x17 x18)⟩,vI p1] h10
 (fun v19 h27=>∃ (x20 x21 x22:Int) (x23 x24 x25:Sl) (x26:Int),v19=.tuple ⟨[.agg ⟨(L1 x20 x21 x22 x23 x24 x25)⟩,vI x26]⟩ /\
 (Wn h27 [vI 0,vI 0,vI 0,.slice none 0 0,.slice none 0 0,.slice none 0 0] 55 fun h28=>
 (Wp h28 (aS h27 0) 6 (L1 x20 x21 x22 x23 x24 x25) fun h29=>
 (sB (x26 != 0)
 ((Wp h29 (aS h9 0) 6 [vI 0,vI 0,vI 0,.slice none 0 0,.slice none 0 0,.slice none 0 0] fun h30=>
 (∃ x31 x32 x33 x34 x35 x36,aL1 h30 (aS h9 0) x31 x32 x33 x34 x35 x36 /\
 R (.tuple ⟨[.agg ⟨(L1 x31 x32 x33 x34 x35 x36)⟩,vI x26]⟩) h30)))
 ((∃ x37 x38 x39 x40 x41 x42,aL1 h29 (aS h27 0) x37 x38 x39 x40 x41 x42 /\
 (Fn Pz 115 #[.agg ⟨(L1 x37 x38 x39 x40 x41 x42)⟩] h29
 (fun v43 h50=>∃ (x44 x45 x46:Int) (x47 x48 x49:Sl),v43=.agg ⟨(L1 x44 x45 x46 x47 x48 x49)⟩ /\
 (Wp h50 (aS h9 0) 6 (L1 x44 x45 x46 x47 x48 x49) fun h51=>
 (∃ x52 x53 x54 x55 x56 x57,aL1 h51 (aS h9 0) x52 x53 x54 x55 x56 x57 /\
 R (.tuple ⟨[.agg ⟨(L1 x52 x53 x54 x55 x56 x57)⟩,vI 0]⟩) h51))))))))))))))
theorem vc78 (p0_1:ByteArray) (p0_2 p0_3:Sl) (p0_4 p0_5 p0_6:Int) (p0_7 p0_8:Sl) (p1:Int) (h:Heap) (R:Value->Heap->Prop) (H:W78 p0_1 p0_2 p0_3 p0_4 p0_5 p0_6 p0_7 p0_8 p1 h R):Fn Pz 78 #[.agg ⟨(L2 p0_1 p0_2 p0_3 p0_4 p0_5 p0_6 p0_7 p0_8)⟩,vI p1] h R:=fnI (A:=.z) (by kernel_rfl) H

end Go.VC
end

section
/- Contracts: equal lists of events; what a role has to know. -/
namespace Go.VC
open Go.Proofs Go.LexS

theorem ev_eqb (x y:Ev):(((x.send == y.send) && ((x.peer == y.peer) && ((x.label == y.label) && true))):Bool)=decide (x=y):=by
 cases x; cases y
 simp [Bool.beq_eq_decide_eq,<- Bool.decide_and]
theorem equal89 (L M:List Ev) (a b:Sl) (h:Heap) (ha:Rw h 3 a (L.map Ev.cs)) (hb:Rw h 3 b (M.map Ev.cs)) (hm:L.length<=1048576) :
  Fn Pz 218 #[.slice a.a a.n a.c,.slice b.a b.n b.c] h fun v h'=>v=.bool (decide (L=M))/\h'=h:=by
 apply vc218; unfold W218
 have hn:=ha.ln
 have hn2:=hb.ln
 refine sBn (fun c1=>⟨dF fun e=>c1 (by rw [hn,hn2,e]),rfl⟩) (fun c1=>?_)
 refine up_loop (n:=a.n) (fun i h'=>h'=h/\L.take i=M.take i) ⟨rfl,rfl⟩ ?_
 rintro - i h5 hi ⟨rfl,hd⟩
 refine sB_intro (fun l=>?_) (fun l=>?_)
 ·
  replace l:=lt_t l
  refine ha.nbI (by omega) (by omega) fun b6 o7 x g6 t6=>?_
  replace g6:L[i]?=some x:=g6
  refine ⟨_,_,_,t6,?_⟩
  refine hb.nbI (by omega) (by omega) fun b11 o12 y g11 t11=>?_
  replace g11:M[i]?=some y:=g11
  refine ⟨_,_,_,t11,?_⟩
  rw [ev_eqb]
  refine sB_intro (fun c2=>?_) (fun c2=>?_)
  ·
   have hne:x ≠ y:=by simpa using c2
   refine ⟨dF fun e=>hne ?_,rfl⟩
   subst e; rw [g6] at g11; exact Yyp g11
  ·
   have he:x=y:=by simpa using c2
   refine Up.next l (by omega) ⟨rfl,?_⟩
   rw [take_snoc g6,take_snoc g11,hd,he]
 ·
  replace l:=lt_f l
  refine ⟨dT ?_,rfl⟩
  rwa [Yj (by omega),Yj (by omega)] at hd
structure PrI (h:Heap) (p:Addr) (n:Nat) (F:Nat->List Ev) (en:Nat->Bool) (O:List Bool) (T:List Ti):Prop where
 ex:∃ (sf se so st:Sl) (fs:Nat->Sl),atC h p [.slice sf.a sf.n sf.c,.slice se.a se.n se.c,.slice so.a so.n so.c,.slice st.a st.n st.c] /\
  Rw h 1 sf ((List.range n).map fun i=>slC (fs i))/\(∀ i,i<n->Rw h 3 (fs i) ((F i).map Ev.cs))/\Rw h 1 se ((List.range n).map fun i=>bC (en i))/\Rw h 1 so (O.map bC)/\Rw h 5 st (T.map Ti.cs)/\O.length=n/\T.length=n
theorem made4b (n:Nat):madeL Pz 4 n=((List.replicate n false).map bC).flatten:=by
 have e:zeroC Pz 4=[.bool false]:=by kernel_rfl
 unfold madeL; rw [e,List.map_replicate]; rfl
theorem made93 (n:Nat):madeL Pz 226 n=((List.replicate n ti0).map Ti.cs).flatten:=by
 have e:zeroC Pz 226=Ti.cs ti0:=by kernel_rfl
 unfold madeL; rw [e,List.map_replicate]
theorem app159:appB Pz 332 224 3 24=true:=by kernel_rfl
theorem app154:appB Pz 327 332 1 24=true:=by kernel_rfl
def prL0 (ps gb:Nat) (g:Gl) (sf se so st:Sl) (Q:List Sl) (B:List Bool) (O:List Bool) (T:List Ti):List It:=
 [.blk ps [.slice sf.a sf.n sf.c,.slice se.a se.n se.c,.slice so.a so.n so.c,.slice st.a st.n st.c] 329,.sl sf 332 1 (Q.map slC),.sl se 4 1 (B.map bC),.sl so 4 1 (O.map bC),.sl st 226 5 (T.map Ti.cs),.blk gb g.cs 92]
def prL (ps gb:Nat) (g:Gl) (sf se so st:Sl) (Q:List (Sl × List Ev)) (B:List Bool) (O:List Bool) (T:List Ti):List It:=
 prL0 ps gb g sf se so st (Q.map Prod.fst) B O T++Q.map (nest 224 3 Ev.cs)
theorem prL_fin {h h':Heap} {ps gb:Nat} {g:Gl} {sf se so st:Sl} {Q:List (Sl × List Ev)} {n:Nat} {F:Nat->List Ev} {en:Nat->Bool} {O:List Bool} {T:List Ti} (hs:St h h' (prL ps gb g sf se so st Q ((List.range n).map en) O T)) (hQ:Q.map Prod.snd=(List.range n).map F) (hO:O.length=n) (hT:T.length=n):PrI h' ⟨ps,0,none⟩ n F en O T:=by
 have hQl:Q.length=n:=by have:=congrArg List.length hQ; simpa using this
 have hget:∀ i,i<n->∃ q,Q[i]?=some (q,F i):=fun i hi=>by
  obtain ⟨q,hq⟩:=get_some (l:=Q) (i:=i) (by omega)
  have:=congrArg (·[i]?) hQ
  simp only [Yd,hq,Yyb hi,Option.map_some,Option.some.injEq] at this
  exact ⟨q.1,by rw [hq,<- this]⟩
 refine ⟨sf,se,so,st,fun i=>((Q[i]?).map Prod.fst).getD ⟨none,0,0⟩,hs.at 0 rfl (n:=4) rfl,?_,fun i hi=>?_,?_,hs.rw 3 rfl (by omega),hs.rw 4 rfl (by omega),hO,hT⟩
 ·
  have h1:=hs.rw 1 (s:=sf) (e:=332) (n:=1) (rows:=(Q.map Prod.fst).map slC) rfl (by omega)
  have e:(Q.map Prod.fst).map slC=(List.range n).map fun i=>slC (((Q[i]?).map Prod.fst).getD ⟨none,0,0⟩):=by
   apply Yyr
   intro i
   rw [Yd,Yd,Yd]
   by_cases hi:i<n
   ·
    obtain ⟨q,hq⟩:=hget i hi
    rw [hq,Yyb hi,Option.map_some,Option.map_some,Option.map_some,hq]; rfl
   ·
    rw [Yl (by omega),Yl (by rw [Yyd]; omega)]; rfl
  rwa [e] at h1
 ·
  obtain ⟨q,hq⟩:=hget i hi
  show Rw h' 3 ((Option.map Prod.fst Q[i]?).getD ⟨none,0,0⟩) _
  rw [hq]
  have hm:nest 224 3 Ev.cs (q,F i) ∈ prL ps gb g sf se so st Q ((List.range n).map en) O T:=by
   unfold prL
   rw [Yk]; right
   exact Yp.2 ⟨_,Yb hq,rfl⟩
  have:=(hs.ok _ hm).1
  exact this.1.rw this.2 (by omega)
 ·
  have h1:=hs.rw 2 (s:=se) (e:=4) (n:=1) (rows:=((List.range n).map en).map bC) rfl (by omega)
  rw [List.map_map] at h1
  exact h1
theorem arows (role:Int) (L:List Ev):∀ r ∈ L.map (aC role),r.length=5:=fun r hr=>by obtain ⟨x,_,rfl⟩:=Yp.1 hr; rfl
theorem brows (L:List Bool):∀ r ∈ L.map bC,r.length=1:=fun r hr=>by obtain ⟨x,_,rfl⟩:=Yp.1 hr; rfl
theorem tirows (L:List Ti):∀ r ∈ L.map Ti.cs,r.length=5:=fun r hr=>by obtain ⟨x,_,rfl⟩:=Yp.1 hr; rfl
set_option maxHeartbeats 4000000 in
theorem prepare40 (g:Gl) (role:Int) (h:Heap) (hg:GI h g) (hx:Gx h) (hV:ValidS g) (hr0:0<=role) (hr1:role<g.rs.length) :
  Fn Pz 154 #[g.v,.int .i64 role] h fun v h'=>Ext h h'/\∃ (ps gb:Nat) (sf se so st:Sl) (Q:List (Sl × List Ev)),v=.pointer (some ⟨ps,0,none⟩)/\St h h' (prL ps gb g sf se so st Q ((List.range g.n.toNat).map fun j:Nat=>firstB g role j) (ownE g.es role g.n.toNat).1 (ownT g.es g.ts role g.n.toNat))/\Q.map Prod.snd=(List.range g.n.toNat).map fun j:Nat=>firstE g role j:=by
 apply vc154 (bs g.nm) g.hr g.hd g.n g.s g.e g.he g.ht; unfold W154
 have hs:=St.refl h
 have hN:=hV.num.n
 have hM:=hV.num.m
 have hmx:g.n.toNat<=maxLen:=by simp only [maxLen]; omega
 refine hs.newb fun h9 hs=>?_
 refine ⟨_,hs.rd 0 rfl rfl,_,hs.rd 0 rfl rfl,?_⟩
 rw [made4b,made93]
 refine ⟨?_,?_⟩
 ·
  refine ⟨by omega,?_⟩
  refine hs.newbE fun h12 E12 hs=>⟨E12.sm,?_⟩
  have hs:=hs.blkS g.n.toNat 1 _ rfl (brows _) (by rw [Yc,Yg]) hmx
  refine ⟨by omega,?_⟩
  refine hs.newbE fun h13 E13 hs=>⟨E13.sm,?_⟩
  have hs:=hs.blkS g.n.toNat 5 _ rfl (tirows _) (by rw [Yc,Yg]) hmx
  have hsz:h.size<=h13.size:=hs.ext.1
  refine hs.newb fun h14 hs=>?_
  have hs:St h h14 (prL h13.size h.size g ⟨none,0,0⟩ ⟨none,0,0⟩ ⟨some ⟨h9.size,0,none⟩,g.n.toNat,g.n.toNat⟩ ⟨some ⟨h12.size,0,none⟩,g.n.toNat,g.n.toNat⟩ [] [] (List.replicate g.n.toNat false) (List.replicate g.n.toNat ti0)):=
   ((hs.nil_ 4 1).nil_ 332 1).perm (((List.perm_append_comm (l₁:=[_,_]) (l₂:=[_])).append_right _).trans (List.Perm.cons _ (List.Perm.cons _ (List.Perm.cons _ (List.Perm.swap _ _ _)))))
  generalize (⟨some ⟨h9.size,0,none⟩,g.n.toNat,g.n.toNat⟩:Sl)=so at hs
  generalize (⟨some ⟨h12.size,0,none⟩,g.n.toNat,g.n.toNat⟩:Sl)=st at hs
  refine ⟨_,hs.rd 5 rfl rfl,?_⟩
  refine ⟨fun x h' m=>∃ (i:Nat) (sf se:Sl) (Q:List (Sl × List Ev)),x=i/\m=g.n.toNat - i/\i<=g.n.toNat/\St h h' (prL h13.size h.size g sf se so st Q ((List.range i).map fun j:Nat=>firstB g role j) (List.replicate g.n.toNat false) (List.replicate g.n.toNat ti0))/\Q.map Prod.snd=(List.range i).map fun j:Nat=>firstE g role j,⟨_,0,_,_,[],rfl,rfl,by omega,hs,rfl⟩,?_⟩
  rintro - _ h20 m ⟨i,sf,se,Q,rfl,rfl,hi,hs,hQ⟩
  have hQl:Q.length=i:=by have:=congrArg List.length hQ; simpa using this
  have hsfl:=hs.len 1 (s:=sf) (e:=332) (n:=1) rfl (by omega)
  have hsel:=hs.len 2 (s:=se) (e:=4) (n:=1) rfl (by omega)
  rw [Yc,Yc] at hsfl
  rw [Yc,Yc,Yyd] at hsel
  refine sBi (fun c1=>?_) (fun c1=>?_)
  ·
   refine ⟨_,_,_,_,_,_,_,_,hs.at 5 rfl (n:=8) rfl,?_⟩
   refine (first88 g role i h20 (hg.ext hs.ext) (hx.ext hs.ext) hV hr0 hr1 (by omega) (by omega)).mono ?_
   rintro _ h33 ⟨E33,x30,rfl,ho30⟩
   replace hs:=hs.gift E33 ho30 (arows role _)
   refine ⟨x30,_,_,rfl,?_⟩
   have hlen:=(hs.rows 0 (cs:=aC role) rfl (by omega)).ln
   have hev:(firstE g role i).length<=400:=evs_len hV
   generalize hL:firstE g role i=L at *
   have hs:=hs.nil_ 224 3
   refine up_loopA (n:=x30.n) hs (fun i rows=>rows=(L.take i).map Ev.cs) rfl ?_
   clear hs
   rintro - j out h39 rows hj hs rfl
   have holn:=(hs.rows 0 (cs:=Ev.cs) rfl (by omega)).ln
   rw [Yu] at holn
   refine sB_intro (fun l2=>?_) (fun l2=>?_)
   ·
    replace l2:=lt_t l2
    refine (hs.rows 1 (cs:=aC role) rfl (by omega)).nbI (by omega) (by omega) fun b40 o41 y g40 t40=>?_
    replace g40:L[j]?=some y:=g40
    refine ⟨_,_,_,_,⟨none,0,0⟩,t40,?_⟩
    refine hs.newput (vs:=aC role y) rfl rfl fun h48 hs=>?_
    refine ⟨_,hs.rd 0 rfl rfl,?_⟩
    refine ⟨_,hs.rd 0 rfl rfl,?_⟩
    refine ⟨_,hs.rd 0 rfl rfl,?_⟩
    refine hs.app 1 rfl app159 (m:=1) [Ev.cs y] rfl rfl (fun r hr=>by rw [Ye] at hr; rw [hr]; rfl) rfl (by omega) (by simp only [maxLen]; omega) fun s53 h54 ns hs=>?_
    refine UpA.next l2 (by omega) ⟨_,hs.drop 1,?_⟩
    rw [take_snoc g40,Ym]; rfl
   ·
    replace l2:=lt_f l2
    rw [Yj (by omega)] at hs
    replace hs:=hs.eras 1
    refine ⟨sf,hs.rd 1 rfl rfl,se,hs.rd 1 rfl rfl,?_⟩
    have fin:∀ {h':Heap} {sf' se':Sl},St h h' (.sl out 224 3 (L.map Ev.cs)::prL0 h13.size h.size g sf' se' so st (Q.map Prod.fst++[out]) (((List.range i).map fun j:Nat=>firstB g role j)++[firstB g role i]) (List.replicate g.n.toNat false) (List.replicate g.n.toNat ti0)++Q.map (nest 224 3 Ev.cs)) ->
      ∃ m,m<g.n.toNat - i/\∃ (i2:Nat) (sf se:Sl) (Q:List (Sl × List Ev)),IntKind.wrap .i64 ((i:Int)+1)=i2/\m=g.n.toNat - i2/\i2<=g.n.toNat/\St h h' (prL h13.size h.size g sf se so st Q ((List.range i2).map fun j:Nat=>firstB g role j) (List.replicate g.n.toNat false) (List.replicate g.n.toNat ti0))/\Q.map Prod.snd=(List.range i2).map fun j:Nat=>firstE g role j:=by
     intro h' sf' se' h1
     refine ⟨_,by omega,i+1,sf',se',Q++[(out,L)],by rw [w64 (by omega) (by omega)]; omega,rfl,by omega,?_,?_⟩
     ·
      have e1:(List.range (i+1)).map (fun j:Nat=>firstB g role j)=((List.range i).map fun j:Nat=>firstB g role j)++[firstB g role i]:=by rw [List.range_succ,Ym]; rfl
      unfold prL
      rw [e1,Ym (f:=Prod.fst),Ym (f:=nest 224 3 Ev.cs),<- Yz]
      refine h1.perm ?_
      exact (List.perm_append_singleton _ _).symm
     ·
      rw [Ym,hQ,List.range_succ,Ym,<- hL]; rfl
    have hrow1:∀ r ∈ [slC out],r.length=1:=fun r hr=>by rw [Ye] at hr; rw [hr]; rfl
    have hrow2:∀ r ∈ [bC (firstB g role i)],r.length=1:=fun r hr=>by rw [Ye] at hr; rw [hr]; rfl
    have fin2:∀ {h':Heap} {sf' se':Sl} {a b:It},St h h' (a::b :: .sl out 224 3 (L.map Ev.cs) :: .blk h13.size [.slice sf'.a sf'.n sf'.c,.slice se'.a se'.n se'.c,.slice so.a so.n so.c,.slice st.a st.n st.c] 329 :: .sl sf' 332 1 ((Q.map Prod.fst).map slC++[slC out]) :: .sl se' 4 1 (((List.range i).map fun j:Nat=>firstB g role j).map bC++[bC (firstB g role i)]) :: .sl so 4 1 ((List.replicate g.n.toNat false).map bC) :: .sl st 226 5 ((List.replicate g.n.toNat ti0).map Ti.cs) :: .blk h.size g.cs 92::Q.map (nest 224 3 Ev.cs)) ->
      ∃ m,m<g.n.toNat - i/\∃ (i2:Nat) (sf se:Sl) (Q:List (Sl × List Ev)),IntKind.wrap .i64 ((i:Int)+1)=i2/\m=g.n.toNat - i2/\i2<=g.n.toNat/\St h h' (prL h13.size h.size g sf se so st Q ((List.range i2).map fun j:Nat=>firstB g role j) (List.replicate g.n.toNat false) (List.replicate g.n.toNat ti0))/\Q.map Prod.snd=(List.range i2).map fun j:Nat=>firstE g role j:=by
     intro h' sf' se' a b h1
     refine fin (sf':=sf') (se':=se') ?_
     unfold prL0
     rw [Ym (f:=slC),Ym (f:=bC)]
     exact h1.drop 2
    refine ⟨?_,?_⟩
    ·
     refine hs.newbE fun h58 E58 hs=>⟨E58.sm,?_⟩
     refine ⟨?_,?_⟩
     ·
      refine hs.appended 3 (rows:=(Q.map Prod.fst).map slC) rfl app154 (m:=1) (news:=[slC out]) (hs.at 0 rfl (n:=1) rfl) rfl hrow1 rfl (by omega) (by simp only [maxLen]; omega) fun s59 h60 n59 hs60=>?_
      refine ⟨sm_cons (hs.same hs60 2 2 rfl rfl) sm_nil,?_⟩
      clear hs
      refine hs60.newbE fun h61 E61 hs=>⟨E61.sm,?_⟩
      refine hs.appended 5 (rows:=((List.range i).map fun j:Nat=>firstB g role j).map bC) rfl app30 (m:=1) (news:=[bC (firstB g role i)]) (hs.at 0 rfl (n:=1) rfl) rfl hrow2 rfl (by omega) (by simp only [maxLen]; omega) fun s62 h63 n62 hs63=>?_
      refine ⟨sm_cons (hs.same hs63 3 3 rfl rfl) sm_nil,?_⟩
      refine hs63.put 3 rfl (o:=0) (vs:=[.slice s59.a s59.n s59.c]) rfl (show 1<=4 by decide) fun h64 hs=>?_
      refine hs.put 3 rfl (o:=1) (vs:=[.slice s62.a s62.n s62.c]) rfl (show 2<=4 by decide) fun h65 hs=>?_
      exact fin2 hs
     ·
      refine hs.newbE fun h67 E67 hs=>⟨E67.sm,?_⟩
      refine hs.appended 4 (rows:=(Q.map Prod.fst).map slC) rfl app154 (m:=1) (news:=[slC out]) (hs.at 1 rfl (n:=1) rfl) rfl hrow1 rfl (by omega) (by simp only [maxLen]; omega) fun s59 h60 n59 hs60=>?_
      refine ⟨sm_cons (hs.same hs60 3 3 rfl rfl) sm_nil,?_⟩
      refine hs60.appended 5 (rows:=((List.range i).map fun j:Nat=>firstB g role j).map bC) rfl app30 (m:=1) (news:=[bC (firstB g role i)]) (hs60.at 0 rfl (n:=1) rfl) rfl hrow2 rfl (by omega) (by simp only [maxLen]; omega) fun s62 h63 n62 hs63=>?_
      refine ⟨sm_cons (hs60.same hs63 3 3 rfl rfl) sm_nil,?_⟩
      refine hs63.put 3 rfl (o:=0) (vs:=[.slice s59.a s59.n s59.c]) rfl (show 1<=4 by decide) fun h64 hs=>?_
      refine hs.put 3 rfl (o:=1) (vs:=[.slice s62.a s62.n s62.c]) rfl (show 2<=4 by decide) fun h65 hs=>?_
      exact fin2 hs
    ·
     refine hs.newbE fun h75 E75 hs=>⟨E75.sm,?_⟩
     refine hs.newbE fun h76 E76 hs=>⟨E76.sm,?_⟩
     refine hs.appended 4 (rows:=(Q.map Prod.fst).map slC) rfl app154 (m:=1) (news:=[slC out]) (hs.at 0 rfl (n:=1) rfl) rfl hrow1 rfl (by omega) (by simp only [maxLen]; omega) fun s59 h60 n59 hs60=>?_
     refine ⟨sm_cons (hs.same hs60 3 3 rfl rfl) sm_nil,?_⟩
     refine hs60.appended 5 (rows:=((List.range i).map fun j:Nat=>firstB g role j).map bC) rfl app30 (m:=1) (news:=[bC (firstB g role i)]) (hs60.at 1 rfl (n:=1) rfl) rfl hrow2 rfl (by omega) (by simp only [maxLen]; omega) fun s62 h63 n62 hs63=>?_
     refine ⟨sm_cons (hs60.same hs63 3 3 rfl rfl) sm_nil,?_⟩
     refine hs63.put 3 rfl (o:=0) (vs:=[.slice s59.a s59.n s59.c]) rfl (show 1<=4 by decide) fun h64 hs=>?_
     refine hs.put 3 rfl (o:=1) (vs:=[.slice s62.a s62.n s62.c]) rfl (show 2<=4 by decide) fun h65 hs=>?_
     exact fin2 hs
  ·
   have hi2:i=g.n.toNat:=by omega
   subst hi2
   refine ⟨_,hs.rd 5 rfl rfl,?_⟩
   have hE:=hg.e.ln
   refine up_loop (n:=g.he.n) (fun i h'=>St h h' (prL h13.size h.size g sf se so st Q ((List.range g.n.toNat).map fun j:Nat=>firstB g role j) (ownE (g.es.take i) role g.n.toNat).1 (ownE (g.es.take i) role g.n.toNat).2)) hs ?_
   clear hs
   rintro - j h89 hj hs
   have hol:=ownE_len (g.es.take j) role g.n.toNat
   have hso:=hs.len 3 (s:=so) (e:=4) (n:=1) rfl (by omega)
   have hst:=hs.len 4 (s:=st) (e:=226) (n:=5) rfl (by omega)
   rw [Yc] at hso hst
   refine sB_intro (fun l=>?_) (fun l=>?_)
   ·
    replace l:=lt_t l
    refine (hg.e.ext hs.ext).rw.nbI (by omega) (by omega) fun b90 o91 x g90 t90=>?_
    replace g90:g.es[j]?=some x:=g90
    have hEx:=hV.num.e x (Yb g90)
    unfold EdS at hEx
    have hstep:ownE (g.es.take (j+1)) role g.n.toNat=own1 role (ownE (g.es.take j) role g.n.toNat) x:=by unfold ownE; exact foldl_snoc g90
    refine ⟨_,_,_,_,_,_,t90,?_⟩
    refine hs.newput (vs:=x.cs) rfl rfl fun h99 hs=>?_
    refine ⟨_,hs.rd 0 rfl rfl,?_⟩
    refine sBe (fun c2=>?_) (fun c2=>?_)
    ·
     refine ⟨so,hs.rd 1 rfl rfl,_,hs.rd 0 rfl rfl,st,hs.rd 1 rfl rfl,_,hs.rd 0 rfl rfl,_,hs.rd 0 rfl rfl,?_⟩
     obtain ⟨t0,ht0⟩:=get_some (l:=(ownE (g.es.take j) role g.n.toNat).2) (i:=x.f.toNat) (by omega)
     refine hs.set 4 rfl (by omega) (by omega) (by omega) true rfl rfl (fun b106 o107 h108 hs2=>?_) rfl
     refine ⟨sm_cons (hs.same hs2 0 0 rfl rfl) (sm_cons (hs.same hs2 0 0 rfl rfl) sm_nil),?_⟩
     refine hs2.setf 5 rfl (by omega) (by omega) (by omega) 0 ht0 { t0 with ag:=x.ag } (vs:=[.bool x.ag]) rfl (show 1<=5 by decide) rfl fun b109 o110 h111 hs3=>?_
     refine Up.next l (by omega) ?_
     rw [hstep]
     unfold own1
     rw [if_pos c2,updT_get ht0]
     exact hs3.drop 1
    ·
     refine Up.next l (by omega) ?_
     rw [hstep]
     unfold own1
     rw [if_neg c2]
     exact hs.drop 1
   ·
    replace l:=lt_f l
    rw [Yj (by omega)] at hs
    clear hol hso hst
    refine ⟨_,hs.rd 5 rfl rfl,?_⟩
    have hTl:=hg.t.ln
    have hTs:=hg.t.sm
    have hO:(ownE g.es role g.n.toNat).1.length=g.n.toNat:=(ownE_len _ _ _).1
    refine up_loop (n:=g.ht.n) (fun i h'=>St h h' (prL h13.size h.size g sf se so st Q ((List.range g.n.toNat).map fun j:Nat=>firstB g role j) (ownE g.es role g.n.toNat).1 (ownT g.es (g.ts.take i) role g.n.toNat))) hs ?_
    clear hs
    rintro - k h119 hk hs
    have hol:=ownT_len g.es (g.ts.take k) role g.n.toNat
    have hso:=hs.len 3 (s:=so) (e:=4) (n:=1) rfl (by omega)
    have hst:=hs.len 4 (s:=st) (e:=226) (n:=5) rfl (by omega)
    rw [Yc] at hso hst
    refine sB_intro (fun l=>?_) (fun l=>?_)
    ·
     replace l:=lt_t l
     refine (hg.t.ext hs.ext).rw.nbI (by omega) (by omega) fun b120 o121 t g120 t120=>?_
     replace g120:g.ts[k]?=some t:=g120
     obtain ⟨ht1,ht2,ht3,x,ht4,ht5,ht6⟩:=hV.tim k t g120
     have hEx:=hV.num.e x (Yb ht4)
     unfold EdS at hEx
     have hstep:ownT g.es (g.ts.take (k+1)) role g.n.toNat=own2 g.es (ownE g.es role g.n.toNat).1 (ownT g.es (g.ts.take k) role g.n.toNat) t:=by unfold ownT; exact foldl_snoc g120
     refine ⟨_,_,_,t120,?_⟩
     refine hs.newput (vs:=t.cs) rfl rfl fun h126 hs=>?_
     refine ⟨so,hs.rd 1 rfl rfl,_,hs.rd 0 rfl rfl,?_⟩
     refine (hs.rows 4 (cs:=bC) rfl (by omega)).nbI (by omega) (by omega) fun b129 o130 ob g129 t129=>?_
     refine ⟨_,t129.hd,?_⟩
     refine sB_intro (fun c2=>?_) (fun c2=>?_)
     ·
      subst c2
      refine ⟨_,hs.rd 6 rfl rfl,_,hs.rd 0 rfl rfl,?_⟩
      have hee:=(Ya.1 ht4).1
      refine (hg.e.ext hs.ext).rw.nbI (by omega) (by omega) fun b134 o135 x' g134 t134=>?_
      rw [ht4] at g134
      cases g134
      refine ⟨_,_,_,t134.sub 1 3 rfl,?_⟩
      refine hs.newput (vs:=[.int .i64 x.a,.int .i64 x.b,.int .i64 x.l]) rfl rfl fun h140 hs=>?_
      refine ⟨st,hs.rd 2 rfl rfl,_,hs.rd 1 rfl rfl,st,hs.rd 2 rfl rfl,_,hs.rd 1 rfl rfl,_,hs.rd 1 rfl rfl,_,hs.rd 0 rfl rfl,_,hs.rd 0 rfl rfl,?_⟩
      obtain ⟨t0,ht0⟩:=get_some (l:=ownT g.es (g.ts.take k) role g.n.toNat) (i:=t.s.toNat) (by omega)
      refine hs.setf 6 rfl (by omega) (by omega) (by omega) 1 ht0 { t0 with k:=t.k } (vs:=[.int .i64 t.k]) rfl (show 2<=5 by decide) rfl fun b148 o149 h150 hs2=>?_
      refine ⟨sm_cons (hs.same hs2 0 0 rfl rfl) (sm_cons (hs.same hs2 0 0 rfl rfl) (sm_cons (hs.same hs2 1 1 rfl rfl) sm_nil)),?_⟩
      refine hs2.setf 6 rfl (by omega) (by omega) (by omega) 2 (Yq (by omega)) ⟨t0.ag,t.k,⟨true,x.b,x.l⟩⟩ (vs:=[.bool true,.int .i64 x.b,.int .i64 x.l]) rfl (show 5<=5 by decide) rfl fun b151 o152 h153 hs3=>?_
      refine Up.next l (by omega) ?_
      rw [hstep]
      unfold own2
      rw [g129,ht4]
      show St h h153 (prL _ _ _ _ _ _ _ _ _ _ (updT _ _ _))
      rw [updT_get ht0]
      rw [List.set_set,List.set_set] at hs3
      exact hs3.drop 2
     ·
      subst c2
      refine Up.next l (by omega) ?_
      rw [hstep]
      unfold own2
      rw [g129,ht4]
      exact hs.drop 1
    ·
     replace l:=lt_f l
     rw [Yj (by omega)] at hs
     exact ⟨hs.ext,h13.size,h.size,sf,se,so,st,Q,rfl,hs,hQ⟩
 ·
  refine ⟨by omega,?_⟩
  refine hs.newbE fun h12 E12 hs=>⟨E12.sm,?_⟩
  have hs:=hs.blkS g.n.toNat 5 _ rfl (tirows _) (by rw [Yc,Yg]) hmx
  refine ⟨by omega,?_⟩
  refine hs.newbE fun h13 E13 hs=>⟨E13.sm,?_⟩
  have hs:=hs.blkS g.n.toNat 1 _ rfl (brows _) (by rw [Yc,Yg]) hmx
  have hsz:h.size<=h13.size:=hs.ext.1
  refine hs.newb fun h14 hs=>?_
  have hs:St h h14 (prL h13.size h.size g ⟨none,0,0⟩ ⟨none,0,0⟩ ⟨some ⟨h12.size,0,none⟩,g.n.toNat,g.n.toNat⟩ ⟨some ⟨h9.size,0,none⟩,g.n.toNat,g.n.toNat⟩ [] [] (List.replicate g.n.toNat false) (List.replicate g.n.toNat ti0)):=
   ((hs.nil_ 4 1).nil_ 332 1).perm ((List.perm_append_comm (l₁:=[_,_]) (l₂:=[_])).append_right _)
  generalize (⟨some ⟨h12.size,0,none⟩,g.n.toNat,g.n.toNat⟩:Sl)=so at hs
  generalize (⟨some ⟨h9.size,0,none⟩,g.n.toNat,g.n.toNat⟩:Sl)=st at hs
  refine ⟨_,hs.rd 5 rfl rfl,?_⟩
  refine ⟨fun x h' m=>∃ (i:Nat) (sf se:Sl) (Q:List (Sl × List Ev)),x=i/\m=g.n.toNat - i/\i<=g.n.toNat/\St h h' (prL h13.size h.size g sf se so st Q ((List.range i).map fun j:Nat=>firstB g role j) (List.replicate g.n.toNat false) (List.replicate g.n.toNat ti0))/\Q.map Prod.snd=(List.range i).map fun j:Nat=>firstE g role j,⟨_,0,_,_,[],rfl,rfl,by omega,hs,rfl⟩,?_⟩
  rintro - _ h20 m ⟨i,sf,se,Q,rfl,rfl,hi,hs,hQ⟩
  have hQl:Q.length=i:=by have:=congrArg List.length hQ; simpa using this
  have hsfl:=hs.len 1 (s:=sf) (e:=332) (n:=1) rfl (by omega)
  have hsel:=hs.len 2 (s:=se) (e:=4) (n:=1) rfl (by omega)
  rw [Yc,Yc] at hsfl
  rw [Yc,Yc,Yyd] at hsel
  refine sBi (fun c1=>?_) (fun c1=>?_)
  ·
   refine ⟨_,_,_,_,_,_,_,_,hs.at 5 rfl (n:=8) rfl,?_⟩
   refine (first88 g role i h20 (hg.ext hs.ext) (hx.ext hs.ext) hV hr0 hr1 (by omega) (by omega)).mono ?_
   rintro _ h33 ⟨E33,x30,rfl,ho30⟩
   replace hs:=hs.gift E33 ho30 (arows role _)
   refine ⟨x30,_,_,rfl,?_⟩
   have hlen:=(hs.rows 0 (cs:=aC role) rfl (by omega)).ln
   have hev:(firstE g role i).length<=400:=evs_len hV
   generalize hL:firstE g role i=L at *
   have hs:=hs.nil_ 224 3
   refine up_loopA (n:=x30.n) hs (fun i rows=>rows=(L.take i).map Ev.cs) rfl ?_
   clear hs
   rintro - j out h39 rows hj hs rfl
   have holn:=(hs.rows 0 (cs:=Ev.cs) rfl (by omega)).ln
   rw [Yu] at holn
   refine sB_intro (fun l2=>?_) (fun l2=>?_)
   ·
    replace l2:=lt_t l2
    refine (hs.rows 1 (cs:=aC role) rfl (by omega)).nbI (by omega) (by omega) fun b40 o41 y g40 t40=>?_
    replace g40:L[j]?=some y:=g40
    refine ⟨_,_,_,_,⟨none,0,0⟩,t40,?_⟩
    refine hs.newput (vs:=aC role y) rfl rfl fun h48 hs=>?_
    refine ⟨_,hs.rd 0 rfl rfl,?_⟩
    refine ⟨_,hs.rd 0 rfl rfl,?_⟩
    refine ⟨_,hs.rd 0 rfl rfl,?_⟩
    refine hs.app 1 rfl app159 (m:=1) [Ev.cs y] rfl rfl (fun r hr=>by rw [Ye] at hr; rw [hr]; rfl) rfl (by omega) (by simp only [maxLen]; omega) fun s53 h54 ns hs=>?_
    refine UpA.next l2 (by omega) ⟨_,hs.drop 1,?_⟩
    rw [take_snoc g40,Ym]; rfl
   ·
    replace l2:=lt_f l2
    rw [Yj (by omega)] at hs
    replace hs:=hs.eras 1
    refine ⟨sf,hs.rd 1 rfl rfl,se,hs.rd 1 rfl rfl,?_⟩
    have fin:∀ {h':Heap} {sf' se':Sl},St h h' (.sl out 224 3 (L.map Ev.cs)::prL0 h13.size h.size g sf' se' so st (Q.map Prod.fst++[out]) (((List.range i).map fun j:Nat=>firstB g role j)++[firstB g role i]) (List.replicate g.n.toNat false) (List.replicate g.n.toNat ti0)++Q.map (nest 224 3 Ev.cs)) ->
      ∃ m,m<g.n.toNat - i/\∃ (i2:Nat) (sf se:Sl) (Q:List (Sl × List Ev)),IntKind.wrap .i64 ((i:Int)+1)=i2/\m=g.n.toNat - i2/\i2<=g.n.toNat/\St h h' (prL h13.size h.size g sf se so st Q ((List.range i2).map fun j:Nat=>firstB g role j) (List.replicate g.n.toNat false) (List.replicate g.n.toNat ti0))/\Q.map Prod.snd=(List.range i2).map fun j:Nat=>firstE g role j:=by
     intro h' sf' se' h1
     refine ⟨_,by omega,i+1,sf',se',Q++[(out,L)],by rw [w64 (by omega) (by omega)]; omega,rfl,by omega,?_,?_⟩
     ·
      have e1:(List.range (i+1)).map (fun j:Nat=>firstB g role j)=((List.range i).map fun j:Nat=>firstB g role j)++[firstB g role i]:=by rw [List.range_succ,Ym]; rfl
      unfold prL
      rw [e1,Ym (f:=Prod.fst),Ym (f:=nest 224 3 Ev.cs),<- Yz]
      refine h1.perm ?_
      exact (List.perm_append_singleton _ _).symm
     ·
      rw [Ym,hQ,List.range_succ,Ym,<- hL]; rfl
    have hrow1:∀ r ∈ [slC out],r.length=1:=fun r hr=>by rw [Ye] at hr; rw [hr]; rfl
    have hrow2:∀ r ∈ [bC (firstB g role i)],r.length=1:=fun r hr=>by rw [Ye] at hr; rw [hr]; rfl
    have fin2:∀ {h':Heap} {sf' se':Sl} {a b:It},St h h' (a::b :: .sl out 224 3 (L.map Ev.cs) :: .blk h13.size [.slice sf'.a sf'.n sf'.c,.slice se'.a se'.n se'.c,.slice so.a so.n so.c,.slice st.a st.n st.c] 329 :: .sl sf' 332 1 ((Q.map Prod.fst).map slC++[slC out]) :: .sl se' 4 1 (((List.range i).map fun j:Nat=>firstB g role j).map bC++[bC (firstB g role i)]) :: .sl so 4 1 ((List.replicate g.n.toNat false).map bC) :: .sl st 226 5 ((List.replicate g.n.toNat ti0).map Ti.cs) :: .blk h.size g.cs 92::Q.map (nest 224 3 Ev.cs)) ->
      ∃ m,m<g.n.toNat - i/\∃ (i2:Nat) (sf se:Sl) (Q:List (Sl × List Ev)),IntKind.wrap .i64 ((i:Int)+1)=i2/\m=g.n.toNat - i2/\i2<=g.n.toNat/\St h h' (prL h13.size h.size g sf se so st Q ((List.range i2).map fun j:Nat=>firstB g role j) (List.replicate g.n.toNat false) (List.replicate g.n.toNat ti0))/\Q.map Prod.snd=(List.range i2).map fun j:Nat=>firstE g role j:=by
     intro h' sf' se' a b h1
     refine fin (sf':=sf') (se':=se') ?_
     unfold prL0
     rw [Ym (f:=slC),Ym (f:=bC)]
     exact h1.drop 2
    refine ⟨?_,?_⟩
    ·
     refine hs.newbE fun h58 E58 hs=>⟨E58.sm,?_⟩
     refine ⟨?_,?_⟩
     ·
      refine hs.appended 3 (rows:=(Q.map Prod.fst).map slC) rfl app154 (m:=1) (news:=[slC out]) (hs.at 0 rfl (n:=1) rfl) rfl hrow1 rfl (by omega) (by simp only [maxLen]; omega) fun s59 h60 n59 hs60=>?_
      refine ⟨sm_cons (hs.same hs60 2 2 rfl rfl) sm_nil,?_⟩
      clear hs
      refine hs60.newbE fun h61 E61 hs=>⟨E61.sm,?_⟩
      refine hs.appended 5 (rows:=((List.range i).map fun j:Nat=>firstB g role j).map bC) rfl app30 (m:=1) (news:=[bC (firstB g role i)]) (hs.at 0 rfl (n:=1) rfl) rfl hrow2 rfl (by omega) (by simp only [maxLen]; omega) fun s62 h63 n62 hs63=>?_
      refine ⟨sm_cons (hs.same hs63 3 3 rfl rfl) sm_nil,?_⟩
      refine hs63.put 3 rfl (o:=0) (vs:=[.slice s59.a s59.n s59.c]) rfl (show 1<=4 by decide) fun h64 hs=>?_
      refine hs.put 3 rfl (o:=1) (vs:=[.slice s62.a s62.n s62.c]) rfl (show 2<=4 by decide) fun h65 hs=>?_
      exact fin2 hs
     ·
      refine hs.newbE fun h67 E67 hs=>⟨E67.sm,?_⟩
      refine hs.appended 4 (rows:=(Q.map Prod.fst).map slC) rfl app154 (m:=1) (news:=[slC out]) (hs.at 1 rfl (n:=1) rfl) rfl hrow1 rfl (by omega) (by simp only [maxLen]; omega) fun s59 h60 n59 hs60=>?_
      refine ⟨sm_cons (hs.same hs60 3 3 rfl rfl) sm_nil,?_⟩
      refine hs60.appended 5 (rows:=((List.range i).map fun j:Nat=>firstB g role j).map bC) rfl app30 (m:=1) (news:=[bC (firstB g role i)]) (hs60.at 0 rfl (n:=1) rfl) rfl hrow2 rfl (by omega) (by simp only [maxLen]; omega) fun s62 h63 n62 hs63=>?_
      refine ⟨sm_cons (hs60.same hs63 3 3 rfl rfl) sm_nil,?_⟩
      refine hs63.put 3 rfl (o:=0) (vs:=[.slice s59.a s59.n s59.c]) rfl (show 1<=4 by decide) fun h64 hs=>?_
      refine hs.put 3 rfl (o:=1) (vs:=[.slice s62.a s62.n s62.c]) rfl (show 2<=4 by decide) fun h65 hs=>?_
      exact fin2 hs
    ·
     refine hs.newbE fun h75 E75 hs=>⟨E75.sm,?_⟩
     refine hs.newbE fun h76 E76 hs=>⟨E76.sm,?_⟩
     refine hs.appended 4 (rows:=(Q.map Prod.fst).map slC) rfl app154 (m:=1) (news:=[slC out]) (hs.at 0 rfl (n:=1) rfl) rfl hrow1 rfl (by omega) (by simp only [maxLen]; omega) fun s59 h60 n59 hs60=>?_
     refine ⟨sm_cons (hs.same hs60 3 3 rfl rfl) sm_nil,?_⟩
     refine hs60.appended 5 (rows:=((List.range i).map fun j:Nat=>firstB g role j).map bC) rfl app30 (m:=1) (news:=[bC (firstB g role i)]) (hs60.at 1 rfl (n:=1) rfl) rfl hrow2 rfl (by omega) (by simp only [maxLen]; omega) fun s62 h63 n62 hs63=>?_
     refine ⟨sm_cons (hs60.same hs63 3 3 rfl rfl) sm_nil,?_⟩
     refine hs63.put 3 rfl (o:=0) (vs:=[.slice s59.a s59.n s59.c]) rfl (show 1<=4 by decide) fun h64 hs=>?_
     refine hs.put 3 rfl (o:=1) (vs:=[.slice s62.a s62.n s62.c]) rfl (show 2<=4 by decide) fun h65 hs=>?_
     exact fin2 hs
  ·
   have hi2:i=g.n.toNat:=by omega
   subst hi2
   refine ⟨_,hs.rd 5 rfl rfl,?_⟩
   have hE:=hg.e.ln
   refine up_loop (n:=g.he.n) (fun i h'=>St h h' (prL h13.size h.size g sf se so st Q ((List.range g.n.toNat).map fun j:Nat=>firstB g role j) (ownE (g.es.take i) role g.n.toNat).1 (ownE (g.es.take i) role g.n.toNat).2)) hs ?_
   clear hs
   rintro - j h89 hj hs
   have hol:=ownE_len (g.es.take j) role g.n.toNat
   have hso:=hs.len 3 (s:=so) (e:=4) (n:=1) rfl (by omega)
   have hst:=hs.len 4 (s:=st) (e:=226) (n:=5) rfl (by omega)
   rw [Yc] at hso hst
   refine sB_intro (fun l=>?_) (fun l=>?_)
   ·
    replace l:=lt_t l
    refine (hg.e.ext hs.ext).rw.nbI (by omega) (by omega) fun b90 o91 x g90 t90=>?_
    replace g90:g.es[j]?=some x:=g90
    have hEx:=hV.num.e x (Yb g90)
    unfold EdS at hEx
    have hstep:ownE (g.es.take (j+1)) role g.n.toNat=own1 role (ownE (g.es.take j) role g.n.toNat) x:=by unfold ownE; exact foldl_snoc g90
    refine ⟨_,_,_,_,_,_,t90,?_⟩
    refine hs.newput (vs:=x.cs) rfl rfl fun h99 hs=>?_
    refine ⟨_,hs.rd 0 rfl rfl,?_⟩
    refine sBe (fun c2=>?_) (fun c2=>?_)
    ·
     refine ⟨so,hs.rd 1 rfl rfl,_,hs.rd 0 rfl rfl,st,hs.rd 1 rfl rfl,_,hs.rd 0 rfl rfl,_,hs.rd 0 rfl rfl,?_⟩
     obtain ⟨t0,ht0⟩:=get_some (l:=(ownE (g.es.take j) role g.n.toNat).2) (i:=x.f.toNat) (by omega)
     refine hs.set 4 rfl (by omega) (by omega) (by omega) true rfl rfl (fun b106 o107 h108 hs2=>?_) rfl
     refine ⟨sm_cons (hs.same hs2 0 0 rfl rfl) (sm_cons (hs.same hs2 0 0 rfl rfl) sm_nil),?_⟩
     refine hs2.setf 5 rfl (by omega) (by omega) (by omega) 0 ht0 { t0 with ag:=x.ag } (vs:=[.bool x.ag]) rfl (show 1<=5 by decide) rfl fun b109 o110 h111 hs3=>?_
     refine Up.next l (by omega) ?_
     rw [hstep]
     unfold own1
     rw [if_pos c2,updT_get ht0]
     exact hs3.drop 1
    ·
     refine Up.next l (by omega) ?_
     rw [hstep]
     unfold own1
     rw [if_neg c2]
     exact hs.drop 1
   ·
    replace l:=lt_f l
    rw [Yj (by omega)] at hs
    clear hol hso hst
    refine ⟨_,hs.rd 5 rfl rfl,?_⟩
    have hTl:=hg.t.ln
    have hTs:=hg.t.sm
    have hO:(ownE g.es role g.n.toNat).1.length=g.n.toNat:=(ownE_len _ _ _).1
    refine up_loop (n:=g.ht.n) (fun i h'=>St h h' (prL h13.size h.size g sf se so st Q ((List.range g.n.toNat).map fun j:Nat=>firstB g role j) (ownE g.es role g.n.toNat).1 (ownT g.es (g.ts.take i) role g.n.toNat))) hs ?_
    clear hs
    rintro - k h119 hk hs
    have hol:=ownT_len g.es (g.ts.take k) role g.n.toNat
    have hso:=hs.len 3 (s:=so) (e:=4) (n:=1) rfl (by omega)
    have hst:=hs.len 4 (s:=st) (e:=226) (n:=5) rfl (by omega)
    rw [Yc] at hso hst
    refine sB_intro (fun l=>?_) (fun l=>?_)
    ·
     replace l:=lt_t l
     refine (hg.t.ext hs.ext).rw.nbI (by omega) (by omega) fun b120 o121 t g120 t120=>?_
     replace g120:g.ts[k]?=some t:=g120
     obtain ⟨ht1,ht2,ht3,x,ht4,ht5,ht6⟩:=hV.tim k t g120
     have hEx:=hV.num.e x (Yb ht4)
     unfold EdS at hEx
     have hstep:ownT g.es (g.ts.take (k+1)) role g.n.toNat=own2 g.es (ownE g.es role g.n.toNat).1 (ownT g.es (g.ts.take k) role g.n.toNat) t:=by unfold ownT; exact foldl_snoc g120
     refine ⟨_,_,_,t120,?_⟩
     refine hs.newput (vs:=t.cs) rfl rfl fun h126 hs=>?_
     refine ⟨so,hs.rd 1 rfl rfl,_,hs.rd 0 rfl rfl,?_⟩
     refine (hs.rows 4 (cs:=bC) rfl (by omega)).nbI (by omega) (by omega) fun b129 o130 ob g129 t129=>?_
     refine ⟨_,t129.hd,?_⟩
     refine sB_intro (fun c2=>?_) (fun c2=>?_)
     ·
      subst c2
      refine ⟨_,hs.rd 6 rfl rfl,_,hs.rd 0 rfl rfl,?_⟩
      have hee:=(Ya.1 ht4).1
      refine (hg.e.ext hs.ext).rw.nbI (by omega) (by omega) fun b134 o135 x' g134 t134=>?_
      rw [ht4] at g134
      cases g134
      refine ⟨_,_,_,t134.sub 1 3 rfl,?_⟩
      refine hs.newput (vs:=[.int .i64 x.a,.int .i64 x.b,.int .i64 x.l]) rfl rfl fun h140 hs=>?_
      refine ⟨st,hs.rd 2 rfl rfl,_,hs.rd 1 rfl rfl,st,hs.rd 2 rfl rfl,_,hs.rd 1 rfl rfl,_,hs.rd 1 rfl rfl,_,hs.rd 0 rfl rfl,_,hs.rd 0 rfl rfl,?_⟩
      obtain ⟨t0,ht0⟩:=get_some (l:=ownT g.es (g.ts.take k) role g.n.toNat) (i:=t.s.toNat) (by omega)
      refine hs.setf 6 rfl (by omega) (by omega) (by omega) 1 ht0 { t0 with k:=t.k } (vs:=[.int .i64 t.k]) rfl (show 2<=5 by decide) rfl fun b148 o149 h150 hs2=>?_
      refine ⟨sm_cons (hs.same hs2 0 0 rfl rfl) (sm_cons (hs.same hs2 0 0 rfl rfl) (sm_cons (hs.same hs2 1 1 rfl rfl) sm_nil)),?_⟩
      refine hs2.setf 6 rfl (by omega) (by omega) (by omega) 2 (Yq (by omega)) ⟨t0.ag,t.k,⟨true,x.b,x.l⟩⟩ (vs:=[.bool true,.int .i64 x.b,.int .i64 x.l]) rfl (show 5<=5 by decide) rfl fun b151 o152 h153 hs3=>?_
      refine Up.next l (by omega) ?_
      rw [hstep]
      unfold own2
      rw [g129,ht4]
      show St h h153 (prL _ _ _ _ _ _ _ _ _ _ (updT _ _ _))
      rw [updT_get ht0]
      rw [List.set_set,List.set_set] at hs3
      exact hs3.drop 2
     ·
      subst c2
      refine Up.next l (by omega) ?_
      rw [hstep]
      unfold own2
      rw [g129,ht4]
      exact hs.drop 1
    ·
     replace l:=lt_f l
     rw [Yj (by omega)] at hs
     exact ⟨hs.ext,h13.size,h.size,sf,se,so,st,Q,rfl,hs,hQ⟩
end Go.VC
end

section
/- Contract: the timing of a view. -/
namespace Go.VC
open Go.Proofs Go.LexS

theorem rangeG {n i k:Nat} (h:(List.range n)[i]?=some k):i=k/\i<n:=by
 obtain ⟨h1,h2⟩:=Ya.1 h
 rw [List.getElem_range] at h2
 rw [Yyd] at h1
 exact ⟨h2,h1⟩
set_option maxHeartbeats 1000000 in
theorem view41 (p:Nat) (n:Nat) (F:Nat->List Ev) (en:Nat->Bool) (O:List Bool) (T:List Ti) (l:List Nat) (s:Sl) (h:Heap) (hP:PrI h ⟨p,0,none⟩ n F en O T) (hl:Rw h 1 s ((l.map fun k:Nat=>(k:Int)).map inC)) (hln:∀ k ∈ l,k<n) (hll:l.length<=4096) (hF:∀ k,k<n->(F k).length<=400) :
  Fn Pz 155 #[.pointer (some ⟨p,0,none⟩),.slice s.a s.n s.c] h fun v h'=>Ext h h'/\∃ (o:Ti) (ok:Bool),v=.tuple ⟨[.agg ⟨Ti.cs o⟩,.bool ok]⟩/\viewV F en O T l=if ok then some o else none:=by
 apply vc155; unfold W155
 obtain ⟨sf,se,so,st,fs,h1,h2,h3,h4,h5,h6,hO,hT⟩:=hP.ex
 have hs:=St.refl h
 refine hs.newb fun h1' hs=>?_
 refine hs.newb fun h2' hs=>?_
 have hsn:=hl.ln
 rw [Yc] at hsn
 have hfn:=h2.ln
 have hen:=h4.ln
 have hon:=h5.ln
 have htn:=h6.ln
 rw [Yyd] at hfn hen
 refine ⟨fun known x h' m=>∃ (i:Nat) (o:Ti),x=i/\m=l.length - i/\i<=l.length/\St h h' [.blk h1'.size o.cs 226,.blk h.size ti0.cs 226]/\(l.take i).foldl (stepV F en O T l) (some (false,ti0))=some (known,o),⟨_,0,ti0,rfl,rfl,by omega,hs,rfl⟩,?_⟩
 clear hs
 rintro - known _ h8 m ⟨i,o,rfl,rfl,hi,hs,hst⟩
 refine sBi (fun c1=>?_) (fun c1=>?_)
 ·
  refine (hl.ext hs.ext).nbI (by omega) (by omega) fun b9 o10 d9 g9 t9=>?_
  rw [Ys,Yd] at g9
  obtain ⟨k,gk,rfl⟩:=Yya.1 g9
  have hk:=hln k (Yb gk)
  refine ⟨_,t9.hd,?_⟩
  have nth0:=(atC_ext hs.ext h1).nth 0 rfl
  have nth1:=(atC_ext hs.ext h1).nth 1 rfl
  have nth2:=(atC_ext hs.ext h1).nth 2 rfl
  have nth3:=(atC_ext hs.ext h1).nth 3 rfl
  have h2e:=h2.ext hs.ext
  have h4e:=h4.ext hs.ext
  have h5e:=h5.ext hs.ext
  have h6e:=h6.ext hs.ext
  have h3e:∀ i,i<n->Rw h8 3 (fs i) ((F i).map Ev.cs):=fun i hi=>(h3 i hi).ext hs.ext
  have hfk:=(h3e k hk).ln
  have hFk:=hF k hk
  have hsk:stepV F en O T l (some (known,o)) k=if badV F en l k then none else match O[k]?,T[k]? with | some true,some t=>if known && decide (t ≠ o) then none else some (true,t) | _,_=>some (known,o):=rfl
  refine ⟨fun h'=>h'=h8/\badV F en l k=false,?_,?_⟩
  ·
   refine ⟨sf,nth0,?_⟩
   refine h2e.nbI (by omega) (by omega) fun b14 o15 d g14 t14=>?_
   obtain ⟨rfl,_⟩:=rangeG g14
   (try rw [Ys] at t14); (try rw [Ys])
   refine ⟨_,t14.hd,?_⟩
   refine sBi (fun c2=>?_) (fun c2=>?_)
   ·
    refine ⟨sf,nth0,?_⟩
    refine h2e.nbI (by omega) (by omega) fun b18 o19 d g18 t18=>?_
    obtain ⟨rfl,_⟩:=rangeG g18
    (try rw [Ys] at t18); (try rw [Ys])
    refine ⟨_,t18.hd,?_⟩
    refine (h3e k hk).nbI (by omega) (by omega) fun b21 o22 e0 g21 t21=>?_
    replace g21:(F k)[0]?=some e0:=g21
    refine ⟨_,t21.hd,?_⟩
    have hs0:sndAt (F k) 0=e0.send:=by unfold sndAt; rw [g21]
    refine sB_intro (fun c3=>?_) (fun c3=>?_)
    ·
     refine ⟨se,nth1,?_⟩
     refine h4e.nbI (by omega) (by omega) fun b25 o26 d g25 t25=>?_
     obtain ⟨rfl,_⟩:=rangeG g25
     (try rw [Ys] at t25); (try rw [Ys])
     refine ⟨_,t25.hd,?_⟩
     refine sB_intro (fun c4=>?_) (fun c4=>?_)
     ·
      refine ⟨_,_,_,_,_,hs.at 0 rfl (n:=5) rfl,?_⟩
      refine hs.put 1 rfl (o:=0) (vs:=Ti.cs o) rfl (show 5<=5 by decide) fun h33 hs=>?_
      refine ⟨_,_,_,_,_,hs.at 1 rfl (n:=5) rfl,hs.ext,o,false,rfl,?_⟩
      exact viewV_none hst gk (by rw [hsk,if_pos]; unfold badV; rw [hs0,c3,c4]; rfl)
     ·
      refine ⟨sf,nth0,?_⟩
      refine h2e.nbI (by omega) (by omega) fun b40 o41 d g40 t40=>?_
      obtain ⟨rfl,_⟩:=rangeG g40
      (try rw [Ys] at t40); (try rw [Ys])
      refine ⟨_,t40.hd,?_⟩
      refine ⟨sf,nth0,?_⟩
      refine h2e.nbI (by omega) (by omega) fun b44 o45 d g44 t44=>?_
      obtain ⟨rfl,_⟩:=rangeG g44
      (try rw [Ys] at t44); (try rw [Ys])
      refine ⟨_,t44.hd,?_⟩
      rw [w64 (by omega) (by omega)]
      refine (h3e k hk).nbI (by omega) (by omega) fun b47 o48 e1 g47 t47=>?_
      replace g47:(F k)[((fs k).n - 1:Int).toNat]?=some e1:=g47
      refine ⟨_,t47.hd,?_⟩
      have hs1:sndAt (F k) ((F k).length - 1)=e1.send:=by
       unfold sndAt
       rw [show (F k).length - 1=((fs k).n - 1:Int).toNat by omega,g47]
      refine sB_intro (fun c5=>?_) (fun c5=>?_)
      ·
       refine ⟨_,_,_,_,_,hs.at 0 rfl (n:=5) rfl,?_⟩
       refine hs.put 1 rfl (o:=0) (vs:=Ti.cs o) rfl (show 5<=5 by decide) fun h33 hs=>?_
       refine ⟨_,_,_,_,_,hs.at 1 rfl (n:=5) rfl,hs.ext,o,false,rfl,?_⟩
       have c5:=bF c5
       exact viewV_none hst gk (by rw [hsk,if_pos]; unfold badV; rw [hs0,c3,hs1,c5]; simp)
      ·
       have c5:=bT c5
       refine up_loop (n:=s.n) (fun j h'=>h'=h8/\(l.take j).any (fun q=>en q || decide (F k ≠ F q))=false) ⟨rfl,rfl⟩ ?_
       rintro - j h65 hj ⟨rfl,hany⟩
       refine sB_intro (fun l6=>?_) (fun l6=>?_)
       ·
        replace l6:=lt_t l6
        refine (hl.ext hs.ext).nbI (by omega) (by omega) fun b66 o67 d66 g66 t66=>?_
        rw [Ys,Yd] at g66
        obtain ⟨q,gq,rfl⟩:=Yya.1 g66
        have hq:=hln q (Yb gq)
        have hnone:(en q || decide (F k ≠ F q))=true->viewV F en O T l=none:=fun hc=>viewV_none hst gk (by
         rw [hsk,if_pos]; unfold badV
         have:(l.any fun k'=>en k' || decide (F k ≠ F k'))=true:=List.any_eq_true.2 ⟨q,Yb gq,hc⟩
         rw [hs0,c3,this]; simp)
        refine ⟨_,t66.hd,se,nth1,?_⟩
        refine h4e.nbI (by omega) (by omega) fun b70 o71 d g70 t70=>?_
        obtain ⟨rfl,_⟩:=rangeG g70
        (try rw [Ys] at t70); (try rw [Ys])
        refine ⟨_,t70.hd,?_⟩
        refine sB_intro (fun c7=>?_) (fun c7=>?_)
        ·
         refine ⟨_,_,_,_,_,hs.at 0 rfl (n:=5) rfl,?_⟩
         refine hs.put 1 rfl (o:=0) (vs:=Ti.cs o) rfl (show 5<=5 by decide) fun h33 hs=>?_
         refine ⟨_,_,_,_,_,hs.at 1 rfl (n:=5) rfl,hs.ext,o,false,rfl,?_⟩
         exact hnone (by rw [c7]; rfl)
        ·
         refine ⟨sf,nth0,?_⟩
         refine h2e.nbI (by omega) (by omega) fun b85 o86 d g85 t85=>?_
         obtain ⟨rfl,_⟩:=rangeG g85
         (try rw [Ys] at t85); (try rw [Ys])
         refine ⟨_,t85.hd,sf,nth0,?_⟩
         refine h2e.nbI (by omega) (by omega) fun b89 o90 d g89 t89=>?_
         obtain ⟨rfl,_⟩:=rangeG g89
         (try rw [Ys] at t89); (try rw [Ys])
         refine ⟨_,t89.hd,?_⟩
         refine (equal89 (F k) (F q) _ _ h65 (h3e k hk) (h3e q hq) (by omega)).mono ?_
         rintro _ _ ⟨rfl,rfl⟩
         refine ⟨_,rfl,fun _ _ _ _ hv=>hv,?_⟩
         refine sB_intro (fun c8=>?_) (fun c8=>?_)
         ·
          refine ⟨_,_,_,_,_,hs.at 0 rfl (n:=5) rfl,?_⟩
          refine hs.put 1 rfl (o:=0) (vs:=Ti.cs o) rfl (show 5<=5 by decide) fun h33 hs=>?_
          refine ⟨_,_,_,_,_,hs.at 1 rfl (n:=5) rfl,hs.ext,o,false,rfl,?_⟩
          exact hnone (by simp at c8 ⊢; exact .inr c8)
         ·
          refine Up.next (by omega) (by omega) ⟨rfl,?_⟩
          rw [take_snoc gq,List.any_append,hany,Bool.false_or]
          simp at c8 ⊢
          exact ⟨c7,c8⟩
       ·
        replace l6:=lt_f l6
        rw [Yj (by omega)] at hany
        refine ⟨rfl,?_⟩
        unfold badV
        rw [c4,hs1,c5,hany]; simp
    ·
     exact ⟨rfl,by unfold badV; rw [hs0,c3]; rfl⟩
   ·
    have hs0:sndAt (F k) 0=false:=by
     have:F k=[]:=List.length_eq_zero_iff.1 (by omega)
     unfold sndAt; rw [this]; rfl
    exact ⟨rfl,by unfold badV; rw [hs0]; rfl⟩
  ·
   rintro - h107 ⟨rfl,hbad⟩
   rw [hbad,if_neg (by simp)] at hsk
   refine ⟨so,nth2,?_⟩
   refine h5e.nbI (by omega) (by omega) fun b109 o110 ob g109 t109=>?_
   rw [Ys] at g109
   refine ⟨_,t109.hd,?_⟩
   refine sB_intro (fun c2=>?_) (fun c2=>?_)
   ·
    have c2:=bF c2
    subst c2
    refine ⟨_,by omega,i+1,o,by rw [w64 (by omega) (by omega)]; omega,rfl,by omega,hs,?_⟩
    rw [foldl_snoc gk,hst,hsk,g109]
   ·
    have c2:=bT c2
    subst c2
    obtain ⟨t,gt⟩:=get_some (l:=T) (i:=k) (by omega)
    rw [g109,gt] at hsk
    replace hsk:stepV F en O T l (some (known,o)) k=if known && decide (t ≠ o) then none else some (true,t):=hsk
    refine sB_intro (fun c3=>?_) (fun c3=>?_)
    ·
     refine ⟨st,nth3,?_⟩
     refine h6e.nbI (by omega) (by omega) fun b114 o115 t' g114 t114=>?_
     rw [Ys,gt] at g114
     cases g114
     refine ⟨_,_,_,_,_,t114,_,_,_,_,_,hs.at 0 rfl (n:=5) rfl,?_⟩
     rw [ti_eqb]
     refine sB_intro (fun c4=>?_) (fun c4=>?_)
     ·
      refine ⟨_,_,_,_,_,hs.at 0 rfl (n:=5) rfl,?_⟩
      refine hs.put 1 rfl (o:=0) (vs:=Ti.cs o) rfl (show 5<=5 by decide) fun h33 hs=>?_
      refine ⟨_,_,_,_,_,hs.at 1 rfl (n:=5) rfl,hs.ext,o,false,rfl,?_⟩
      exact viewV_none hst gk (by rw [hsk,if_pos (by rw [c3]; simpa using c4)])
     ·
      have he:t=o:=by simpa using c4
      refine ⟨st,nth3,?_⟩
      refine h6e.nbI (by omega) (by omega) fun b138 o139 t' g138 t138=>?_
      rw [Ys,gt] at g138
      cases g138
      refine ⟨_,_,_,_,_,t138,?_⟩
      refine hs.put 0 rfl (o:=0) (vs:=Ti.cs t) rfl (show 5<=5 by decide) fun h145 hs=>?_
      refine ⟨_,by omega,i+1,t,by rw [w64 (by omega) (by omega)]; omega,rfl,by omega,hs,?_⟩
      rw [foldl_snoc gk,hst,hsk,if_neg (by rw [he]; simp)]
    ·
     refine ⟨st,nth3,?_⟩
     refine h6e.nbI (by omega) (by omega) fun b148 o149 t' g148 t148=>?_
     rw [Ys,gt] at g148
     cases g148
     refine ⟨_,_,_,_,_,t148,?_⟩
     refine hs.put 0 rfl (o:=0) (vs:=Ti.cs t) rfl (show 5<=5 by decide) fun h155 hs=>?_
     refine ⟨_,by omega,i+1,t,by rw [w64 (by omega) (by omega)]; omega,rfl,by omega,hs,?_⟩
     rw [foldl_snoc gk,hst,hsk,if_neg (by rw [c3]; simp)]
 ·
  rw [Yj (by omega)] at hst
  refine ⟨_,_,_,_,_,hs.at 0 rfl (n:=5) rfl,?_⟩
  refine hs.put 1 rfl (o:=0) (vs:=Ti.cs o) rfl (show 5<=5 by decide) fun h33 hs=>?_
  refine ⟨_,_,_,_,_,hs.at 1 rfl (n:=5) rfl,hs.ext,o,true,rfl,?_⟩
  unfold viewV
  rw [hst]; rfl
end Go.VC
end
