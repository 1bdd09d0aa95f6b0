/- TkS. -/
import Derived.Test.YtnfkibjnkiojnaaGreatDoorM17
import Derived.Test.YtnfkibjnkiojnaaGreatDoorM01
set_option linter.unusedVariables false
set_option linter.unusedSimpArgs false
set_option maxRecDepth 100000

section
/- Contract: Raw. -/
namespace Go.VC
open Go.Proofs Go.LexS

theorem app25:appB Pz 53 190 3 24=true:=by kernel_rfl
noncomputable def vwG (g:Gl) (role:Int):List Nat->Option Ti:=viewV (fun j:Nat=>firstE g role j) (fun j:Nat=>firstB g role j) (ownE g.es role g.n.toNat).1 (ownT g.es g.ts role g.n.toNat)
noncomputable def raw (g:Gl) (role:Int):Option Mch × Int:=
 if ¬ (ValidS g/\0<=role/\role<g.rs.length) then (none,1) else
 match views g role with
 | none=>(none,6)
 | some (S,M)=>if M.length > 400 then (none,6) else
  match rawL (vwG g role) 0 S M [] with
  | none=>(none,18)
  | some (M',L)=>(some ⟨role,S.length,0,S.map (fun p=>p g.e.toNat),M',L⟩,0)
def m0:List Value:=[.int .i64 0,.int .i64 0,.int .i64 0,.slice none 0 0,.slice none 0 0,.slice none 0 0]
def mC (m:Mch) (sf sm sl:Sl):List Value:=[.int .i64 m.role,.int .i64 m.n,.int .i64 m.s,.slice sf.a sf.n sf.c,.slice sm.a sm.n sm.c,.slice sl.a sl.n sl.c]
def mL (m:Mch) (sf sm sl:Sl):List It:=[.sl sf 4 1 (m.fin.map bC),.sl sm 108 6 (m.mv.map Mv.cs),.sl sl 190 3 (m.li.map To.cs)]
inductive MaR (o:Option Mch × Int) (h h':Heap):Value->Prop
 | err {e:Int} (he:o=(none,e)) (h0:e ≠ 0):MaR o h h' (.tuple ⟨[.agg ⟨m0⟩,.int .i64 e]⟩)
 | ok {m:Mch} {sf sm sl:Sl} (he:o=(some m,0)) (hs:St h h' (mL m sf sm sl)):MaR o h h' (.tuple ⟨[.agg ⟨mC m sf sm sl⟩,.int .i64 0]⟩)
def rwL (mb tb rb gb:Nat) (g:Gl) (role:Int) (ss fs ars sl:Sl) (E:List SE) (M:List Mv) (L:List To):List It:=
 [.blk mb [.int .i64 role,.int .i64 (ss.n:Nat),.int .i64 0,.slice fs.a fs.n fs.c,.slice ars.a ars.n ars.c,.slice sl.a sl.n sl.c] 55,.blk tb [.slice ss.a ss.n ss.c,.slice fs.a fs.n fs.c,.slice ars.a ars.n ars.c] 216,.sl ss 222 1 (E.map SE.hd),
  .sl fs 4 1 ((E.map fun e:SE=>e.p g.e.toNat).map bC),.sl ars 108 6 (M.map Mv.cs),.sl sl 190 3 (L.map To.cs),.blk rb m0 55,.blk gb g.cs 92]++E.map SE.it
theorem rwL.set {h0 h:Heap} {A:List It} {mb tb rb gb:Nat} {g:Gl} {role:Int} {ss fs ars sl:Sl} {E:List SE} {M:List Mv} {L:List To} (hs:St h0 h (A++rwL mb tb rb gb g role ss fs ars sl E M L)) (hE:∀ e ∈ E,SI e.ws e.k e.p):∀ e ∈ E,SetV h e.s e.p:=by
 intro e he
 have hm:e.it ∈ A++rwL mb tb rb gb g role ss fs ars sl E M L:=by
  rw [Yk]; right
  unfold rwL
  rw [Yk]; right
  exact List.mem_map_of_mem he
 have:=(hs.ok _ hm).1
 exact (hE e he).v this e.k
theorem perm8 {α:Type} (f a b g i c d e:α) (R:List α):(f::a::b::g::i::c::d::e::R).Perm (a::b::c::d::e::f::g::i::R):=
 (List.perm_append_comm_assoc [f] [a,b] _).trans (List.Perm.append_left [a,b] (List.perm_append_comm_assoc [f,g,i] [c,d,e] R))
theorem get_split2 {α:Type} {i:Nat} {f:α->α} {M:List α} {y:α} (h:M[i]?=some y):((M.take (i+1)).map f++M.drop (i+1))[i]?=some (f y):=by
 have h1:=(Ya.1 h).1
 rw [Yyi (by rw [Yc,Yu]; omega),Yd,Yyf,if_pos (by omega),h]; rfl
set_option maxHeartbeats 4000000 in
theorem raw14 (g:Gl) (role:Int) (h:Heap) (hg:GI h g) (hx:Gx h) :
  Fn Pz 114 #[g.v,.int .i64 role] h fun v h'=>Ext h h'/\MaR (raw g role) h h' v:=by
 apply vc114 (bs g.nm) g.hr g.hd g.n g.s g.e g.he g.ht; unfold W114
 have hs:=St.refl h
 have hrn:=hg.r.ln
 refine hs.newb fun h9 hs=>?_
 refine hs.newb fun h10 hs=>?_
 refine ⟨_,_,_,_,_,_,_,_,hs.at 1 rfl (n:=8) rfl,?_⟩
 refine (valid38 g h10 (hg.ext hs.ext) (hx.ext hs.ext)).mono ?_
 rintro _ h21 ⟨rfl,E21⟩
 replace hs:=hs.step E21
 refine ⟨_,rfl,?_⟩
 have hbad:∀ {o:Prop},¬ (ValidS g/\0<=role/\role<g.rs.length)->raw g role=(none,1):=fun h=>by unfold raw; rw [if_pos h]
 refine sB_intro (fun c1=>?_) (fun c1=>?_)
 ·
  have c1:=Yyo (bF c1)
  refine hs.put 0 rfl (o:=0) (vs:=m0) rfl (by decide) fun h22 hs=>?_
  refine ⟨0,0,0,⟨none,0,0⟩,⟨none,0,0⟩,⟨none,0,0⟩,hs.at 0 rfl (n:=6) rfl,hs.ext,?_⟩
  exact .err (hbad (o:=True) fun hc=>c1 hc.1) (by decide)
 have hV:ValidS g:=Yyn (bT c1)
 refine sBi (fun c2=>?_) (fun c2=>?_)
 ·
  refine hs.put 0 rfl (o:=0) (vs:=m0) rfl (by decide) fun h22 hs=>?_
  refine ⟨0,0,0,⟨none,0,0⟩,⟨none,0,0⟩,⟨none,0,0⟩,hs.at 0 rfl (n:=6) rfl,hs.ext,?_⟩
  exact .err (hbad (o:=True) fun hc=>by omega) (by decide)
 refine ⟨_,hs.rd 1 rfl rfl,?_⟩
 refine sBi (fun c3=>?_) (fun c3=>?_)
 ·
  refine hs.put 0 rfl (o:=0) (vs:=m0) rfl (by decide) fun h22 hs=>?_
  refine ⟨0,0,0,⟨none,0,0⟩,⟨none,0,0⟩,⟨none,0,0⟩,hs.at 0 rfl (n:=6) rfl,hs.ext,?_⟩
  exact .err (hbad (o:=True) fun hc=>by omega) (by decide)
 have hgood:ValidS g/\0<=role/\role<g.rs.length:=⟨hV,by omega,by omega⟩
 have hraw:raw g role=(match views g role with
  | none=>(none,6)
  | some (S,M)=>if M.length > 400 then (none,6) else
   match rawL (vwG g role) 0 S M [] with
   | none=>(none,18)
   | some (M',L)=>(some ⟨role,S.length,0,S.map (fun p=>p g.e.toNat),M',L⟩,0)):=by unfold raw; rw [if_neg (by simpa using hgood)]
 have hN:=hV.num.n
 refine ⟨_,_,_,_,_,_,_,_,hs.at 1 rfl (n:=8) rfl,?_⟩
 refine (views39 g role h21 (hg.ext hs.ext) (hx.ext hs.ext)).mono ?_
 rintro _ h57 ⟨E57,hvi⟩
 cases hvi with
 | bad hn=>exact absurd hgood hn
 | limit hv hn=>
  replace hs:=hs.step E57
  refine ⟨⟨none,0,0⟩,⟨none,0,0⟩,⟨none,0,0⟩,_,rfl,?_⟩
  refine hs.newput (vs:=sl0) rfl rfl fun h59 hs=>?_
  refine sBn (fun c4=>?_) (fun c4=>by omega)
  refine hs.put 1 rfl (o:=0) (vs:=m0) rfl (by decide) fun h22 hs=>?_
  refine ⟨0,0,0,⟨none,0,0⟩,⟨none,0,0⟩,⟨none,0,0⟩,hs.at 1 rfl (n:=6) rfl,hs.ext,?_⟩
  exact .err (by rw [hraw,hn]) (by decide)
 | @good _ ss fs ars E M hvw hsT hSI hEl hlt hMl=>
  rw [hvw] at hraw
  replace hs:=hs.join hsT
  clear hsT E57 E21 hvw
  refine ⟨ss,fs,ars,_,rfl,?_⟩
  refine hs.newput (vs:=[.slice ss.a ss.n ss.c,.slice fs.a fs.n fs.c,.slice ars.a ars.n ars.c]) rfl rfl fun h59 hs=>?_
  refine sBn (fun c4=>absurd rfl c4) (fun _=>?_)
  have har:=(hs.rows 5 (s:=ars) (cs:=Mv.cs) rfl (by omega)).ln
  have hsl:=(hs.rows 3 (s:=ss) (cs:=SE.hd) rfl (by omega)).ln
  refine ⟨ars,hs.rd 0 rfl rfl,?_⟩
  refine sBi (fun c5=>?_) (fun c5=>?_)
  ·
   refine hs.put 1 rfl (o:=0) (vs:=m0) rfl (by decide) fun h22 hs=>?_
   refine ⟨0,0,0,⟨none,0,0⟩,⟨none,0,0⟩,⟨none,0,0⟩,hs.at 1 rfl (n:=6) rfl,hs.ext,?_⟩
   exact .err (by rw [hraw]; show (if _ then _ else _)=_; rw [if_pos (by omega)]) (by decide)
  replace hraw:raw g role=(match rawL (vwG g role) 0 (E.map (·.p)) M [] with
   | none=>(none,18)
   | some (M',L)=>(some ⟨role,(E.map (·.p)).length,0,(E.map (·.p)).map (fun p=>p g.e.toNat),M',L⟩,0)):=by
   rw [hraw]; show (if _ then _ else _)=_; rw [if_neg (by omega)]
  refine ⟨_,_,_,_,_,_,_,_,hs.at 2 rfl (n:=8) rfl,?_⟩
  refine (prepare40 g role h59 (hg.ext hs.ext) (hx.ext hs.ext) hV hgood.2.1 hgood.2.2).mono ?_
  rintro _ h85 ⟨E85,pb,pg,sf,se,so,st,Q,rfl,hsP,hQ⟩
  replace hs:=hs.join hsP
  clear hsP E85
  have hev:∀ k,k<g.n.toNat->(firstE g role k).length<=400:=fun k _=>evs_len hV
  have hprx:∀ {h':Heap} {A B:List It},St h h' (A++(B++prL pb pg g sf se so st Q ((List.range g.n.toNat).map fun j:Nat=>firstB g role j) (ownE g.es role g.n.toNat).1 (ownT g.es g.ts role g.n.toNat)))->PrI h' ⟨pb,0,none⟩ g.n.toNat (fun j:Nat=>firstE g role j) (fun j:Nat=>firstB g role j) (ownE g.es role g.n.toNat).1 (ownT g.es g.ts role g.n.toNat):=
   fun h1=>prL_fin (h1.sub ((List.sublist_append_right _ _).trans (List.sublist_append_right _ _))) hQ (ownE_len _ _ _).1 (ownT_len _ _ _ _)
  generalize prL pb pg g sf se so st Q ((List.range g.n.toNat).map fun j:Nat=>firstB g role j) (ownE g.es role g.n.toNat).1 (ownT g.es g.ts role g.n.toNat)=PL at *
  clear hQ
  refine ⟨_,rfl,ss,hs.rd 0 rfl rfl,fs,hs.rd 0 rfl rfl,ars,hs.rd 0 rfl rfl,?_⟩
  refine hs.newput (vs:=[.int .i64 role,.int .i64 (ss.n:Int),.int .i64 0,.slice fs.a fs.n fs.c,.slice ars.a ars.n ars.c,.slice none 0 0]) rfl rfl fun h90 hs=>?_
  have hs:St h h90 (rwL h85.size h57.size h9.size h.size g role ss fs ars ⟨none,0,0⟩ E M []++PL):=by
   have h1:=hs.nil_ 190 3
   exact h1.perm (perm8 _ _ _ _ _ _ _ _ (E.map SE.it++PL))
  refine ⟨ss,hs.rd 1 rfl rfl,?_⟩
  refine ⟨fun x h' m=>∃ (n:Nat) (sl:Sl) (M':List Mv) (L:List To),x=n/\m=E.length - n/\n<=E.length/\St h h' (rwL h85.size h57.size h9.size h.size g role ss fs ars sl E M' L++PL)/\M'.length=M.length/\L.length<=n*400 /\
   rawL (vwG g role) 0 (E.map (·.p)) M []=rawL (vwG g role) n ((E.drop n).map (·.p)) M' L,⟨_,0,_,M,[],rfl,rfl,by omega,hs,rfl,by decide,by rw [List.drop_zero]⟩,?_⟩
  clear hs
  rintro - _ h96 m ⟨n,sl,M',L,rfl,rfl,hn,hs,hM',hL,hst⟩
  refine sBi (fun c6=>?_) (fun c6=>?_)
  ·
   refine (hs.rows 2 (s:=ss) (cs:=SE.hd) rfl (by omega)).nbI (by omega) (by omega) fun b97 o98 e g97 t97=>?_
   replace g97:E[n]?=some e:=g97
   have heE:=Yb g97
   have hep:∀ j:Nat,e.p j=true->(j:Int)<g.n:=hlt e.p (Yp.2 ⟨e,heE,rfl⟩)
   rw [drop_get g97,Yyl,rawL] at hst
   refine ⟨e.s,t97.hd,?_⟩
   refine (list42 e.p e.s h96 (hx.ext hs.ext) (rwL.set (A:=[]) (hs.sub (List.sublist_append_left _ _)) hSI e heE)).mono ?_
   rintro _ h102 ⟨E102,x101,rfl,ho101⟩
   replace hs:=hs.gift E102 ho101 (inrows _)
   refine ⟨x101,rfl,?_⟩
   have hel:∀ k ∈ elems e.p,k<g.n.toNat:=fun k hk=>by have:=hep k (elems_mem.1 hk).2; omega
   have hell:(elems e.p).length<=4096:=by unfold elems; exact Yys (List.length_filter_le _ _) (by rw [Yyd]; exact Yyt _)
   refine (view41 pb g.n.toNat _ _ _ _ (elems e.p) x101 h102 (hprx (A:=[_]) (B:=rwL _ _ _ _ _ _ _ _ _ _ _ _ _) hs) (hs.rows 0 rfl (by omega)) hel hell hev).mono ?_
   rintro _ h110 ⟨E110,o,ok,rfl,hvw⟩
   replace hs:=(hs.step E110).eras 0
   refine ⟨_,_,_,_,_,_,rfl,?_⟩
   refine hs.newput (vs:=Ti.cs o) rfl rfl fun h112 hs=>?_
   rw [show vwG g role (elems e.p)=if ok then some o else none from hvw] at hst
   refine sB_intro (fun c7=>?_) (fun c7=>?_)
   ·
    have c7:=bF c7
    subst c7
    refine hs.put 7 rfl (o:=0) (vs:=m0) rfl (by decide) fun h22 hs=>?_
    refine ⟨0,0,0,⟨none,0,0⟩,⟨none,0,0⟩,⟨none,0,0⟩,hs.at 7 rfl (n:=6) rfl,hs.ext,?_⟩
    exact .err (by rw [hraw,hst]; rfl) (by decide)
   ·
    have c7:=bT c7
    subst c7
    replace hst:rawL (vwG g role) 0 (E.map (·.p)) M []=rawL (vwG g role) (n+1) ((E.drop (n+1)).map (·.p)) (M'.map (updR n o)) (L++limR n o M'):=hst
    refine ⟨ars,hs.rd 1 rfl rfl,?_⟩
    have har':=(hs.rows 5 (s:=ars) (cs:=Mv.cs) rfl (by omega)).ln
    refine ⟨fun x h' m=>∃ (i:Nat) (sl:Sl),x=i/\m=M'.length - i/\i<=M'.length/\St h h' (.blk h110.size o.cs 226::(rwL h85.size h57.size h9.size h.size g role ss fs ars sl E ((M'.take i).map (updR n o)++M'.drop i) (L++limR n o (M'.take i))++PL)),⟨_,0,sl,rfl,rfl,by omega,?_⟩,?_⟩
    ·
     have e1:limR n o (M'.take 0)=[]:=rfl
     rw [e1,Yw,Yyk,List.drop_zero]; exact hs
    clear hs
    rintro - _ h125 m ⟨i,sl2,rfl,rfl,hi,hs⟩
    have hll:=(hs.rows 6 (s:=sl2) (cs:=To.cs) rfl (by omega)).ln
    rw [Yh] at hll
    have hlr:=limR_len n o (M'.take i)
    rw [Yu] at hlr
    refine sBi (fun c8=>?_) (fun c8=>?_)
    ·
     refine ⟨ars,hs.rd 1 rfl rfl,?_⟩
     have hal:=(hs.rows 5 (s:=ars) (cs:=Mv.cs) rfl (by omega)).ln
     obtain ⟨y,gy⟩:=get_some (l:=M') (i:=i) (by omega)
     have hnext:∀ {h':Heap} {sl3:Sl} {q:List To},limC n o (y,i)=q[0]?->q.length<=1->St h h' (.blk h110.size o.cs 226::(rwL h85.size h57.size h9.size h.size g role ss fs ars sl3 E ((M'.take (i+1)).map (updR n o)++M'.drop (i+1)) (L++limR n o (M'.take i)++q)++PL)) ->
       ∃ m,m<M'.length - i/\∃ (i2:Nat) (sl:Sl),IntKind.wrap .i64 ((i:Int)+1)=i2/\m=M'.length - i2/\i2<=M'.length/\St h h' (.blk h110.size o.cs 226::(rwL h85.size h57.size h9.size h.size g role ss fs ars sl E ((M'.take i2).map (updR n o)++M'.drop i2) (L++limR n o (M'.take i2))++PL)):=by
      intro h' sl3 q hq hql h1
      refine ⟨_,by omega,i+1,sl3,by rw [w64 (by omega) (by omega)]; omega,rfl,by omega,?_⟩
      have e1:limR n o (M'.take (i+1))=limR n o (M'.take i)++q:=by
       unfold limR
       rw [zip_snoc gy,List.filterMap_append]
       congr 1
       rw [List.filterMap_cons,hq]
       match q,hql with
       | [],_=>rfl
       | [a],_=>rfl
      rw [e1,<- Yz]
      exact h1
     refine hs.nbw 5 (s:=ars) (cs:=Mv.cs) rfl (by omega) (by omega) (by omega) fun b127 o128 y' g127 ha127 t127 wr=>?_
     rw [Ys,get_split,gy] at g127
     cases g127
     refine ⟨_,t127.hd,?_⟩
     refine sBn (fun c9=>?_) (fun c9=>?_)
     ·
      have e2:updR n o y=y:=by unfold updR; rw [if_neg (fun hc=>c9 hc.1)]
      refine hnext (sl3:=sl2) (q:=[]) ?_ (by decide) ?_
      ·
       unfold limC; rw [if_neg (fun hc=>c9 hc.1)]; rfl
      ·
       rw [Yw,take_snoc gy,Ym,Yz,List.map_singleton,e2,List.singleton_append,<- drop_get gy]; exact hs
     refine ⟨_,t127.nth 1 rfl,?_⟩
     refine sB_intro (fun c10=>?_) (fun c10=>?_)
     ·
      have c10:=bF c10
      have e2:updR n o y=y:=by unfold updR; rw [if_neg (fun hc=>by rw [c10] at hc; cases hc.2)]
      refine hnext (sl3:=sl2) (q:=[]) ?_ (by decide) ?_
      ·
       unfold limC; rw [if_neg (fun hc=>by rw [c10] at hc; cases hc.2.1)]; rfl
      ·
       rw [Yw,take_snoc gy,Ym,Yz,List.map_singleton,e2,List.singleton_append,<- drop_get gy]; exact hs
     have c10:=bT c10
     refine ⟨_,hs.rd 0 rfl rfl,?_⟩
     have e2:updR n o y={ y with ag:=o.ag }:=by unfold updR; rw [if_pos ⟨c9,c10⟩]
     refine wr 5 { y with ag:=o.ag } [.bool o.ag] rfl (show 6<=6 by decide) rfl fun h134 hs=>?_
     rw [Ys,set_split (f:=updR n o) gy e2] at hs
     have hat:=(hs.rows 5 (s:=ars) (cs:=Mv.cs) rfl (by omega)).atI ha127 (get_split2 (f:=updR n o) gy)
     rw [e2] at hat
     refine ⟨_,hs.rd 0 rfl rfl,?_⟩
     have hno:¬ (o.k > 0/\o.x=⟨true,y.peer,y.label⟩)->limC n o (y,i)=([]:List To)[0]?:=fun hc=>by unfold limC; rw [if_neg (fun h=>hc ⟨h.2.2.1,h.2.2.2⟩)]; rfl
     refine sBi (fun c11=>?_) (fun c11=>?_)
     ·
      refine ⟨_,_,_,hs.at 0 rfl (o:=2) (n:=3) rfl,_,hat.nth 2 rfl,_,hat.nth 3 rfl,?_⟩
      refine sB_intro (fun c12=>?_) (fun c12=>?_)
      ·
       have c12:=Yyn ((ev_eqb o.x ⟨true,y.peer,y.label⟩).symm.trans c12)
       refine ⟨_,hs.rd 1 rfl rfl,_,hs.rd 0 rfl rfl,?_⟩
       refine hs.app 6 rfl app25 (m:=1) [To.cs ⟨n,o.k,i⟩] rfl rfl (fun r hr=>by rw [Ye] at hr; rw [hr]; rfl) rfl (by omega) (by simp only [maxLen]; omega) fun s144 h145 ns hs=>?_
       refine hs.put 1 rfl (o:=5) (vs:=[.slice s144.a s144.n s144.c]) rfl (show 6<=6 by decide) fun h146 hs=>?_
       refine hnext (sl3:=s144) (q:=[⟨n,o.k,i⟩]) ?_ (by show 1<=1; decide) ?_
       ·
        unfold limC; rw [if_pos ⟨c9,c10,c11,c12⟩]; rfl
       ·
        unfold rwL
        rw [Ym (l₁:=L++limR n o (M'.take i))]
        exact hs
      ·
       have c12:=Yyo ((ev_eqb o.x ⟨true,y.peer,y.label⟩).symm.trans c12)
       refine hnext (sl3:=sl2) (q:=[]) (hno fun hc=>c12 hc.2) (by decide) ?_
       rw [Yw]; exact hs
     ·
      refine hnext (sl3:=sl2) (q:=[]) (hno fun hc=>c11 hc.1) (by decide) ?_
      rw [Yw]; exact hs
    ·
     have hi2:i=M'.length:=by omega
     subst hi2
     rw [Yye,List.drop_length,Yw] at hs
     refine ⟨_,by omega,n+1,sl2,M'.map (updR n o),L++limR n o M',by rw [w64 (by omega) (by omega)]; omega,rfl,by omega,hs.drop 1,by rw [Yc]; exact hM',by rw [Yh]; have:=limR_len n o M'; omega,hst⟩
  ·
   have hn2:n=E.length:=by omega
   subst hn2
   rw [List.drop_length] at hst
   replace hst:rawL (vwG g role) 0 (E.map (·.p)) M []=some (M',L):=hst
   refine ⟨_,_,_,fs,ars,sl,hs.at 0 rfl (n:=6) rfl,?_⟩
   refine hs.put 6 rfl (o:=0) (vs:=[.int .i64 role,.int .i64 (ss.n:Nat),.int .i64 0,.slice fs.a fs.n fs.c,.slice ars.a ars.n ars.c,.slice sl.a sl.n sl.c]) rfl (show 6<=6 by decide) fun h157 hs=>?_
   refine ⟨_,_,_,fs,ars,sl,hs.at 6 rfl (n:=6) rfl,hs.ext,?_⟩
   have hfin:(E.map (·.p)).map (fun p=>p g.e.toNat)=E.map fun e:SE=>e.p g.e.toNat:=by rw [List.map_map]; rfl
   have hm:raw g role=(some ⟨role,ss.n,0,E.map fun e:SE=>e.p g.e.toNat,M',L⟩,0):=by rw [hraw,hst,hsl,<- hfin,Yc]
   exact .ok (m:=⟨role,ss.n,0,E.map fun e:SE=>e.p g.e.toNat,M',L⟩) hm ((hs.drop 3).sub (List.sublist_append_left [_,_,_] _))
end Go.VC
end
