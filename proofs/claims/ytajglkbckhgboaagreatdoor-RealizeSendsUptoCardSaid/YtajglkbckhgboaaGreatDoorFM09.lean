/- SxM14 SxM15 SxM16 SxKa SxKb SxKc SxKd SxKe SxKf SxKg SxKh SxKj SxKk SxM17 SxM19 SxM20 SyH SyK SyIa SyIs SxM21 SxM22 SyA SyB SyC SyI SyL SxArgs SxArgs3. -/
import Derived.Test.YtajglkbckhgboaaGreatDoorFM08
import Derived.Test.YtajglkbckhgboaaGreatDoorRows
set_option linter.all false
set_option maxRecDepth 100000
set_option maxHeartbeats 8000000

section
namespace Go.VC
open Go.Proofs Go.LexS
theorem St.rlm2 {α:Type} {h0 h:Heap} {L:List It} (hs:St h0 h L) {s:Sl} {e:TypeId} {n:Nat} {cs:α->List Value} {X:List α} (hi:.sl s e n (X.map cs)∈L) (hn:0<n) (hl:X.length<=1048576):RL h n s cs X:=by
 obtain⟨k,hk⟩:=Yf.1 hi;have h1:=hs.len k hk hn;exact⟨hs.rwm hi hn,h1.2.1,h1.2.2,hl⟩
structure XOk (g:Gl) (role:Int) (X:An):Prop where
 fi:X.fi.map (fun f=>(f.l,f.b))=(List.range g.n.toNat).map fun s=>(firstE g role (s:Nat),firstB g role (s:Nat))
 li:X.li=(List.range g.n.toNat).map (limFo g role g.ts)
 ag:X.ag=(List.range g.n.toNat).map (agFo g.es)
 ow:X.ow=(List.range g.n.toNat).map (owFo g.es role)
 ar:X.ar.map Prod.snd=(List.range g.n.toNat).map (arrS g role)
 an:∀q∈X.ar,∀x∈q.2,0<x.n/\x.n<=1048577
theorem XOk.arOk {g:Gl} {role:Int} {X:An} (h:XOk g role X):ArOk g X:=fun q hq y hy=>by
 have h1:q.2∈X.ar.map Prod.snd:=Yp.2 ⟨q,hq,rfl⟩;rw[h.ar] at h1;obtain⟨s,_,h2⟩:=Yp.1 h1;rw[<-h2] at hy;unfold arrS at hy;obtain⟨i,hi,hy⟩:=List.mem_flatMap.1 hy;unfold arr1 at hy;obtain⟨x,hx,_⟩:=outG_mem.1 hi;split at hy
 .unfold arM at hy;obtain⟨m,hm,rfl⟩:=Yp.1 hy;exact⟨i,m,rfl,(Ya.1 hx).1,(List.mem_filter.1 hm).1⟩
 .cases hy
theorem XOk.ckB {g:Gl} {role:Int} {X:An} (h:XOk g role X) (kind:Int) (A:List Pr):CkB X kind A 1048578:=by
 refine⟨fun q hq x hx=>(h.an q hq x hx).1,fun p _ c hc=>?_,by decide⟩;unfold cstS at hc;split at hc
 .split at hc
  .split at hc
   .cases hc;exact⟨by decide,by decide⟩
   .cases hc
  .cases hc
 .split at hc
  .split at hc
   .cases hc;exact⟨by decide,by decide⟩
   .cases hc
  .split at hc
   .rename_i ft q _ gq;obtain⟨y,hy,rfl⟩:=Yya.1 hc;have:=h.an q (Yb gq) y (arvF_mem hy).1;omega
   .cases hc
def anX (ho hfi hli hag how har:Sl) (OU:List OuR) (FI:List Fs) (LI:List Lm) (AG OW:List Bool) (AR:List ArR):An:=⟨ho,fun i=>((OU[i]?).map Prod.fst).getD ⟨none,0,0⟩,hfi,FI,hli,LI,hag,AG,how,OW,har,AR⟩
theorem anF_of {h0 h:Heap} {ab gb:Nat} {g:Gl} {role:Int} {ho hfi hli hag how har:Sl} {OU:List OuR} {FI:List Fs} {LI:List Lm} {AG OW:List Bool} {AR:List ArR} {R:List It} (hs:St h0 h (anB ab gb g role ho hfi hli hag how har OU FI LI AG OW AR R)) (hg:GI h0 g) (hV:ValidS g) (hS:AnSpec g role OU FI LI AG OW) (hAR:ArI g role (arrS g role) AR) (hAl:∀q∈AR,q.2.length<=160000) :
  AnF h ab g role (anX ho hfi hli hag how har OU FI LI AG OW AR)/\XOk g role (anX ho hfi hli hag how har OU FI LI AG OW AR):=by
 obtain⟨hO,hF,hL,hAg,hOw⟩:=hS;have hN:=hV.num.n;have hFl:FI.length=g.n.toNat:=by have:=congrArg List.length hF;simpa using this
 have hLl:LI.length=g.n.toNat:=by rw[hL];simp
 have hAgl:AG.length=g.n.toNat:=by rw[hAg];simp
 have hOwl:OW.length=g.n.toNat:=by rw[hOw];simp
 have hARl:=hAR.len;have hOl:OU.length=g.n.toNat:=by have:=congrArg List.length hO;simpa using this
 have hG:AnG h ab g role ho (fun i=>((OU[i]?).map Prod.fst).getD ⟨none,0,0⟩):=anA_G (by rw[<-anB_eq];exact hs) hg hO;have m8:∀ {x:It},x∈[.blk ab (anC g role ho hfi hli hag how har) 186,.sl ho 102 1 ((OU.map Prod.fst).map slC),.sl hfi 195 2 (FI.map Fs.cs),.sl hli 192 4 (LI.map Lm.cs),.sl hag 4 1 (AG.map bC),.sl how 4 1 (OW.map bC),.sl har 274 1 ((AR.map Prod.fst).map slC),.blk gb g.cs 27]->x∈anB ab gb g role ho hfi hli hag how har OU FI LI AG OW AR R:=fun hx=>by
  unfold anB;exact List.mem_append_left _ (List.mem_append_left _ (List.mem_append_left _ (List.mem_append_left _ hx)))
 have mf:∀f∈FI,fIt f∈anB ab gb g role ho hfi hli hag how har OU FI LI AG OW AR R:=fun f hf=>by
  unfold anB;exact List.mem_append_left _ (List.mem_append_left _ (List.mem_append_right _ (Yp.2 ⟨f,hf,rfl⟩)))
 have ma:∀q∈AR,nest 276 4 Arv.cs q∈anB ab gb g role ho hfi hli hag how har OU FI LI AG OW AR R:=fun q hq=>by
  unfold anB;exact List.mem_append_left _ (List.mem_append_right _ (Yp.2 ⟨q,hq,rfl⟩))
 have hfe:∀f∈FI,f.l.length<=1048576:=fun f hf=>by
  have h1:(f.l,f.b)∈FI.map (fun f=>(f.l,f.b)):=Yp.2 ⟨f,hf,rfl⟩;rw[hF] at h1;obtain⟨s,_,h2⟩:=Yp.1 h1;have h3:firstE g role (s:Nat)=f.l:=congrArg Prod.fst h2;have h4:(firstE g role (s:Nat)).length<=400:=evs_len hV;rw[<-h3];omega
 refine⟨⟨hG,⟨?_,?_,?_,?_,?_,?_,fun f hf=>?_,?_,?_,?_⟩,?_,?_,fun q hq=>?_,hFl,hLl,hAgl,hOwl,hARl⟩,⟨hF,hL,hAg,hOw,hAR.l,hAR.b⟩⟩
 .exact hs.rd 0 rfl (i:=8) rfl
 .exact hs.rd 0 rfl (i:=10) rfl
 .exact hs.rd 0 rfl (i:=11) rfl
 .exact hs.rd 0 rfl (i:=12) rfl
 .exact hs.rd 0 rfl (i:=13) rfl
 .exact hs.rlm2 (X:=FI) (cs:=Fs.cs) (s:=hfi) (e:=195) (m8 (Yb (i:=2) rfl)) (by decide) (by show FI.length<=_;omega)
 .exact hs.rlm2 (e:=188) (mf f hf) (by decide) (hfe f hf)
 .exact hs.rlm2 (X:=LI) (cs:=Lm.cs) (s:=hli) (e:=192) (m8 (Yb (i:=3) rfl)) (by decide) (by show LI.length<=_;omega)
 .exact hs.rlm2 (X:=AG) (cs:=bC) (s:=hag) (e:=4) (m8 (Yb (i:=4) rfl)) (by decide) (by show AG.length<=_;omega)
 .exact hs.rlm2 (X:=OW) (cs:=bC) (s:=how) (e:=4) (m8 (Yb (i:=5) rfl)) (by decide) (by show OW.length<=_;omega)
 .exact hs.rd 0 rfl (i:=14) rfl
 .exact hs.rlm2 (X:=AR.map Prod.fst) (cs:=slC) (s:=har) (e:=274) (m8 (Yb (i:=6) rfl)) (by decide) (by show (AR.map Prod.fst).length<=_;rw[Yc];omega)
 .exact hs.rlm2 (e:=276) (ma q hq) (by decide) (by have:=hAl q hq;omega)
def kindP (g:Gl) (role:Int) (X:An) (i:Nat) (W:WS) (n:Int):Prop:=
 match i with
 | 0=>BpP g role 1 X W n
 | 1=>MxP g role X W n
 | 2=>BpP g role 3 X W n
 | _=>BpP g role 4 X W n
inductive FindI (g:Gl) (role:Int) (X:An):Nat->WS->Int->Prop
 | zero:FindI g role X 0 ws0 farI
 | take {i:Nat} {W W':WS} {n n':Int}:FindI g role X i W n->kindP g role X i W' n'->n'<n->FindI g role X (i+1) W' n'
 | keep {i:Nat} {W W':WS} {n n':Int}:FindI g role X i W n->kindP g role X i W' n'->¬n'<n->FindI g role X (i+1) W n
def FindP (g:Gl) (role:Int) (W:WS) (n:Int):Prop:=∃X:An,XOk g role X/\FindI g role X 4 W n
theorem cal120:callable Pz 95=true:=by kernel_rfl
theorem cal122:callable Pz 97=true:=by kernel_rfl
theorem cal123:callable Pz 98=true:=by kernel_rfl
theorem cal124:callable Pz 99=true:=by kernel_rfl
def fdL (bb ab mb:Nat) (w:Wt) (F S:List Ac) (all:Sl) (m:Nat):List It:=
 [.blk bb w.cs 35,.sl w.f 65 3 (F.map Ac.cs),.sl w.s 65 3 (S.map Ac.cs),.blk mb [.map (some m)] 93,.blk ab [.slice all.a all.n all.c] 92]
def FOut (h h':Heap) (W:WS) (n:Int) (v:Value):Prop:=∃w:Wt,w.k=W.k/\w.r=W.r/\w.e=W.e/\w.o=W.o/\v=.tuple ⟨[.agg ⟨w.cs⟩,.int .i64 n,.int .i64 0]⟩/\∃L,St h h' (.sl w.f 65 3 (W.F.map Ac.cs) :: .sl w.s 65 3 (W.S.map Ac.cs)::L)
theorem perm9 {α:Type} (a b c d e f x y:α) (L:List α):List.Perm (a::b::c::d::e::f::x::y::L) (b::x::y::e::f::a::c::d::L):=by
 have h1:List.Perm (a::b::c::d::e::f::x::y::L) (b::a::c::d::e::f::x::y::L):=List.Perm.swap _ _ _;refine h1.trans (List.Perm.cons _ ?_);have h2:List.Perm ([a,c,d,e,f]++([x,y]++L)) ([x,y]++([a,c,d,e,f]++L)):=by
  rw[<-Yz,<-Yz];exact List.Perm.append_right _ List.perm_append_comm
 refine h2.trans (List.Perm.cons _ (List.Perm.cons _ ?_));have h3:List.Perm ([a,c,d]++([e,f]++L)) ([e,f]++([a,c,d]++L)):=by
  rw[<-Yz,<-Yz];exact List.Perm.append_right _ List.perm_append_comm
 exact h3
theorem find69 (g:Gl) (role:Int) (h:Heap) (hg:GI h g) (hx:Gm h) (hV:ValidS g) (hr:0<=role/\role<g.rs.length) :
  Fn Pz 41 #[g.v,.int .i64 role] h fun v h'=>∃W n,FindP g role W n/\FOut h h' W n v:=by
 apply vc41 (bs g.nm) g.hr g.hd g.n g.s g.e g.he g.ht role;unfold W41;refine (St.refl h).newb fun h9 hs=>?_;refine hs.newb fun h10 hs=>?_;refine⟨_,_,_,_,_,_,_,_,hs.at 1 rfl (o:=0) (n:=8) rfl,?_⟩;refine (analyse117 g role h10 (hg.ext hs.ext) (hx.ext hs.ext)).mono ?_;rintro _ h22 (⟨hno,_⟩ | ⟨_,ab,ho,hfi,hli,hag,how,har,OU,FI,LI,AG,OW,rfl,hsA,hSp⟩)
 .exact absurd ⟨hV,hr.1,hr.2⟩ hno
 have hEA:=hs.ext;replace hs:=(hs.join hsA).perm List.perm_append_comm;refine⟨some ⟨ab,0,none⟩,0,rfl,?_⟩;refine hs.newput (vs:=[.pointer (some ⟨ab,0,none⟩)]) rfl rfl fun h24 hs=>?_;refine sBn (fun c=>absurd rfl c) (fun _=>?_);refine⟨some ⟨ab,0,none⟩,hs.rd 0 rfl (i:=0) rfl,?_⟩;have hs0:St h h24 (anB ab h10.size g role ho hfi hli hag how har OU FI LI AG OW (List.replicate g.n.toNat (nilS,[])) [.blk h9.size wt0.cs 35,.blk h.size g.cs 27,.blk h22.size [.pointer (some ⟨ab,0,none⟩)] 89]):=by
  rw[anB_eq];have hs:=hs.perm (List.perm_append_comm (l₁:=[_]) (l₂:=anA ab h10.size g role ho hfi hli hag how har OU FI LI AG OW (List.replicate g.n.toNat (nilS,[]))++[_,_]));rw[Yz] at hs;exact hs
 refine (early118 hs0 hg hx hV hSp.1).mono ?_;rintro _ h42 ⟨rfl,AR,hs1,hAR,hAl⟩;refine⟨rfl,?_⟩;obtain⟨hA,hX⟩:=anF_of hs1 hg hV hSp hAR hAl;generalize anX ho hfi hli hag how har OU FI LI AG OW AR=X at hA hX;have hs1:St h h42 [.blk h9.size wt0.cs 35,.blk h.size g.cs 27,.blk h22.size [.pointer (some ⟨ab,0,none⟩)] 89]:=hs1.subp (by unfold anB;exact List.perm_append_comm);refine⟨some ⟨ab,0,none⟩,hs1.rd 2 rfl (i:=0) rfl,?_⟩;refine (reached119 ab g role X.ho X.os h42 hA.gg hV).mono ?_;rintro _ h47 ⟨E47,all,mb,A,l,rfl,hM⟩;have hs2:=hs1.step E47;have hA2:=hA.ext E47;have hx2:=hx.ext hs2.ext;have hp0:hc h47 ⟨h22.size,0,none⟩=some (Value.pointer (some ⟨ab,0,none⟩)):=hs2.rd 2 rfl (i:=0) rfl;refine⟨all,some mb,rfl,?_⟩;refine (St.refl h47).newb fun h48 hs=>?_;refine hs.newb fun h49 hs=>?_;refine hs.put 1 rfl (o:=0) (vs:=[.slice all.a all.n all.c]) rfl (Yyt 1) fun h50 hs=>?_;refine hs.put 0 rfl (o:=0) (vs:=[.map (some mb)]) rfl (Yyt 1) fun h51 hs=>?_;refine hs.newput (vs:=wt0.cs) rfl rfl fun h53 hs=>?_;have hs:St h47 h53 (fdL h51.size h47.size h48.size wt0 [] [] all mb):=(((hs.nil_ 65 3).nil_ 65 3).perm (List.perm_append_comm (l₁:=[_,_]) (l₂:=[_,_,_]))).subp (R:=[]) (by
  rw[Yw];exact List.Perm.cons _ (List.perm_append_comm (l₁:=[_,_]) (l₂:=[_,_])))
 refine⟨some ⟨ab,0,none⟩,hc_ext hs.ext hp0,?_⟩;refine hs.newput (vs:=[.func (.func 95) #[] #[.pointer (some ⟨h22.size,0,none⟩),.pointer (some ⟨h47.size,0,none⟩),.pointer (some ⟨h48.size,0,none⟩)],.func (.func 97) #[.pointer (some ⟨ab,0,none⟩)] #[],.func (.func 98) #[] #[.pointer (some ⟨h22.size,0,none⟩),.pointer (some ⟨h47.size,0,none⟩),.pointer (some ⟨h48.size,0,none⟩)],.func (.func 99) #[] #[.pointer (some ⟨h22.size,0,none⟩),.pointer (some ⟨h47.size,0,none⟩),.pointer (some ⟨h48.size,0,none⟩)]]) rfl rfl fun h56 hs=>?_;refine⟨_,_,_,_,hs.at 0 rfl (o:=0) (n:=4) rfl,?_⟩;refine⟨fun len x h' μ=>∃(i:Nat) (W:WS) (w:Wt),x=(i:Int)/\4-i=μ/\i<=4/\FindI g role X i W len/\w.k=W.k/\w.r=W.r/\w.e=W.e/\w.o=W.o/\St h47 h' (fdL h51.size h47.size h48.size w W.F W.S all mb),⟨_,0,ws0,wt0,rfl,rfl,by decide,.zero,rfl,rfl,rfl,rfl,hs.drop 1⟩,?_⟩;clear hs;rintro-len _ h66 μ ⟨i,W,w,rfl,rfl,hi,hF,e1,e2,e3,e4,hs⟩;have fin:∀(v:Value) (h87:Heap),(∃W' n',kindP g role X i W' n'/\WOut h66 h87 W' n' v)->i<4->∃x72:Int,∃x73:Int,∃x74:Sl,∃x75:Sl,∃x76:Int,∃x77:Bool,∃x78:Int,∃x79:Int,∃x80:Sl,∃x81:Int,∃x82:Bool,∃x83:Int,∃x84:Int,∃x85:Sl,∃x86:Int,v=.tuple ⟨[.agg ⟨[.int .i64 x72,.int .i64 x73,.slice x74.a x74.n x74.c,.slice x75.a x75.n x75.c,.int .i64 x76,.bool x77,.int .i64 x78,.int .i64 x79,.slice x80.a x80.n x80.c,.int .i64 x81,.bool x82,.int .i64 x83,.int .i64 x84,.slice x85.a x85.n x85.c]⟩,.int .i64 x86]⟩ /\
   V41k h87 x72 x73 x74 x75 x76 x77 x78 x79 x80 x81 x82 x83 x84 x85 x86 len h51 (4-i) (fun len x h' μ=>∃(i:Nat) (W:WS) (w:Wt),x=(i:Int)/\4-i=μ/\i<=4/\FindI g role X i W len/\w.k=W.k/\w.r=W.r/\w.e=W.e/\w.o=W.o/\St h47 h' (fdL h51.size h47.size h48.size w W.F W.S all mb)) (i:Int):=by
  rintro _ h87 ⟨W',n',hkp,w',f1,f2,f3,f4,rfl,L,hs'⟩ hi4;refine⟨w'.k,w'.r,w'.f,w'.s,w'.e.r,w'.e.s,w'.e.p,w'.e.l,nilS,w'.o.r,w'.o.s,w'.o.p,w'.o.l,nilS,n',rfl,?_⟩;unfold V41k;have hs:=hs.join hs';refine hs.newput (vs:=w'.cs) rfl rfl fun h89 hs=>?_;refine sBi (fun c=>?_) (fun c=>?_)
  .refine cpW hs 0 1 (w:=w') (w0:=w) rfl rfl fun h104 hs=>?_;refine⟨_,?_,i+1,W',w',by rw[w64 (by omega) (by omega)];omega,rfl,by omega,.take hF hkp c,f1,f2,f3,f4,?_⟩
   .omega
   .refine hs.subp (R:=.blk h87.size w'.cs 35 :: .sl w.f 65 3 (W.F.map Ac.cs) :: .sl w.s 65 3 (W.S.map Ac.cs)::L) ?_;show List.Perm (.blk h87.size w'.cs 35 :: .blk h51.size w'.cs 35 :: .sl w.f 65 3 (W.F.map Ac.cs) :: .sl w.s 65 3 (W.S.map Ac.cs) :: .blk h48.size [.map (some mb)] 93 :: .blk h47.size [.slice all.a all.n all.c] 92 :: .sl w'.f 65 3 (W'.F.map Ac.cs) :: .sl w'.s 65 3 (W'.S.map Ac.cs)::L) (.blk h51.size w'.cs 35 :: .sl w'.f 65 3 (W'.F.map Ac.cs) :: .sl w'.s 65 3 (W'.S.map Ac.cs) :: .blk h48.size [.map (some mb)] 93 :: .blk h47.size [.slice all.a all.n all.c] 92 :: .blk h87.size w'.cs 35 :: .sl w.f 65 3 (W.F.map Ac.cs) :: .sl w.s 65 3 (W.S.map Ac.cs)::L);exact perm9 _ _ _ _ _ _ _ _ L
  .refine⟨_,?_,i+1,W,w,by rw[w64 (by omega) (by omega)];omega,rfl,by omega,.keep hF hkp c,e1,e2,e3,e4,?_⟩
   .omega
   .exact (hs.drop 1).subp (List.Perm.refl _)
 refine sBi (fun c=>?_) (fun c=>?_)
 .refine⟨⟨by omega,by omega⟩,?_⟩;have hP:=hp0;have hMx:=(hM.ext hs.ext);have hAx:=(hA2.ext hs.ext);have hxx:=(hx2.ext hs.ext);have hc0:=hc_ext hs.ext hp0;have hc1:hc h66 ⟨h47.size,0,none⟩=some (Value.slice all.a all.n all.c):=hs.rd 4 rfl (i:=0) rfl;have hc2:hc h66 ⟨h48.size,0,none⟩=some (Value.map (some mb)):=hs.rd 3 rfl (i:=0) rfl;have hi4:i<4:=by omega
  match i,hi4,fin with
  | 0,hi4,fin=>
   refine⟨_,rfl,?_⟩;show cond (callable Pz 95) _ _;rw[cal120,cond_true];exact (clo120 ab g role X all mb A l 1048578 _ _ _ h66 hc0 hc1 hc2 hAx hxx hV hMx (hX.ckB 1 A) hX.arOk).mono fun v h87 hr=>fin v h87 hr hi4
  | 1,hi4,fin=>
   refine⟨_,rfl,?_⟩;show cond (callable Pz 97) _ _;rw[cal122,cond_true];exact (mixed122 ab g role X h66 hAx hV).mono fun v h87 hr=>fin v h87 hr.out hi4
  | 2,hi4,fin=>
   refine⟨_,rfl,?_⟩;show cond (callable Pz 98) _ _;rw[cal123,cond_true];exact (clo123 ab g role X all mb A l 1048578 _ _ _ h66 hc0 hc1 hc2 hAx hxx hV hMx (hX.ckB 3 A) hX.arOk).mono fun v h87 hr=>fin v h87 hr hi4
  | 3,hi4,fin=>
   refine⟨_,rfl,?_⟩;show cond (callable Pz 99) _ _;rw[cal124,cond_true];exact (clo124 ab g role X all mb A l 1048578 _ _ _ h66 hc0 hc1 hc2 hAx hxx hV hMx (hX.ckB 4 A) hX.arOk).mono fun v h87 hr=>fin v h87 hr hi4
 .have:i=4:=by omega
  subst this;have hs:=hs2.join hs;refine cpW hs 3 0 (w:=w) (w0:=wt0) rfl rfl fun h121 hs=>?_;refine rdW (w:=w) (Q:=fun cs=>∃W n,FindP g role W n/\FOut h h121 W n (.tuple ⟨[.agg ⟨cs⟩,.int .i64 len,.int .i64 0]⟩)) (hs.at 0 rfl (o:=0) (n:=14) rfl) ?_;exact⟨W,len,⟨X,hX,hF⟩,w,e1,e2,e3,e4,rfl,_,hs.drop 4⟩
inductive ChkI (g:Gl):Nat->WS->Int->Prop
 | zero:ChkI g 0 ws0 farI
 | take {i:Nat} {W W':WS} {n n':Int}:ChkI g i W n->FindP g (i:Int) W' n'->(n'<n\/n'=n/\n'<farI/\W'.k<W.k)->ChkI g (i+1) W' n'
 | keep {i:Nat} {W W':WS} {n n':Int}:ChkI g i W n->FindP g (i:Int) W' n'->¬(n'<n\/n'=n/\n'<farI/\W'.k<W.k)->ChkI g (i+1) W n
inductive ChkR (g:Gl) (h h':Heap):Value->Prop
 | bad (hV:¬ValidS g) (E:Ext h h'):ChkR g h h' (.tuple ⟨[.agg ⟨wt0.cs⟩,.int .i64 1]⟩)
 | ok {W:WS} (hV:ValidS g) (hC:ChkI g g.rs.length W farI) (E:Ext h h'):ChkR g h h' (.tuple ⟨[.agg ⟨wt0.cs⟩,.int .i64 0]⟩)
 | err {v:Value} {W:WS} {n:Int} (hV:ValidS g) (hC:ChkI g g.rs.length W n) (hn:n≠farI) (hw:WOut h h' W 18 v):ChkR g h h' v
def ckL (bb zb gb:Nat) (g:Gl) (w:Wt) (F S:List Ac):List It:=
 [.blk bb w.cs 35,.sl w.f 65 3 (F.map Ac.cs),.sl w.s 65 3 (S.map Ac.cs),.blk zb wt0.cs 35,.blk gb g.cs 27]
theorem check33 (g:Gl) (h:Heap) (hg:GI h g) (hx:Gm h):Fn Pz 14 #[g.v] h fun v h'=>ChkR g h h' v:=by
 apply vc14 (bs g.nm) g.hr g.hd g.n g.s g.e g.he g.ht;unfold W14 V14a;have hrn:=hg.r.ln;refine (St.refl h).newb fun h9 hs=>?_;refine hs.newb fun h10 hs=>?_;refine⟨_,_,_,_,_,_,_,_,hs.at 1 rfl (o:=0) (n:=8) rfl,?_⟩;refine (valid38 g h10 (hg.ext hs.ext) (hx.ext hs.ext)).mono ?_;rintro _ h21 ⟨rfl,E⟩;replace hs:=hs.step E;refine⟨_,rfl,sB_intro (fun c=>?_) (fun c=>?_)⟩
 .refine hs.put 0 rfl (o:=0) (vs:=wt0.cs) rfl (Yyt 14) fun h22 hs=>?_;refine rdW (w:=wt0) (Q:=fun cs=>ChkR g h h22 (.tuple ⟨[.agg ⟨cs⟩,.int .i64 1]⟩)) (hs.at 0 rfl (o:=0) (n:=14) rfl) ?_;exact .bad (Yyo (bF c)) hs.ext
 have hV:=Yyn (bT c);have hr6:=hV.nam.n6;refine hs.newput (vs:=wt0.cs) rfl rfl fun h38 hs=>?_;have hs:St h h38 (ckL h21.size h9.size h.size g wt0 [] []):=((hs.nil_ 65 3).nil_ 65 3).perm (by
  show List.Perm ([_,_]++([_]++[_,_])) ([_]++([_,_]++[_,_]));rw[<-Yz,<-Yz];exact List.Perm.append_right _ List.perm_append_comm)
 refine⟨g.hr,hs.rd 4 rfl (i:=1) rfl,?_⟩;refine⟨fun len x h' μ=>∃(i:Nat) (W:WS) (w:Wt),x=(i:Int)/\g.hr.n-i=μ/\i<=g.hr.n/\ChkI g i W len/\w.k=W.k/\w.r=W.r/\w.e=W.e/\w.o=W.o/\St h h' (ckL h21.size h9.size h.size g w W.F W.S),⟨_,0,ws0,wt0,rfl,rfl,Nat.zero_le _,.zero,rfl,rfl,rfl,rfl,hs⟩,?_⟩;clear hs;rintro-len _ h45 μ ⟨i,W,w,rfl,rfl,hi,hF,e1,e2,e3,e4,hs⟩;refine sBi (fun c=>?_) (fun c=>?_)
 .refine⟨_,_,_,_,_,_,_,_,hs.at 4 rfl (o:=0) (n:=8) rfl,?_⟩;refine (find69 g (i:Int) h45 (hg.ext hs.ext) (hx.ext hs.ext) hV ⟨by omega,by omega⟩).mono ?_;rintro _ h71 ⟨W',n',hP,w',f1,f2,f3,f4,rfl,L,hs'⟩;refine⟨w'.k,w'.r,w'.f,w'.s,w'.e.r,w'.e.s,w'.e.p,w'.e.l,nilS,w'.o.r,w'.o.s,w'.o.p,w'.o.l,nilS,n',0,rfl,?_⟩;have hs:=hs.join hs';refine hs.newput (vs:=w'.cs) rfl rfl fun h73 hs=>?_;have tk:∀ {hZ:Heap},(n'<len\/n'=len/\n'<farI/\W'.k<W.k)->St h hZ ((It.blk h71.size w'.cs 35::(ckL h21.size h9.size h.size g w W.F W.S ++ .sl w'.f 65 3 (W'.F.map Ac.cs) :: .sl w'.s 65 3 (W'.S.map Ac.cs)::L)).set 1 (.blk h21.size w'.cs 35)) ->
    ∃m,m<g.hr.n-i/\∃(i':Nat) (W:WS) (w:Wt),IntKind.wrap .i64 ((i:Int)+1)=(i':Int)/\g.hr.n-i'=m/\i'<=g.hr.n/\ChkI g i' W n'/\w.k=W.k/\w.r=W.r/\w.e=W.e/\w.o=W.o/\St h hZ (ckL h21.size h9.size h.size g w W.F W.S):=fun {hZ} hc hs=>by
   refine⟨_,?_,i+1,W',w',by rw[w64 (by omega) (by omega)];omega,rfl,by omega,.take hF hP hc,f1,f2,f3,f4,?_⟩
   .omega
   .refine hs.subp (R:=.blk h71.size w'.cs 35 :: .sl w.f 65 3 (W.F.map Ac.cs) :: .sl w.s 65 3 (W.S.map Ac.cs)::L) ?_;show List.Perm (.blk h71.size w'.cs 35 :: .blk h21.size w'.cs 35 :: .sl w.f 65 3 (W.F.map Ac.cs) :: .sl w.s 65 3 (W.S.map Ac.cs) :: .blk h9.size wt0.cs 35 :: .blk h.size g.cs 27 :: .sl w'.f 65 3 (W'.F.map Ac.cs) :: .sl w'.s 65 3 (W'.S.map Ac.cs)::L) (.blk h21.size w'.cs 35 :: .sl w'.f 65 3 (W'.F.map Ac.cs) :: .sl w'.s 65 3 (W'.S.map Ac.cs) :: .blk h9.size wt0.cs 35 :: .blk h.size g.cs 27 :: .blk h71.size w'.cs 35 :: .sl w.f 65 3 (W.F.map Ac.cs) :: .sl w.s 65 3 (W.S.map Ac.cs)::L);exact perm9 _ _ _ _ _ _ _ _ L
  have kp:∀ {hZ:Heap},¬(n'<len\/n'=len/\n'<farI/\W'.k<W.k)->St h hZ (It.blk h71.size w'.cs 35::(ckL h21.size h9.size h.size g w W.F W.S ++ .sl w'.f 65 3 (W'.F.map Ac.cs) :: .sl w'.s 65 3 (W'.S.map Ac.cs)::L)) ->
    ∃m,m<g.hr.n-i/\∃(i':Nat) (W:WS) (w:Wt),IntKind.wrap .i64 ((i:Int)+1)=(i':Int)/\g.hr.n-i'=m/\i'<=g.hr.n/\ChkI g i' W len/\w.k=W.k/\w.r=W.r/\w.e=W.e/\w.o=W.o/\St h hZ (ckL h21.size h9.size h.size g w W.F W.S):=fun {hZ} hc hs=>by
   refine⟨_,?_,i+1,W,w,by rw[w64 (by omega) (by omega)];omega,rfl,by omega,.keep hF hP hc,e1,e2,e3,e4,(hs.drop 1).subp (List.Perm.refl _)⟩;omega
  refine sBi (fun c1=>?_) (fun c1=>?_)
  .exact cpW hs 0 1 (w:=w') (w0:=w) rfl rfl fun h88 hs=>tk (.inl c1) hs
  .refine sBe (fun c2=>?_) (fun c2=>?_)
   .refine sBi (fun c3=>?_) (fun c3=>?_)
    .refine⟨w'.k,hs.rd 0 rfl (i:=0) rfl,w.k,hs.rd 1 rfl (i:=0) rfl,sBi (fun c4=>?_) (fun c4=>?_)⟩
     .exact cpW hs 0 1 (w:=w') (w0:=w) rfl rfl fun h106 hs=>tk (.inr ⟨c2,c3,by rw[<-e1,<-f1];exact c4⟩) hs
     .exact kp (fun h9=>h9.elim c1 fun h9=>c4 (by rw[e1,f1];exact h9.2.2)) hs
    .exact kp (fun h9=>h9.elim c1 fun h9=>c3 h9.2.1) hs
   .exact kp (fun h9=>h9.elim c1 fun h9=>c2 h9.1) hs
 .have:i=g.rs.length:=by omega
  subst this;refine sBe (fun c1=>?_) (fun c1=>?_)
  .refine hs.put 3 rfl (o:=0) (vs:=wt0.cs) rfl (Yyt 14) fun h111 hs=>?_;refine rdW (w:=wt0) (Q:=fun cs=>ChkR g h h111 (.tuple ⟨[.agg ⟨cs⟩,.int .i64 0]⟩)) (hs.at 3 rfl (o:=0) (n:=14) rfl) ?_;exact .ok hV (by rw[<-show len=farI from c1];exact hF) hs.ext
  .refine cpW hs 0 3 (w:=w) (w0:=wt0) rfl rfl fun h140 hs=>?_;refine rdW (w:=w) (Q:=fun cs=>ChkR g h h140 (.tuple ⟨[.agg ⟨cs⟩,.int .i64 18]⟩)) (hs.at 3 rfl (o:=0) (n:=14) rfl) ?_;exact .err hV hF c1 ⟨w,e1,e2,e3,e4,rfl,_,hs.drop 1⟩
/-! ### moves of pairs, and views -/
theorem mov_q {g:Gl} {role:Int} {s t:Nat} {x:Ed} (hx:x∈g.es) (hv:vis1 role x=none) (hf:x.f=(s:Int)):∃m∈movL g.es role s t,pto m=(x.t.toNat,t):=by
 obtain⟨i,hi⟩:=Yf.1 hx;refine⟨⟨(i:Int),-1,(eA g.es i).t,(t:Nat)⟩,?_,by unfold pto;rw[eA_get hi];rfl⟩;unfold movL mqL;refine List.mem_append_left _ (List.mem_append_left _ (Yp.2 ⟨i,List.mem_filter.2 ⟨outG_mem.2 ⟨x,hi,hf⟩,?_⟩,rfl⟩));unfold qtB;rw[eA_get hi,hv];rfl
theorem mov_o {g:Gl} {role:Int} {s t:Nat} {x:Ed} (hx:x∈g.es) (hv:vis1 role x=none) (hf:x.f=(t:Int)):∃m∈movL g.es role s t,pto m=(s,x.t.toNat):=by
 obtain⟨i,hi⟩:=Yf.1 hx;refine⟨⟨-1,(i:Int),(s:Nat),(eA g.es i).t⟩,?_,by unfold pto;rw[eA_get hi];rfl⟩;unfold movL moL;refine List.mem_append_left _ (List.mem_append_right _ (Yp.2 ⟨i,List.mem_filter.2 ⟨outG_mem.2 ⟨x,hi,hf⟩,?_⟩,rfl⟩));unfold qtB;rw[eA_get hi,hv];rfl
theorem mov_b {g:Gl} {role:Int} {s t:Nat} {x y:Ed} {e:Ev} (hx:x∈g.es) (hy:y∈g.es) (hvx:vis1 role x=some e) (hvy:vis1 role y=some e) (hf:x.f=(s:Int)) (hg:y.f=(t:Int)):∃m∈movL g.es role s t,pto m=(x.t.toNat,y.t.toNat):=by
 obtain⟨i,hi⟩:=Yf.1 hx;obtain⟨k,hk⟩:=Yf.1 hy;refine⟨⟨(i:Int),(k:Int),(eA g.es i).t,(eA g.es k).t⟩,?_,by unfold pto;rw[eA_get hi,eA_get hk]⟩;unfold movL mbL;refine List.mem_append_right _ (List.mem_flatMap.2 ⟨i,outG_mem.2 ⟨x,hi,hf⟩,?_⟩);unfold mb1;rw[eA_get hi,hvx];refine Yp.2 ⟨k,List.mem_filter.2 ⟨outG_mem.2 ⟨y,hk,hg⟩,decide_eq_true ?_⟩,rfl⟩;rw[eA_get hk,hvy]
theorem Prr.q1 {g:Gl} {role:Int} {l:List Int} {t:Nat} {a:Int} (hn:∀x∈g.es,0<=x.f/\0<=x.t) (hl:∀b∈l,0<=b/\Prr g role (b.toNat,t)) (h:Qr g.es role l a):0<=a/\Prr g role (a.toNat,t):=by
 induction h with
 | base hm=>exact hl _ hm
 | @step a b _ hx ih=>
  obtain⟨x,hx,hv,hf,rfl⟩:=hx;obtain⟨m,hm,he⟩:=mov_q (t:=t) (s:=a.toNat) hx hv (by omega);refine⟨(hn x hx).2,?_⟩;have:=Prr.step ih.2 hm
  rwa [he] at this
theorem Prr.q2 {g:Gl} {role:Int} {l:List Int} {s:Nat} {a:Int} (hn:∀x∈g.es,0<=x.f/\0<=x.t) (hl:∀b∈l,0<=b/\Prr g role (s,b.toNat)) (h:Qr g.es role l a):0<=a/\Prr g role (s,a.toNat):=by
 induction h with
 | base hm=>exact hl _ hm
 | @step a b _ hx ih=>
  obtain⟨x,hx,hv,hf,rfl⟩:=hx;obtain⟨m,hm,he⟩:=mov_o (s:=s) (t:=a.toNat) hx hv (by omega);refine⟨(hn x hx).2,?_⟩;have:=Prr.step ih.2 hm
  rwa [he] at this
def PrP (g:Gl) (role:Int) (p:PSet):Prop:=∀s t:Nat,p s=true->p t=true->Prr g role (s,t)
theorem clo_prp {g:Gl} {role:Int} {l:List Int} (hn:∀x∈g.es,0<=x.f/\0<=x.t) (h0:∀a∈l,0<=a) (hl:∀a∈l,∀b∈l,Prr g role (a.toNat,b.toNat)):PrP g role (clo g.es role l):=fun s t hs ht=>by
 have h1:=clo_iff.1 hs;have h2:=clo_iff.1 ht;have h3:∀b∈l,Prr g role (s,b.toNat):=fun b hb=>by
  have:=(Prr.q1 (t:=b.toNat) hn (fun a ha=>⟨h0 a ha,hl a ha b hb⟩) h1).2
  rwa [Ys] at this
 have:=(Prr.q2 (s:=s) hn (fun b hb=>⟨h0 b hb,h3 b hb⟩) h2).2
 rwa [Ys] at this
theorem toL_mem2 {es:List Ed} {role:Int} {p:PSet} {e:Ev} {a:Int} (h:a∈toL es role p e):∃x∈es,vis1 role x=some e/\x.t=a/\∃n:Nat,x.f=(n:Int)/\p n=true:=by
 unfold toL at h;obtain⟨n,hn,h⟩:=List.mem_flatMap.1 h;obtain⟨y,hy,h⟩:=Yym.1 h;unfold visL at hy;obtain⟨x,hx,hy⟩:=Yym.1 hy;split at hy
 .rename_i hf;obtain⟨e',he',rfl⟩:=Yya.1 hy;split at h
  .rename_i h9;cases h;simp only at h9;subst h9;exact⟨x,hx,he',rfl,n,hf,(elems_mem.1 hn).2⟩
  .cases h
 .cases hy
/-! ### nothing is found: no reached pair and no reached state fails -/
theorem Dn.back {g:Gl} {role:Int} {cst:Pr->Option Nat} {p:Pr} (h:Prr g role p):∀ {n:Nat},Dn (mvP g role) cst p n->∃k,Dn (mvP g role) cst (p00 g) k:=by
 induction h with
 | start=>exact fun hd=>⟨_,hd⟩
 | step _ hm ih=>exact fun hd=>ih (.step hm hd)
theorem DnS.back {g:Gl} {role:Int} {MX:Nat->Prop} (hV:ValidS g) {p:Pr} (h:Prr g role p):(∀ {n:Nat},DnS g.es MX p.1 n->∃k,DnS g.es MX g.s.toNat k):=by
 induction h with
 | start=>exact fun hd=>⟨_,hd⟩
 | @step p m _ hm ih=>
  intro n hd;have key:(pto m).1=p.1\/∃x∈g.es,x.f=(p.1:Int)/\x.t.toNat=(pto m).1:=by
   unfold movL at hm;rcases Yk.1 hm with hm | hm
   .rcases Yk.1 hm with hm | hm
    .obtain⟨k,hk,rfl⟩:=Yp.1 hm;obtain⟨x,hx,hf⟩:=outG_mem.1 (List.mem_filter.1 hk).1;exact .inr ⟨x,Yb hx,hf,by unfold pto;rw[eA_get hx]⟩
    .obtain⟨k,hk,rfl⟩:=Yp.1 hm;exact .inl (by unfold pto;exact Ys _)
   .unfold mbL at hm;obtain⟨i,hi,hm⟩:=List.mem_flatMap.1 hm;unfold mb1 at hm;split at hm
    .cases hm
    .obtain⟨k,hk,rfl⟩:=Yp.1 hm;obtain⟨x,hx,hf⟩:=outG_mem.1 hi;exact .inr ⟨x,Yb hx,hf,by unfold pto;rw[eA_get hx]⟩
  rcases key with e | ⟨x,hx,hf,ht⟩
  .rw[e] at hd;exact ih hd
  .exact ih (.step hx hf (by rw[ht];exact hd))
theorem BpP.far_of {g:Gl} {role kind:Int} {X:An} {W:WS} {n:Int} (h:BpP g role kind X W n) (hn:farI<=n) {p:Pr} (hp:Prr g role p):cstS X kind p=none:=by
 cases h with
 | far hno=>
  cases hc:cstS X kind p with
  | none=>rfl
  | some c=>
   have hd:Dn (mvP g role) (cstN X kind) p c.toNat:=.base (by unfold cstN;rw[hc];rfl);obtain⟨k,hk⟩:=Dn.back hp hd;obtain⟨j,hj⟩:=Dn.least hk;exact absurd hj (hno j)
 | hit _ hb=>unfold farI at hn;omega
theorem MxP.far_of {g:Gl} {role:Int} {X:An} {W:WS} {n:Int} (h:MxP g role X W n) (hV:ValidS g) (hn:farI<=n) {p:Pr} (hp:Prr g role p):¬MXx X p.1:=by
 cases h with
 | far hno=>exact fun hm=>by obtain⟨k,hk⟩:=DnS.back hV hp (.base hm);exact hno k hk
 | hit _ hb=>unfold farI at hn;omega
theorem FindI.all {g:Gl} {role:Int} {X:An} {i:Nat} {W:WS} {n:Int} (h:FindI g role X i W n):∀j,j<i->∃W' n',kindP g role X j W' n'/\n<=n':=by
 induction h with
 | zero=>intro j hj;omega
 | @take i W W' n n' _ hk hlt ih=>
  intro j hj;by_cases e:j=i
  .subst e;exact⟨_,_,hk,Int.le_refl _⟩
  .obtain⟨W2,n2,h1,h2⟩:=ih j (by omega);exact⟨W2,n2,h1,by omega⟩
 | @keep i W W' n n' _ hk hlt ih=>
  intro j hj;by_cases e:j=i
  .subst e;exact⟨_,_,hk,by omega⟩
  .exact ih j (by omega)
theorem ChkI.all {g:Gl} {i:Nat} {W:WS} {n:Int} (h:ChkI g i W n):∀j:Nat,j<i->∃W' n',FindP g (j:Int) W' n'/\n<=n':=by
 induction h with
 | zero=>intro j hj;omega
 | @take i W W' n n' _ hk hlt ih=>
  intro j hj;by_cases e:j=i
  .subst e;exact⟨_,_,hk,Int.le_refl _⟩
  .obtain⟨W2,n2,h1,h2⟩:=ih j (by omega);exact⟨W2,n2,h1,by omega⟩
 | @keep i W W' n n' _ hk hlt ih=>
  intro j hj;by_cases e:j=i
  .subst e;exact⟨_,_,hk,by omega⟩
  .exact ih j (by omega)
structure Fine (g:Gl) (role:Int) (X:An):Prop where
 x:XOk g role X
 d:∀p,Prr g role p->cstS X 1 p=none
 m:∀p,Prr g role p->¬MXx X p.1
 c:∀p,Prr g role p->¬ClA X.li X.ag X.ow p.1 p.2
 a:∀p,Prr g role p->cstS X 4 p=none
end Go.VC
end

section
namespace Go.VC
/-! ### two blocks change places; a part is turned round -/
/-! ### order -/
end Go.VC
end

section
namespace Go.VC
open Go.Proofs Go.LexS



def o8 (g:Gl) (r hd:Sl):List Value:=[.string (bs g.nm),.slice r.a r.n r.c,.slice hd.a hd.n hd.c,.int .i64 0,.int .i64 0,.int .i64 0,.slice none 0 0,.slice none 0 0]
end Go.VC
end

section
namespace Go.VC
open Go.LexS

end Go.VC
end

section
namespace Go.VC
open Go.Proofs Go.LexS


end Go.VC
end

section
namespace Go.VC
open Go.LexS
def renI (σ:Nat->Nat) (v:Int):Int:=((σ v.toNat:Nat):Int)
def renE (σ:Nat->Nat) (y:Ed):Ed:=⟨renI σ y.f,y.a,y.b,y.l,renI σ y.t,y.ag⟩
structure Ren (g c:Gl) (σ:Nat->Nat):Prop where
 n:c.n=g.n
 r:∀i,i<g.n.toNat->σ i<g.n.toNat
 inj:∀i j,i<g.n.toNat->j<g.n.toNat->σ i=σ j->i=j
 s:c.s=renI σ g.s
 e:c.e=renI σ g.e
 ed:∀x,x∈c.es ↔ ∃y∈g.es,x=renE σ y
 ti:∀t∈c.ts,∃u∈g.ts,t.s=renI σ u.s/\t.k=u.k/\∃z,g.es[u.e.toNat]?=some z/\c.es[t.e.toNat]?=some (renE σ z)
 tj:∀u∈g.ts,∃t∈c.ts,t.s=renI σ u.s/\t.k=u.k/\∃z,g.es[u.e.toNat]?=some z/\c.es[t.e.toNat]?=some (renE σ z)
 rs:c.rs=g.rs

end Go.VC
end

section
namespace Go.VC
open Go.Proofs Go.LexS
/-! ### lists of events in order -/
theorem snd_last {L:List Ev} (hp:L.Pairwise evLt) (h:sndAt L (L.length-1)=true) {e:Ev} (he:e∈L):e.send=true:=by
 obtain⟨i,hi⟩:=Yf.1 he;have hil:=(Ya.1 hi).1;obtain⟨y,hy⟩:=get_some (l:=L) (i:=L.length-1) (by omega);unfold sndAt at h;rw[hy] at h;simp only at h;by_cases e1:i=L.length-1
 .rw[e1,hy] at hi;cases hi;exact h
 .have h9:=List.pairwise_iff_getElem.1 hp i (L.length-1) hil (by omega) (by omega);rw[(Ya.1 hi).2,(Ya.1 hy).2] at h9;unfold evLt at h9;rcases h9 with ⟨h9,_⟩ | ⟨h9,_⟩
  .exact h9
  .rw[h9];exact h
theorem snd_first {L:List Ev} (hp:L.Pairwise evLt) {e:Ev} (he:e∈L) (hs:e.send=true):sndAt L 0=true:=by
 obtain⟨i,hi⟩:=Yf.1 he;have hil:=(Ya.1 hi).1;obtain⟨y,hy⟩:=get_some (l:=L) (i:=0) (by omega);unfold sndAt;rw[hy];by_cases e1:i=0
 .rw[e1,hy] at hi;cases hi;exact hs
 .have h9:=List.pairwise_iff_getElem.1 hp 0 i (by omega) hil (by omega);rw[(Ya.1 hi).2,(Ya.1 hy).2] at h9;unfold evLt at h9;rcases h9 with ⟨h9,_⟩ | ⟨h9,_⟩
  .exact h9
  .show y.send=true;rw[h9];exact hs
theorem XOk.at {g:Gl} {role:Int} {X:An} (h:XOk g role X) {s:Nat} (hs:(s:Int)<g.n):∃f,X.fi[s]?=some f/\f.l=firstE g role (s:Nat)/\f.b=firstB g role (s:Nat):=by
 have hl:X.fi.length=g.n.toNat:=by have:=congrArg List.length h.fi;simpa using this
 obtain⟨f,hf⟩:=get_some (l:=X.fi) (i:=s) (by omega);have h1:=map_range_get h.fi (s:=s) (by omega);rw[Yd,hf] at h1;have h2:=Yyp h1;exact⟨f,hf,congrArg Prod.fst h2,congrArg Prod.snd h2⟩
theorem Fine.snd {g:Gl} {role:Int} {X:An} (hF:Fine g role X) {n k:Nat} (hn:(n:Int)<g.n) (hk:(k:Int)<g.n) (h1:Prr g role (n,k)) {e:Ev} (he:e∈firstE g role (n:Nat)) (hs:e.send=true):e∈firstE g role (k:Nat):=by
 obtain⟨f,hf,fl,_⟩:=hF.x.at hn;obtain⟨f',hf',fl',_⟩:=hF.x.at hk;have h9:=hF.d _ h1;unfold cstS at h9;rw[if_pos rfl,hf,hf'] at h9;simp only at h9;cases hfi:f.l.find? (difP f'.l) with
 | some x=>rw[hfi] at h9;cases h9
 | none=>
  rw[List.find?_eq_none] at hfi;have:=hfi e (by rw[fl];exact he);unfold difP at this;rw[hs,fl'] at this;exact Classical.byContradiction fun hno=>this (by rw[decide_eq_false hno];rfl)
theorem Fine.mx {g:Gl} {role:Int} {X:An} (hF:Fine g role X) {n k:Nat} (hn:(n:Int)<g.n) (h1:Prr g role (n,k)) (hs:sndAt (firstE g role (n:Nat)) 0=true):firstB g role (n:Nat)=false/\sndAt (firstE g role (n:Nat)) ((firstE g role (n:Nat)).length-1)=true:=by
 obtain⟨f,hf,fl,fb⟩:=hF.x.at hn;have h9:=hF.m _ h1;have h10:mxB f=false:=by
  cases h:mxB f with
  | false=>rfl
  | true=>exact absurd ⟨f,hf,h⟩ h9
 unfold mxB at h10;rw[fl,fb,hs,Bool.true_and,Bool.or_eq_false_iff] at h10;exact⟨h10.1,by simpa using h10.2⟩
/-! ### without memory -/
def mxP (g:Gl) (role:Int) (s:Nat):Prop:=s<g.n.toNat/\(sndAt (firstE g role (s:Nat)) 0&&(firstB g role (s:Nat) || !sndAt (firstE g role (s:Nat)) ((firstE g role (s:Nat)).length-1)))=true
noncomputable def clP (g:Gl) (role:Int) (s t:Nat):Prop:=ClA ((List.range g.n.toNat).map (limFo g role g.ts)) ((List.range g.n.toNat).map (agFo g.es)) ((List.range g.n.toNat).map (owFo g.es role)) s t
noncomputable def cstP (g:Gl) (role kind:Int) (p:Pr):Option Int:=by
 classical exact if kind=1 then (if p.1<g.n.toNat/\p.2<g.n.toNat then (if ((firstE g role (p.1:Nat)).find? (difP (firstE g role (p.2:Nat)))).isSome then some 0 else none) else none)
 else if kind=3 then (if clP g role p.1 p.2 then some 0 else none)
 else (if p.1<g.n.toNat/\p.2<g.n.toNat then (arvF (firstE g role (p.2:Nat)) (arrS g role p.1)).map (·.n) else none)
theorem XOk.fl {g:Gl} {role:Int} {X:An} (h:XOk g role X):X.fi.length=g.n.toNat:=by have:=congrArg List.length h.fi;simpa using this
theorem XOk.al {g:Gl} {role:Int} {X:An} (h:XOk g role X):X.ar.length=g.n.toNat:=by have:=congrArg List.length h.ar;simpa using this
theorem XOk.at2 {g:Gl} {role:Int} {X:An} (h:XOk g role X) {s:Nat} (hs:s<g.n.toNat):∃f,X.fi[s]?=some f/\f.l=firstE g role (s:Nat)/\f.b=firstB g role (s:Nat):=h.at (by omega)
theorem XOk.ara {g:Gl} {role:Int} {X:An} (h:XOk g role X) {s:Nat} (hs:s<g.n.toNat):∃q,X.ar[s]?=some q/\q.2=arrS g role s:=by
 obtain⟨q,hq⟩:=get_some (l:=X.ar) (i:=s) (by rw[h.al];exact hs);have h1:=map_range_get h.ar hs;rw[Yd,hq] at h1;exact⟨q,hq,Yyp h1⟩
theorem XOk.cst {g:Gl} {role:Int} {X:An} (h:XOk g role X) (kind:Int) (p:Pr):cstS X kind p=cstP g role kind p:=by
 unfold cstS cstP;by_cases k1:kind=1
 .rw[if_pos k1,if_pos k1];by_cases hr:p.1<g.n.toNat/\p.2<g.n.toNat
  .obtain⟨f,hf,fl,_⟩:=h.at2 hr.1;obtain⟨f',hf',fl',_⟩:=h.at2 hr.2;rw[if_pos hr,hf,hf'];simp only[fl,fl']
  .rw[if_neg hr];by_cases h1:p.1<g.n.toNat
   .rw[Yl (l:=X.fi) (i:=p.2) (by rw[h.fl];omega)];cases X.fi[p.1]?<;>rfl
   .rw[Yl (l:=X.fi) (i:=p.1) (by rw[h.fl];omega)]
 .rw[if_neg k1,if_neg k1];by_cases k3:kind=3
  .rw[if_pos k3,if_pos k3];have:ClA X.li X.ag X.ow p.1 p.2 ↔ clP g role p.1 p.2:=by unfold clP;rw[h.li,h.ag,h.ow]
   by_cases hc:ClA X.li X.ag X.ow p.1 p.2
   .rw[if_pos hc,if_pos (this.1 hc)]
   .rw[if_neg hc,if_neg (fun h9=>hc (this.2 h9))]
  .rw[if_neg k3,if_neg k3];by_cases hr:p.1<g.n.toNat/\p.2<g.n.toNat
   .obtain⟨f',hf',fl',_⟩:=h.at2 hr.2;obtain⟨q,hq,hq2⟩:=h.ara hr.1;rw[if_pos hr,hf',hq];simp only[fl',hq2]
   .rw[if_neg hr];by_cases h1:p.2<g.n.toNat
    .rw[Yl (l:=X.ar) (i:=p.1) (by rw[h.al];omega)];cases X.fi[p.2]?<;>rfl
    .rw[Yl (l:=X.fi) (i:=p.2) (by rw[h.fl];omega)]
theorem XOk.mx {g:Gl} {role:Int} {X:An} (h:XOk g role X) (s:Nat):MXx X s ↔ mxP g role s:=by
 unfold mxP;constructor
 .rintro⟨f,hf,hm⟩;have hs:s<g.n.toNat:=by rw[<-h.fl];exact (Ya.1 hf).1
  obtain⟨f',hf',fl,fb⟩:=h.at2 hs;rw[hf] at hf';cases hf';unfold mxB at hm;rw[fl,fb] at hm;exact⟨hs,hm⟩
 .rintro⟨hs,hm⟩;obtain⟨f,hf,fl,fb⟩:=h.at2 hs;refine⟨f,hf,?_⟩;unfold mxB;rw[fl,fb];exact hm
noncomputable def exP (g:Gl) (role kind:Int) (F:List Ac) (p:Pr):List Ac × Evn × Evn:=
 if kind=1 then (F,fullE role (((firstE g role (p.1:Nat)).find? (difP (firstE g role (p.2:Nat)))).getD ⟨false,0,0⟩),evn0)
 else if kind=4 then (F++[(eA g.es ((arvF (firstE g role (p.2:Nat)) (arrS g role p.1)).getD arv0).e.toNat).act]++pthS g ((arvF (firstE g role (p.2:Nat)) (arrS g role p.1)).getD arv0).e.toNat ((arvF (firstE g role (p.2:Nat)) (arrS g role p.1)).getD arv0).m,fullE role ((arvF (firstE g role (p.2:Nat)) (arrS g role p.1)).getD arv0).m.ev,fullE role ⟨false,(eA g.es ((arvF (firstE g role (p.2:Nat)) (arrS g role p.1)).getD arv0).e.toNat).a,(eA g.es ((arvF (firstE g role (p.2:Nat)) (arrS g role p.1)).getD arv0).e.toNat).l⟩)
 else (F,evn0,evn0)
theorem XOk.ex {g:Gl} {role:Int} {X:An} (h:XOk g role X) (kind:Int) (F:List Ac) {p:Pr} (h1:p.1<g.n.toNat) (h2:p.2<g.n.toNat):exW g role kind X F p=exP g role kind F p:=by
 obtain⟨f,hf,fl,_⟩:=h.at2 h1;obtain⟨f',hf',fl',_⟩:=h.at2 h2;obtain⟨q,hq,hq2⟩:=h.ara h1;unfold exW exP;rw[hf,hf',hq];simp only[fl,fl',hq2]
noncomputable def cstQ (g:Gl) (role kind:Int) (p:Pr):Option Nat:=(cstP g role kind p).map Int.toNat
theorem XOk.cstN {g:Gl} {role:Int} {X:An} (h:XOk g role X) (kind:Int):Go.VC.cstN X kind=cstQ g role kind:=by
 funext p
 unfold Go.VC.cstN cstQ;rw[h.cst]
theorem GTo.prr {g:Gl} {role:Int} {cst:Pr->Option Int} {D:Pr->Int} {ms:List Pmv} {p:Pr} (h:GTo (mvP g role) cst D (p00 g) ms p):Prr g role p:=by
 induction h with
 | nil=>exact .start
 | snoc _ _ _ hm ih=>exact .step ih (Yb hm)
theorem findIdx?_congr2 {α:Type} {p q:α->Bool}:∀ {l:List α},(∀x∈l,p x=q x)->l.findIdx? p=l.findIdx? q
 | [],_=>rfl
 | a::l,h=>by
  rw[List.findIdx?_cons,List.findIdx?_cons,h a Yx,findIdx?_congr2 (l:=l) fun x hx=>h x (Yn _ hx)]
theorem GTo.turn {g:Gl} {role:Int} {cst:Pr->Option Int} {D D':Pr->Int} (hD:∀q,Prr g role q->D q=D' q) {ms:List Pmv} {p:Pr} (h:GTo (mvP g role) cst D (p00 g) ms p):GTo (mvP g role) cst D' (p00 g) ms p:=by
 induction h with
 | nil=>exact .nil
 | @snoc ms p m k hg hne hix hm ih=>
  have hp:=hg.prr;refine .snoc ih (by rw[<-hD p hp];exact hne) ?_ hm;rw[<-hix];refine (findIdx?_congr2 fun x hx=>?_).symm;unfold okM;rw[hD p hp,hD _ (.step hp hx)]
theorem GTo.det {mv:Pr->List Pmv} {cst:Pr->Option Int} {D:Pr->Int} {p0:Pr} {ms':List Pmv} {p':Pr} (h':GTo mv cst D p0 ms' p'):∀ {ms:List Pmv} {p:Pr},GTo mv cst D p0 ms p->ms.length<=ms'.length->(ms=ms'/\p=p')\/(ms.length<ms'.length/\cst p≠some (D p)):=by
 induction h' with
 | nil=>
  intro ms p h hl;cases h with
  | nil=>exact .inl ⟨rfl,rfl⟩
  | snoc=>rw[Yh,Yv] at hl;simp at hl
 | @snoc ms1 p1 m k _ hne hix hm ih=>
  intro ms p h hl;rw[Yh,Yv] at hl;by_cases e:ms.length<=ms1.length
  .rcases ih h e with ⟨rfl,rfl⟩ | ⟨h1,h2⟩
   .exact .inr ⟨by rw[Yh,Yv];omega,hne⟩
   .exact .inr ⟨by rw[Yh,Yv];omega,h2⟩
  .cases h with
   | nil=>simp at e
   | @snoc ms2 p2 m2 k2 hg2 hne2 hix2 hm2=>
    rw[Yh,Yv] at hl e;rcases ih hg2 (by omega) with ⟨rfl,rfl⟩ | ⟨h1,_⟩
    .rw[hix] at hix2;cases hix2;rw[hm] at hm2;cases hm2;exact .inl ⟨rfl,rfl⟩
    .omega
theorem GTo.uniq {mv:Pr->List Pmv} {cst:Pr->Option Int} {D:Pr->Int} {p0:Pr} {ms ms':List Pmv} {p p':Pr} (h:GTo mv cst D p0 ms p) (hc:cst p=some (D p)) (h':GTo mv cst D p0 ms' p') (hc':cst p'=some (D p')):ms=ms'/\p=p':=by
 rcases Nat.le_total ms.length ms'.length with hl | hl
 .rcases h'.det h hl with h9 | ⟨_,h9⟩
  .exact h9
  .exact absurd hc h9
 .rcases h.det h' hl with ⟨h9,h8⟩ | ⟨_,h9⟩
  .exact⟨h9.symm,h8.symm⟩
  .exact absurd hc' h9
theorem GTo.len {mv:Pr->List Pmv} {cst:Pr->Option Int} {D:Pr->Int} {p0:Pr} {ms:List Pmv} {p:Pr} (h:GTo mv cst D p0 ms p):D p0=D p+((ms.map plen).sum:Nat):=by
 induction h with
 | nil=>simp
 | @snoc ms p m k _ _ hix hm ih=>
  obtain⟨h1,h2,_⟩:=List.findIdx?_eq_some_iff_getElem.1 hix;rw[(Ya.1 hm).2] at h2;unfold okM at h2;have h3:=Yyn h2;rw[Ym,List.sum_append];simp only[Yyl,List.map_nil,List.sum_cons,List.sum_nil];omega
inductive BpQ (g:Gl) (role kind:Int):WS->Int->Prop
 | far (hn:∀n,¬Lst (mvP g role) (cstQ g role kind) (p00 g) n):BpQ g role kind ws0 farI
 | hit {n:Nat} {ms:List Pmv} {p:Pr} (hl:Lst (mvP g role) (cstQ g role kind) (p00 g) n) (hn:n<=8388608) (hG:GTo (mvP g role) (cstP g role kind) (dL (mvP g role) (cstQ g role kind)) (p00 g) ms p) (hc:cstP g role kind p=some (dL (mvP g role) (cstQ g role kind) p)) :
   BpQ g role kind ⟨kind,role,(exP g role kind (facts g ms) p).1,sacts g ms,(exP g role kind (facts g ms) p).2.1,(exP g role kind (facts g ms) p).2.2⟩ (n:Int)
theorem BpP.q {g:Gl} (hV:ValidS g) {role kind:Int} {X:An} (hX:XOk g role X) {W:WS} {n:Int} (h:BpP g role kind X W n):BpQ g role kind W n:=by
 have e1:=hX.cstN kind;have e2:cstS X kind=cstP g role kind:=funext fun p=>hX.cst kind p;cases h with
 | far hn=>rw[e1] at hn;exact .far hn
 | @hit n D ms p hl hn hD hG hc=>
  rw[e1] at hl hD;rw[e2] at hG hc;have hp:=hG.prr;have hlt:=hp.lt hV;rw[hX.ex kind _ (by omega) (by omega)];exact .hit hl hn (hG.turn hD) (by rw[hc,hD p hp])
theorem BpQ.uniq {g:Gl} {role kind:Int} {W W':WS} {n n':Int} (h:BpQ g role kind W n) (h':BpQ g role kind W' n'):W=W'/\n=n':=by
 cases h with
 | far hn=>
  cases h' with
  | far=>exact⟨rfl,rfl⟩
  | hit hl=>exact absurd hl (hn _)
 | hit hl hn hG hc=>
  cases h' with
  | far hn=>exact absurd hl (hn _)
  | hit hl' hn' hG' hc'=>
   obtain⟨rfl,rfl⟩:=hG.uniq hc hG' hc';exact⟨rfl,by rw[hl.uniq hl']⟩
/-! ### mixed -/
noncomputable def dS (es:List Ed) (MX:Nat->Prop) (s:Nat):Int:=by
 classical exact if h:∃n,LstS es MX s n then (Classical.choose h:Nat) else farN
theorem dS_of {es:List Ed} {MX:Nat->Prop} {s n:Nat} (h:LstS es MX s n):dS es MX s=n:=by
 unfold dS;rw[dif_pos ⟨n,h⟩];have:=LstS.uniq (Classical.choose_spec (⟨n,h⟩:∃n,LstS es MX s n)) h;omega
theorem dS_no {es:List Ed} {MX:Nat->Prop} {s:Nat} (h:∀n,¬LstS es MX s n):dS es MX s=farN:=by
 unfold dS;rw[dif_neg (fun ⟨n,h9⟩=>h n h9)]
def okQ (D:Nat->Int) (es:List Ed) (s k:Nat):Bool:=decide (D (eA es k).t.toNat=D s-1)
inductive GQ (es:List Ed) (D:Nat->Int) (s0:Nat):List Nat->Nat->Prop
 | nil:GQ es D s0 [] s0
 | snoc {ks:List Nat} {s j i:Nat}:GQ es D s0 ks s->0<D s->(outG es (s:Nat)).findIdx? (okQ D es s)=some j->(outG es (s:Nat))[j]?=some i->GQ es D s0 (ks++[i]) (eA es i).t.toNat
theorem GQ.det {es:List Ed} {D:Nat->Int} {s0:Nat} {ms':List Nat} {p':Nat} (h':GQ es D s0 ms' p'):∀ {ms:List Nat} {p:Nat},GQ es D s0 ms p->ms.length<=ms'.length->(ms=ms'/\p=p')\/(ms.length<ms'.length/\0<D p):=by
 induction h' with
 | nil=>
  intro ms p h hl;cases h with
  | nil=>exact .inl ⟨rfl,rfl⟩
  | snoc=>rw[Yh,Yv] at hl;simp at hl
 | @snoc ms1 p1 j k _ hne hix hm ih=>
  intro ms p h hl;rw[Yh,Yv] at hl;by_cases e:ms.length<=ms1.length
  .rcases ih h e with ⟨rfl,rfl⟩ | ⟨h1,h2⟩
   .exact .inr ⟨by rw[Yh,Yv];omega,hne⟩
   .exact .inr ⟨by rw[Yh,Yv];omega,h2⟩
  .cases h with
   | nil=>simp at e
   | @snoc ms2 p2 j2 k2 hg2 hne2 hix2 hm2=>
    rw[Yh,Yv] at hl e;rcases ih hg2 (by omega) with ⟨rfl,rfl⟩ | ⟨h1,_⟩
    .rw[hix] at hix2;cases hix2;rw[hm] at hm2;cases hm2;exact .inl ⟨rfl,rfl⟩
    .omega
theorem GQ.uniq {es:List Ed} {D:Nat->Int} {s0:Nat} {ms ms':List Nat} {p p':Nat} (h:GQ es D s0 ms p) (hc:D p=0) (h':GQ es D s0 ms' p') (hc':D p'=0):ms=ms'/\p=p':=by
 rcases Nat.le_total ms.length ms'.length with hl | hl
 .rcases h'.det h hl with h9 | ⟨_,h9⟩
  .exact h9
  .omega
 .rcases h.det h' hl with ⟨h9,h8⟩ | ⟨_,h9⟩
  .exact⟨h9.symm,h8.symm⟩
  .omega
theorem GQ.len {es:List Ed} {D:Nat->Int} {s0:Nat} {ms:List Nat} {p:Nat} (h:GQ es D s0 ms p):D s0=D p+(ms.length:Int):=by
 induction h with
 | nil=>simp
 | @snoc ms p j k _ _ hix hm ih=>
  obtain⟨h1,h2,_⟩:=List.findIdx?_eq_some_iff_getElem.1 hix;rw[(Ya.1 hm).2] at h2;unfold okQ at h2;have h3:=Yyn h2;rw[Yh,Yv];omega
theorem LFok.val {g:Gl} {MX:Nat->Prop} {LF:List Int} (h:LFok g MX LF) {s:Nat} (hs:s<g.n.toNat):LF[s]?=some (dS g.es MX s):=by
 rcases h s hs with ⟨h1,h2⟩ | ⟨k,h1,h2,_⟩
 .rw[h1,dS_no fun n hn=>h2 n hn.1]
 .rw[h1,dS_of h2]
theorem GS.q {g:Gl} (hV:ValidS g) {MX:Nat->Prop} {LF:List Int} (hF:LFok g MX LF) {ks:List Nat} {s:Nat} (h:GS g.es LF g.s.toNat ks s):s<g.n.toNat/\GQ g.es (dS g.es MX) g.s.toNat ks s:=by
 have hN:=hV.num.n
 induction h with
 | nil=>exact⟨by omega,.nil⟩
 | @snoc ks s x j i _ hx h0 hix hi ih=>
  obtain⟨y,hy,hyf⟩:=outG_mem.1 (Yb hi);have hye:=hV.num.e y (Yb hy);unfold EdS at hye;have hsx:=hF.val ih.1;rw[hx] at hsx;have e1:=Yyp hsx;refine⟨by rw[eA_get hy];omega,.snoc ih.2 (by omega) ?_ hi⟩;rw[<-hix];refine (findIdx?_congr2 fun k hk=>?_).symm;obtain⟨z,hz,hzf⟩:=outG_mem.1 hk;have hze:=hV.num.e z (Yb hz);unfold EdS at hze;unfold okE okQ;rw[eA_get hz,Yo,hF.val (s:=z.t.toNat) (by omega),Option.getD_some,e1]
inductive MxQ (g:Gl) (role:Int):WS->Int->Prop
 | far (hn:∀n,¬DnS g.es (mxP g role) g.s.toNat n):MxQ g role ws0 farI
 | hit {n:Nat} {ks:List Nat} {s:Nat} {e0:Ev} (hl:LstS g.es (mxP g role) g.s.toNat n) (hn:n<=1000) (hG:GQ g.es (dS g.es (mxP g role)) g.s.toNat ks s) (h0:dS g.es (mxP g role) s=0) (hm:mxP g role s) (hf0:(firstE g role (s:Nat))[0]?=some e0) :
   MxQ g role ⟨2,role,eacts g.es ks,[],fullE role e0,otE role (firstE g role (s:Nat))⟩ ((2*n:Nat):Int)
theorem MxP.q {g:Gl} (hV:ValidS g) {role:Int} {X:An} (hX:XOk g role X) {W:WS} {n:Int} (h:MxP g role X W n):MxQ g role W n:=by
 have e1:MXx X=mxP g role:=funext fun s=>propext (hX.mx s);cases h with
 | far hn=>rw[e1] at hn;exact .far hn
 | @hit n LF ks s f e0 hl hn hF hG h0 hf hm hf0=>
  rw[e1] at hl hF;obtain⟨hsn,hq⟩:=hG.q hV hF;obtain⟨f',hf',fl,fb⟩:=hX.at2 hsn;rw[hf] at hf';cases hf';rw[fl] at hf0 ⊢;have hv:=hF.val hsn;rw[h0] at hv;exact .hit hl hn hq (Yyp hv).symm ((hX.mx s).1 ⟨f,hf,hm⟩) hf0
theorem MxQ.uniq {g:Gl} {role:Int} {W W':WS} {n n':Int} (h:MxQ g role W n) (h':MxQ g role W' n'):W=W'/\n=n':=by
 cases h with
 | far hn=>
  cases h' with
  | far=>exact⟨rfl,rfl⟩
  | hit hl=>exact absurd hl.1 (hn _)
 | hit hl hn hG h0 hm hf0=>
  cases h' with
  | far hn=>exact absurd hl.1 (hn _)
  | hit hl' hn' hG' h0' hm' hf0'=>
   obtain⟨rfl,rfl⟩:=hG.uniq h0 hG' h0';rw[hf0] at hf0';cases hf0';exact⟨rfl,by rw[hl.uniq hl']⟩
/-! ### find and Check -/
def kindQ (g:Gl) (role:Int) (i:Nat) (W:WS) (n:Int):Prop:=
 match i with
 | 0=>BpQ g role 1 W n
 | 1=>MxQ g role W n
 | 2=>BpQ g role 3 W n
 | _=>BpQ g role 4 W n
theorem kindP.q {g:Gl} (hV:ValidS g) {role:Int} {X:An} (hX:XOk g role X) {i:Nat} {W:WS} {n:Int} (h:kindP g role X i W n):kindQ g role i W n:=by
 match i with
 | 0=>exact BpP.q hV hX h
 | 1=>exact MxP.q hV hX h
 | 2=>exact BpP.q hV hX h
 | i+3=>exact BpP.q hV hX h
theorem kindQ.uniq {g:Gl} {role:Int} {i:Nat} {W W':WS} {n n':Int} (h:kindQ g role i W n) (h':kindQ g role i W' n'):W=W'/\n=n':=by
 match i with
 | 0=>exact BpQ.uniq h h'
 | 1=>exact MxQ.uniq h h'
 | 2=>exact BpQ.uniq h h'
 | i+3=>exact BpQ.uniq h h'
inductive FindQ (g:Gl) (role:Int):Nat->WS->Int->Prop
 | zero:FindQ g role 0 ws0 farI
 | take {i:Nat} {W W':WS} {n n':Int}:FindQ g role i W n->kindQ g role i W' n'->n'<n->FindQ g role (i+1) W' n'
 | keep {i:Nat} {W W':WS} {n n':Int}:FindQ g role i W n->kindQ g role i W' n'->¬n'<n->FindQ g role (i+1) W n
theorem FindI.q {g:Gl} (hV:ValidS g) {role:Int} {X:An} (hX:XOk g role X) {i:Nat} {W:WS} {n:Int} (h:FindI g role X i W n):FindQ g role i W n:=by
 induction h with
 | zero=>exact .zero
 | take _ hk hl ih=>exact .take ih (hk.q hV hX) hl
 | keep _ hk hl ih=>exact .keep ih (hk.q hV hX) hl
theorem FindQ.uniq {g:Gl} {role:Int} {i:Nat} {W:WS} {n:Int} (h:FindQ g role i W n):∀ {W':WS} {n':Int},FindQ g role i W' n'->W=W'/\n=n':=by
 induction h with
 | zero=>intro W' n' h';cases h';exact⟨rfl,rfl⟩
 | take _ hk hl ih=>
  intro W' n' h';cases h' with
  | take h2 hk2 hl2=>exact hk.uniq hk2
  | keep h2 hk2 hl2=>
   obtain⟨rfl,rfl⟩:=ih h2;obtain⟨rfl,rfl⟩:=hk.uniq hk2;exact absurd hl hl2
 | keep _ hk hl ih=>
  intro W' n' h';cases h' with
  | take h2 hk2 hl2=>
   obtain⟨rfl,rfl⟩:=ih h2;obtain⟨rfl,rfl⟩:=hk.uniq hk2;exact absurd hl2 hl
  | keep h2 hk2 hl2=>exact ih h2
theorem FindP.q {g:Gl} (hV:ValidS g) {role:Int} {W:WS} {n:Int} (h:FindP g role W n):FindQ g role 4 W n:=by
 obtain⟨X,hX,hF⟩:=h;exact hF.q hV hX
theorem FindP.uniq {g:Gl} (hV:ValidS g) {role:Int} {W W':WS} {n n':Int} (h:FindP g role W n) (h':FindP g role W' n'):W=W'/\n=n':=(h.q hV).uniq (h'.q hV)
/-! ### lengths -/
def WS.len (W:WS):Nat:=if W.k=2 then 2*W.F.length else W.F.length+W.S.length
theorem fs_len (g:Gl) {role:Int} {ms:List Pmv} (h:∀m∈ms,∃s t,m∈movL g.es role s t):(facts g ms).length+(sacts g ms).length=(ms.map plen).sum:=by
 induction ms with
 | nil=>rfl
 | cons m ms ih=>
  have h1:=ih fun m hm=>h m (Yn _ hm);obtain⟨s,t,hm⟩:=h m Yx;have h2:0<=m.x\/0<=m.y:=by
   unfold movL at hm;rcases Yk.1 hm with hm | hm
   .rcases Yk.1 hm with hm | hm
    .obtain⟨k,_,rfl⟩:=Yp.1 hm;exact .inl (Int.natCast_nonneg k)
    .obtain⟨k,_,rfl⟩:=Yp.1 hm;exact .inr (Int.natCast_nonneg k)
   .unfold mbL at hm;obtain⟨i,hi,hm⟩:=List.mem_flatMap.1 hm;unfold mb1 at hm;split at hm
    .cases hm
    .obtain⟨k,_,rfl⟩:=Yp.1 hm;exact .inl (Int.natCast_nonneg i)
  unfold facts sacts at *;rw[List.flatMap_cons,List.flatMap_cons,Yh,Yh,Yyl,List.sum_cons,<-h1];unfold plen;by_cases hx:0<=m.x
  .by_cases hy:0<=m.y
   .rw[if_pos hx,if_pos hy,if_pos ⟨hx,hy⟩];simp only[Yv];omega
   .rw[if_pos hx,if_neg hy,if_neg (fun h9=>hy h9.2)];simp only[Yv,List.length_nil];omega
  .have hy:0<=m.y:=h2.resolve_left hx;rw[if_neg hx,if_pos hy,if_neg (fun h9=>hx h9.1)];simp only[Yv,List.length_nil];omega
theorem GTo.mem {g:Gl} {role:Int} {cst:Pr->Option Int} {D:Pr->Int} {p0:Pr} {ms:List Pmv} {p:Pr} (h:GTo (mvP g role) cst D p0 ms p):∀m∈ms,∃s t,m∈movL g.es role s t:=by
 induction h with
 | nil=>intro m hm;cases hm
 | @snoc ms p m k _ _ _ hm ih=>
  intro x hx;rcases Yk.1 hx with hx | hx
  .exact ih x hx
  .rw[Ye] at hx;subst hx;exact⟨p.1,p.2,Yb hm⟩
theorem arrS_mem {g:Gl} {role:Int} {s:Nat} {y:Arv} (h:y∈arrS g role s):∃(i:Nat) (m:Ms),y=arv1 g i m/\i<g.es.length/\m∈earS g i:=by
 unfold arrS at h;obtain⟨i,hi,hy⟩:=List.mem_flatMap.1 h;unfold arr1 at hy;obtain⟨x,hx,_⟩:=outG_mem.1 hi;split at hy
 .unfold arM at hy;obtain⟨m,hm,rfl⟩:=Yp.1 hy;exact⟨i,m,rfl,(Ya.1 hx).1,(List.mem_filter.1 hm).1⟩
 .cases hy
theorem BpQ.len {g:Gl} {role kind:Int} (hk:kind=1\/kind=3\/kind=4) {W:WS} {n:Int} (h:BpQ g role kind W n):(n=farI/\W=ws0)\/(n=W.len/\n<=8388608/\W.k=kind/\W.r=role):=by
 cases h with
 | far=>exact .inl ⟨rfl,rfl⟩
 | @hit n ms p hl hn hG hc=>
  refine .inr ⟨?_,by omega,rfl,rfl⟩;have h1:=fs_len g hG.mem;have h2:=hG.len;have h3:=dL_of hl;have hkk:kind≠2:=by omega
  unfold WS.len;rw[if_neg hkk];rcases hk with rfl | rfl | rfl
  .have:dL (mvP g role) (cstQ g role 1) p=0:=by
    unfold cstP at hc;rw[if_pos rfl] at hc;split at hc
    .split at hc
     .exact (Yyp hc).symm
     .cases hc
    .cases hc
   unfold exP;rw[if_pos rfl];simp only;omega
  .have:dL (mvP g role) (cstQ g role 3) p=0:=by
    unfold cstP at hc;rw[if_neg (by decide),if_pos rfl] at hc;split at hc
    .exact (Yyp hc).symm
    .cases hc
   unfold exP;rw[if_neg (by decide),if_neg (by decide)];simp only;omega
  .unfold cstP at hc;rw[if_neg (by decide),if_neg (by decide)] at hc;split at hc
   .obtain⟨y,hy,hyn⟩:=Yya.1 hc;obtain⟨i,m,rfl,_,_⟩:=arrS_mem (arvF_mem hy).1;unfold exP;rw[if_neg (by decide),if_pos rfl,hy];simp only[Option.getD_some,Yh,Yv];have e1:(arv1 g i m).e.toNat=i:=by unfold arv1;exact Ys i
    have e2:(arv1 g i m).n=1+((pthS g i m).length:Int):=rfl;have e3:(arv1 g i m).m=m:=rfl;rw[e1,e3];omega
   .cases hc
theorem MxQ.len {g:Gl} {role:Int} {W:WS} {n:Int} (h:MxQ g role W n):(n=farI/\W=ws0)\/(n=W.len/\n<=8388608/\W.k=2/\W.r=role):=by
 cases h with
 | far=>exact .inl ⟨rfl,rfl⟩
 | @hit n ks s e0 hl hn hG h0 hm hf0=>
  have h1:=hG.len;have h2:=dS_of hl;refine .inr ⟨?_,by omega,rfl,rfl⟩;unfold WS.len;rw[if_pos rfl];have h3:(eacts g.es ks).length=ks.length:=Yc _;simp only;omega
theorem FindQ.len {g:Gl} {role:Int}:∀ {i:Nat} {W:WS} {n:Int},FindQ g role i W n->(n=farI/\W=ws0)\/(n=W.len/\n<=8388608/\1<=W.k/\W.k<=4/\W.r=role):=by
 intro i W n h
 induction h with
 | zero=>exact .inl ⟨rfl,rfl⟩
 | @take i W W' n n' _ hk hl ih=>
  have h9:(n'=farI/\W'=ws0)\/(n'=W'.len/\n'<=8388608/\1<=W'.k/\W'.k<=4/\W'.r=role):=by
   match i with
   | 0=>exact (BpQ.len (.inl rfl) hk).imp id fun ⟨a,b,c,d⟩=>⟨a,b,by omega,by omega,d⟩
   | 1=>exact (MxQ.len hk).imp id fun ⟨a,b,c,d⟩=>⟨a,b,by omega,by omega,d⟩
   | 2=>exact (BpQ.len (.inr (.inl rfl)) hk).imp id fun ⟨a,b,c,d⟩=>⟨a,b,by omega,by omega,d⟩
   | i+3=>exact (BpQ.len (.inr (.inr rfl)) hk).imp id fun ⟨a,b,c,d⟩=>⟨a,b,by omega,by omega,d⟩
  exact h9
 | keep _ _ _ ih=>exact ih

theorem fine_find {g:Gl} (hV:ValidS g) {role:Int} {W:WS} (h:FindP g role W farI):∃X,Fine g role X:=by
 obtain⟨X,hX,hF⟩:=h;obtain⟨_,k0,p0,q0⟩:=hF.all 0 (by decide);obtain⟨_,k1,p1,q1⟩:=hF.all 1 (by decide);obtain⟨_,k2,p2,q2⟩:=hF.all 2 (by decide);obtain⟨_,k3,p3,q3⟩:=hF.all 3 (by decide);refine⟨X,hX,fun p hp=>BpP.far_of p0 (by omega) hp,fun p hp=>MxP.far_of p1 hV (by omega) hp,fun p hp hc=>?_,fun p hp=>BpP.far_of p3 (by omega) hp⟩;have h9:=BpP.far_of p2 (by omega) hp;unfold cstS at h9;rw[if_neg (by decide),if_pos rfl,if_pos hc] at h9;cases h9
theorem stepS_prp {g:Gl} (hV:ValidS g) {role:Int} {p:PSet} (hp:PrP g role p) (x:Hv):PrP g role (stepS g role p x):=by
 have hn:∀x∈g.es,0<=x.f/\0<=x.t:=fun x hx=>by have:=hV.num.e x hx;unfold EdS at this;exact⟨by omega,by omega⟩
 unfold stepS;split
 .refine clo_prp hn (fun a ha=>?_) fun a ha b hb=>?_
  .obtain⟨y,hy,_,rfl,_⟩:=toL_mem2 ha;exact (hn y hy).2
  .obtain⟨y,hy,hvy,rfl,s,hs,hps⟩:=toL_mem2 ha;obtain⟨z,hz,hvz,rfl,t,ht,hpt⟩:=toL_mem2 hb;obtain⟨m,hm,he⟩:=mov_b hy hz hvy hvz hs ht;have:=Prr.step (hp s t hps hpt) hm
   rwa [he] at this
 .intro s t h1;cases h1
theorem beh_prp {g:Gl} (hV:ValidS g) (role:Int) (l:List Hv):PrP g role (behS g role l):=by
 have hn:∀x∈g.es,0<=x.f/\0<=x.t:=fun x hx=>by have:=hV.num.e x hx;unfold EdS at this;exact⟨by omega,by omega⟩
 have hN:=hV.num.n;have h0:PrP g role (clo g.es role [g.s]):=by
  refine clo_prp hn (fun a ha=>by rw[Ye] at ha;omega) fun a ha b hb=>?_;rw[Ye] at ha hb;rw[ha,hb];exact .start
 unfold behS;have:∀(l:List Hv) (p:PSet),PrP g role p->PrP g role (l.foldl (stepS g role) p):=by
  intro l
  induction l with
  | nil=>exact fun p hp=>hp
  | cons x l ih=>exact fun p hp=>ih _ (stepS_prp hV hp x)
 exact this l _ h0
theorem Fine.same {g:Gl} {role:Int} {X:An} (hF:Fine g role X) {n a:Nat} (hn:(n:Int)<g.n) (ha:(a:Int)<g.n) (h1:Prr g role (a,n)) (h2:Prr g role (n,a)) (hs:sndAt (firstE g role (a:Nat)) 0=true) :
  firstB g role (a:Nat)=false/\firstB g role (n:Nat)=false/\firstE g role (a:Nat)=firstE g role (n:Nat):=by
 have hsr:∀n:Nat,(firstE g role (n:Nat)).Pairwise evLt:=fun n=>sortE_sorted _;obtain⟨e1,e2⟩:=hF.mx ha h1 hs;obtain⟨y,hy⟩:∃y,(firstE g role (a:Nat))[0]?=some y:=by
  cases h:(firstE g role (a:Nat))[0]? with
  | some y=>exact⟨y,rfl⟩
  | none=>unfold sndAt at hs;rw[h] at hs;cases hs
 have hym:=Yb hy;have hys:=snd_last (hsr a) e2 hym;have hk0:=snd_first (hsr n) (hF.snd ha hn h1 hym hys) hys;obtain⟨f1,f2⟩:=hF.mx hn h2 hk0;exact⟨e1,f1,sorted_ext _ _ (hsr a) (hsr n) fun x=>⟨fun hx=>hF.snd ha hn h1 hx (snd_last (hsr a) e2 hx),fun hx=>hF.snd hn ha h2 hx (snd_last (hsr n) f2 hx)⟩⟩
theorem Fine.alls {g:Gl} {role:Int} {X:An} (hF:Fine g role X) {n k:Nat} (hn:(n:Int)<g.n) (h1:Prr g role (n,k)):∀e∈firstE g role (n:Nat),e.send=sndAt (firstE g role (n:Nat)) 0:=by
 intro e he;have hsr:(firstE g role (n:Nat)).Pairwise evLt:=sortE_sorted _;cases h0:sndAt (firstE g role (n:Nat)) 0 with
 | true=>exact snd_last hsr (hF.mx hn h1 h0).2 he
 | false=>
  cases hs:e.send with
  | false=>rfl
  | true=>rw[snd_first hsr he hs] at h0;cases h0
theorem hasState34 (p:Nat->Bool) (s:Sl) (m:Nat) (h:Heap) (hr:SetV h s p) (hm:m<4096) :
  Fn Pz 34 #[.slice s.a s.n s.c,.int .i64 m] h fun v h'=>v=.bool (p m)/\h'=h:=by
 apply vc34;unfold W34;obtain⟨ws,h1,h2,h3,h4⟩:=hr.ex;have hn:=h1.ln;have e1:IntKind.wrap .i64 (Int.tdiv (m:Int) 64)=((m/64:Nat):Int):=by
  have:Int.tdiv (m:Int) 64=((m/64:Nat):Int):=rfl;rw[this];exact w64 (by omega) (by omega)
 have e2:Int.tmod (m:Int) 64=((m%64:Nat):Int):=rfl;have h5:=h4 m;unfold memB at h5;refine⟨by omega,?_⟩;rw[e1];refine sBi (fun c1=>?_) (fun c1=>?_)
 .refine⟨by omega,?_⟩;refine h1.nbI (by omega) (by omega) fun b1 o2 d1 g1 t1=>?_;replace g1:ws[m/64]?=some d1:=g1;refine⟨_,t1.hd,by omega,by rw[e2];omega,?_,rfl⟩;rw[e2,bit_has (h3 _ (Yb g1)) (by omega),<-h5,Yo,g1];rfl
 .refine⟨?_,rfl⟩;rw[<-h5,Yo,Yl (by omega)];simp
theorem project26L (role:Int) (p:List Ed) (s:Sl) (h:Heap) (hr:Rw h 3 s (p.map actC)) (hm:p.length<=1048576) :
  Fn Pz 26 #[.slice s.a s.n s.c,.int .i64 role] h fun v h'=>Ext h h'/\∃r:Sl,v=.slice r.a r.n r.c/\RL h' 5 r Hv.cs ((p.filterMap (vis1 role)).map (hvE role)):=by
 apply vc26;unfold W26;have hn:=hr.ln;have hs:=(St.refl h).nil_ 33 5;refine up_loopA (n:=s.n) hs (fun i rows=>rows=((p.take i).filterMap (vis1 role)).map (aC role)) rfl ?_;clear hs;rintro-i out h6 rows hi hs rfl;have hocap:=hs.len 0 (s:=out) (e:=33) (n:=5) rfl (by omega);have hol:((p.take i).filterMap (vis1 role)).length<=i:=Yys (List.length_filterMap_le _ _) (by rw[Yu];omega);rw[Yc] at hocap;refine sB_intro (fun c=>?_) (fun c=>?_)
 .replace c:=lt_t c;refine (hr.ext hs.ext).nbI (by omega) (by omega) fun b o x gx t=>?_;replace gx:p[i]?=some x:=gx;have e1:vis1 role (⟨0,x.a,x.b,x.l,0,false⟩:Ed)=vis1 role x:=rfl;refine⟨_,_,_,t,?_⟩;refine hs.newput (vs:=Ed.cs ⟨0,x.a,x.b,x.l,0,false⟩) rfl rfl fun h13 hs=>?_;refine⟨_,_,_,_,_,_,hs.at 0 rfl (o:=0) (n:=6) rfl,?_⟩;refine (sees50 ⟨0,x.a,x.b,x.l,0,false⟩ role h13).mono ?_;rintro _ h22 ⟨rfl,E⟩;have hs:=hs.step E;refine⟨_,rfl,sB_intro (fun c2=>?_) (fun c2=>?_)⟩
  .rw[e1,Option.isSome_iff_exists] at c2;obtain⟨e,he⟩:=c2;refine⟨_,_,_,_,_,_,hs.at 0 rfl (o:=0) (n:=6) rfl,?_⟩;refine (event51 ⟨0,x.a,x.b,x.l,0,false⟩ role e (e1.trans he) h22).mono ?_;rintro _ h35 ⟨rfl,E⟩;have hs:=hs.step E;refine⟨_,_,_,_,⟨none,0,0⟩,rfl,?_⟩;refine hs.app 1 rfl app56 (m:=1) [aC role e] rfl rfl (fun r hr=>by rw[Ye] at hr;rw[hr];rfl) rfl (by omega) (by simp only[maxLen];omega) fun r h38 ns hs=>?_;refine UpA.next c (by omega) ⟨_,hs.drop 1,?_⟩;rw[take_snoc gx,List.filterMap_append,Ym];congr 1;rw[List.filterMap_cons,he];rfl
  .rw[e1] at c2;have he:vis1 role x=none:=by cases h:vis1 role x with | none=>rfl | some e=>rw[h] at c2;cases c2
   refine UpA.next c (by omega) ⟨_,hs.drop 1,?_⟩;rw[take_snoc gx,List.filterMap_append,List.filterMap_cons,he];simp
 .replace c:=lt_f c;rw[Yj (by omega)] at hs hocap hol;refine⟨hs.ext,out,rfl,?_,hocap.2.1,hocap.2.2,by rw[Yc];omega⟩;rw[List.map_map];exact hs.rows 0 rfl (by omega)
theorem evLoop (r:Sl) (role:Int) (E:List Ev) (h:Heap) (hr:Rw h 5 r (E.map (aC role))) (hl:E.length<=1048576) (hE:∀e∈E,e.send=sndAt E 0) {R:Value->Heap->Prop} {K:Heap->Prop} (hK:K h) :
  ∃I:Int->Heap->Nat->Prop,(∃m,I 0 h m)/\(∀(_:Env) (x:Int) (h1:Heap) (m:Nat),I x h1 m ->
   (sB (decide (x<(r.n:Int))) (NB r.a fun b o=>((0<=(x:Int)/\(x:Int)<(r.n:Nat))/\(∃y:Bool,hc h1 ⟨b,o+Int.toNat x*5+1,none⟩=some (.bool y) /\
    (sB (decide ((r.n:Int)>0)) (NB r.a fun b2 o2=>((0<=(0:Int)/\(0:Int)<(r.n:Nat))/\(∃z:Bool,hc h1 ⟨b2,o2+Int.toNat 0*5+1,none⟩=some (.bool z) /\
     (sB (!(y==z)) (R (.bool false) h1) (∃m2,m2<m/\I (IntKind.wrap .i64 (x+1)) h1 m2)))))
     (sB (!(y==false)) (R (.bool false) h1) (∃m2,m2<m/\I (IntKind.wrap .i64 (x+1)) h1 m2)))))) (K h1))):=by
 have hn:=hr.ln;refine⟨fun x h' m=>h'=h/\∃i:Nat,x=(i:Int)/\r.n-i=m/\i<=r.n,⟨_,rfl,0,rfl,rfl,Nat.zero_le _⟩,?_⟩;rintro-_ _ m ⟨rfl,i,rfl,rfl,hi⟩;refine sBi (fun c=>?_) (fun c=>hK);refine hr.nbI (by omega) (by omega) fun b o x gx t=>?_;replace gx:E[i]?=some x:=gx;refine⟨_,t.nth 1 rfl,sBi (fun c2=>?_) (fun c2=>absurd (show (r.n:Int)>0 by omega) c2)⟩;refine hr.nbI (by omega) (by omega) fun b o z gz t=>?_;replace gz:E[0]?=some z:=gz;refine⟨_,t.nth 1 rfl,?_⟩;have h9:=hE x (Yb gx);have h8:=hE z (Yb gz);refine sB_f (by rw[h9,h8];simp) ⟨r.n-(i+1),by omega,rfl,i+1,by rw[w64 (by omega) (by omega)];omega,rfl,by omega⟩
end Go.VC
end

section
namespace Go.VC
open Go.Proofs Go.LexS
variable [Mono]
namespace M
end M
end Go.VC
end

section
namespace Go.VC
open Go.Proofs Go.LexS Go.Shelf

end Go.VC
end

section
namespace Go.VC
open Go.Proofs Go.LexS
theorem FindP.len {g:Gl} (hV:ValidS g) {role:Int} {W:WS} {n:Int} (h:FindP g role W n):(n=farI/\W=ws0)\/(n=W.len/\n<=8388608/\1<=W.k/\W.k<=4/\W.r=role):=(h.q hV).len
def BestQ (g:Gl) (k:Nat) (W:WS) (n:Int):Prop:=
 (n=farI/\W=ws0/\∀j:Nat,j<k->∀W' n',FindP g (j:Int) W' n'->n'=farI) \/
  (n≠farI/\(∃i:Nat,i<k/\FindP g (i:Int) W n)/\∀j:Nat,j<k->∀W' n',FindP g (j:Int) W' n'->n'=farI\/n<n'\/(n=n'/\(W.k<W'.k\/(W.k=W'.k/\W.r<=(j:Int)))))
theorem ChkI.best {g:Gl} (hV:ValidS g) {k:Nat} {W:WS} {n:Int} (h:ChkI g k W n):BestQ g k W n:=by
 induction h with
 | zero=>exact .inl ⟨rfl,rfl,fun j hj=>by omega⟩
 | @take i W W' n n' _ hP hc ih=>
  have hl':=hP.len hV;have hn':n'≠farI:=by
   rcases ih with ⟨h1,_⟩ | ⟨h1,⟨i2,_,h2⟩,_⟩
   .unfold farI at *;omega
   .have h3:=h2.len hV;unfold farI at *;omega
  have hWr:W'.r=(i:Int):=by
   rcases hl' with ⟨h9,_⟩ | ⟨_,_,_,_,h9⟩
   .exact absurd h9 hn'
   .exact h9
  refine .inr ⟨hn',⟨i,by omega,hP⟩,fun j hj W2 n2 h2=>?_⟩;by_cases e:j=i
  .subst e;obtain⟨rfl,rfl⟩:=hP.uniq hV h2;exact .inr (.inr ⟨rfl,.inr ⟨rfl,by omega⟩⟩)
  .rcases ih with ⟨h1,_,h3⟩ | ⟨h1,_,h3⟩
   .exact .inl (h3 j (by omega) W2 n2 h2)
   .rcases h3 j (by omega) W2 n2 h2 with h4 | h4 | ⟨h4,h5⟩
    .exact .inl h4
    .exact .inr (.inl (by omega))
    .rcases hc with h6 | ⟨h6,_,h7⟩
     .exact .inr (.inl (by omega))
     .refine .inr (.inr ⟨by omega,.inl ?_⟩);rcases h5 with h5 | ⟨h5,_⟩<;>omega
 | @keep i W W' n n' _ hP hc ih=>
  have hl':=hP.len hV;rcases ih with ⟨h1,h2,h3⟩ | ⟨h1,⟨i2,hi2,h2⟩,h3⟩
  .refine .inl ⟨h1,h2,fun j hj W2 n2 h4=>?_⟩;by_cases e:j=i
   .subst e;obtain⟨rfl,rfl⟩:=hP.uniq hV h4;unfold farI at *;omega
   .exact h3 j (by omega) W2 n2 h4
  .have h5:=h2.len hV;refine .inr ⟨h1,⟨i2,by omega,h2⟩,fun j hj W2 n2 h4=>?_⟩;by_cases e:j=i
   .subst e;obtain⟨rfl,rfl⟩:=hP.uniq hV h4;have hr:W.r=(i2:Int):=by
     rcases h5 with ⟨h9,_⟩ | ⟨_,_,_,_,h9⟩
     .exact absurd h9 h1
     .exact h9
    by_cases e1:n'=farI
    .exact .inl e1
    .by_cases e2:n<n'
     .exact .inr (.inl e2)
     .have e3:n=n':=by
       have:¬n'<n:=fun h9=>hc (.inl h9);omega
      refine .inr (.inr ⟨e3,?_⟩);have:¬W'.k<W.k:=fun h9=>hc (.inr ⟨e3.symm,by unfold farI at *;omega,h9⟩);rcases Int.lt_or_le W.k W'.k with h9 | h9
      .exact .inl h9
      .exact .inr ⟨by omega,by omega⟩
   .exact h3 j (by omega) W2 n2 h4
/-! ### certificates -/
theorem Prr.sub {g:Gl} {role:Int} {PL:List Pr} (h0:p00 g∈PL) (hcl:∀p∈PL,∀m∈movL g.es role p.1 p.2,pto m∈PL) {p:Pr} (h:Prr g role p):p∈PL:=by
 induction h with
 | start=>exact h0
 | step _ hm ih=>exact hcl _ ih _ hm
theorem Dn.cst {g:Gl} {role:Int} {cst:Pr->Option Nat} {p:Pr} {n:Nat} (hd:Dn (mvP g role) cst p n):Prr g role p->∃q,Prr g role q/\cst q≠none:=by
 induction hd with
 | base h=>exact fun hp=>⟨_,hp,by rw[h];simp⟩
 | step hm _ ih=>exact fun hp=>ih (.step hp hm)
theorem BpQ.none {g:Gl} {role kind:Int} {PL:List Pr} (h0:p00 g∈PL) (hcl:∀p∈PL,∀m∈movL g.es role p.1 p.2,pto m∈PL) (hc:∀p∈PL,cstP g role kind p=Option.none) {W:WS} {n:Int} (h:BpQ g role kind W n):n=farI:=by
 cases h with
 | far=>rfl
 | hit hl=>
  obtain⟨q,hq,hne⟩:=hl.1.cst .start;exact absurd (by unfold cstQ;rw[hc q (hq.sub h0 hcl)];rfl) hne
theorem DnS.mx {es:List Ed} {MX:Nat->Prop} {s n:Nat} (h:DnS es MX s n):∃t,MX t:=by
 induction h with
 | base h=>exact⟨_,h⟩
 | step _ _ _ ih=>exact ih
theorem MxQ.none {g:Gl} {role:Int} (hc:∀s:Nat,s<g.n.toNat->¬mxP g role s) {W:WS} {n:Int} (h:MxQ g role W n):n=farI:=by
 cases h with
 | far=>rfl
 | hit hl=>
  obtain⟨t,ht⟩:=hl.1.mx;exact absurd ht (hc t ht.1)
theorem FindQ.none {g:Gl} {role:Int} {PL:List Pr} (h0:p00 g∈PL) (hcl:∀p∈PL,∀m∈movL g.es role p.1 p.2,pto m∈PL) (hc:∀p∈PL,cstP g role 1 p=Option.none/\cstP g role 3 p=Option.none/\cstP g role 4 p=Option.none) (hm:∀s:Nat,s<g.n.toNat->¬mxP g role s):∀ {i:Nat} {W:WS} {n:Int},FindQ g role i W n->n=farI:=by
 intro i W n h
 induction h with
 | zero=>rfl
 | @take i W W' n n' _ hk hl ih=>
  have:n'=farI:=by
   match i with
   | 0=>exact BpQ.none h0 hcl (fun p hp=>(hc p hp).1) hk
   | 1=>exact MxQ.none hm hk
   | 2=>exact BpQ.none h0 hcl (fun p hp=>(hc p hp).2.1) hk
   | i+3=>exact BpQ.none h0 hcl (fun p hp=>(hc p hp).2.2) hk
  exact this
 | keep _ _ _ ih=>exact ih
/-! ### two roles: nothing is found -/

instance:DecidableEq Lm:=fun a b=>decidable_of_iff (a.k=b.k/\a.x=b.x) ⟨fun ⟨h1,h2⟩=>by cases a;cases b;simp_all,fun h=>by rw[h];exact⟨rfl,rfl⟩⟩
def fcC (g:Gl) (role:Int) (s:Nat):Option (List Ev × Bool):=(cloC g.es role g.n.toNat [(s:Int)]).map fun L=>(evsC g.es role L,decide (g.e.toNat∈L))
theorem fc_eq {g:Gl} (hV:ValidS g) {role:Int} {s:Nat} (hs:(s:Int)<g.n) {q:List Ev × Bool} (h:fcC g role s=some q):firstE g role (s:Nat)=q.1/\firstB g role (s:Nat)=q.2:=by
 have hN:=hV.num.n;unfold fcC at h;obtain⟨L,hL,rfl⟩:=Yya.1 h;obtain⟨hc,he⟩:=cloC_ok (fun x hx=>by have:=hV.num.e x hx;unfold EdS at this;omega) (fun j hj=>by have:=clo_lt (l:=[(s:Int)]) hV (fun x hx=>by rw[Ye] at hx;omega) j hj;omega) hL;constructor
 .unfold firstE;rw[he,evs_setOf hc (by omega)]
 .unfold firstB;rw[he];rfl
def clB (g:Gl) (role:Int) (s t:Nat):Bool:=owFo g.es role s&&(owFo g.es role t&&(!decide (limFo g role g.ts s=limFo g role g.ts t) || !decide (agFo g.es s=agFo g.es t)))
theorem clB_eq {g:Gl} {role:Int} {s t:Nat} (hs:s<g.n.toNat) (ht:t<g.n.toNat) (h:clB g role s t=false):¬clP g role s t:=by
 unfold clP ClA;rw[range_at _ hs,range_at _ ht,range_at _ hs,range_at _ ht,range_at _ hs,range_at _ ht];rintro⟨h1,h2,h3⟩;have e1:=Yyp h1;have e2:=Yyp h2;unfold clB at h;rw[e1,e2,Bool.true_and,Bool.true_and,Bool.or_eq_false_iff] at h;rcases h3 with h3 | h3
 .have:=h.1;simp at this;exact h3 (by rw[this])
 .have:=h.2;simp at this;exact h3 (by rw[this])
def pairC (g:Gl) (role:Int) (PL:List Pr) (p:Pr):Bool:=
 decide (p.1<g.n.toNat)&&(decide (p.2<g.n.toNat)&&((movL g.es role p.1 p.2).all fun m=>decide (pto m∈PL)))
def cstC (g:Gl) (role:Int) (p:Pr):Bool:=
 match fcC g role p.1,fcC g role p.2 with
 | some a,some b=>(a.1.find? (difP b.1)).isNone&&(!clB g role p.1 p.2&&(arvF b.1 (arrS g role p.1)).isNone)
 | _,_=>false
def mixC (g:Gl) (role:Int) (s:Nat):Bool:=
 match fcC g role s with
 | some a=>!(sndAt a.1 0&&(a.2 || !sndAt a.1 (a.1.length-1)))
 | none=>false
def noneC (g:Gl) (role:Int) (PL:List Pr):Bool:=
 decide (p00 g∈PL)&&((PL.all fun p=>pairC g role PL p&&cstC g role p)&&((List.range g.n.toNat).all fun s=>mixC g role s))
theorem pairC_eq {g:Gl} {role:Int} {PL:List Pr} {p:Pr} (h:pairC g role PL p=true):p.1<g.n.toNat/\p.2<g.n.toNat/\∀m∈movL g.es role p.1 p.2,pto m∈PL:=by
 unfold pairC at h;rw[Yt,Yt,decide_eq_true_eq,decide_eq_true_eq,List.all_eq_true] at h;exact⟨h.1,h.2.1,fun m hm=>Yyn (h.2.2 m hm)⟩
theorem cstC_eq {g:Gl} (hV:ValidS g) {role:Int} {p:Pr} (h1:p.1<g.n.toNat) (h2:p.2<g.n.toNat) (h:cstC g role p=true):cstP g role 1 p=none/\cstP g role 3 p=none/\cstP g role 4 p=none:=by
 unfold cstC at h;split at h
 .rename_i a b ha hb;obtain⟨ea,_⟩:=fc_eq hV (by omega) ha;obtain⟨eb,_⟩:=fc_eq hV (by omega) hb;rw[Yt,Yt] at h;obtain⟨k1,k2,k3⟩:=h;rw[Option.isNone_iff_eq_none] at k1 k3;refine⟨?_,?_,?_⟩
  .unfold cstP;rw[if_pos rfl,if_pos ⟨h1,h2⟩,ea,eb,k1];rfl
  .unfold cstP;rw[if_neg (by decide),if_pos rfl,if_neg (clB_eq h1 h2 (by simpa using k2))]
  .unfold cstP;rw[if_neg (by decide),if_neg (by decide),if_pos ⟨h1,h2⟩,eb,k3];rfl
 .cases h
theorem mixC_eq {g:Gl} (hV:ValidS g) {role:Int} {s:Nat} (hs:s<g.n.toNat) (h:mixC g role s=true):¬mxP g role s:=by
 unfold mixC at h;split at h
 .rename_i a ha;obtain⟨e1,e2⟩:=fc_eq hV (by omega) ha;unfold mxP;rw[e1,e2];rintro⟨_,h9⟩;rw[h9] at h;cases h
 .cases h
theorem noneC_ok {g:Gl} (hV:ValidS g) {role:Int} {PL:List Pr} (h:noneC g role PL=true) {i:Nat} {W:WS} {n:Int} (hF:FindQ g role i W n):n=farI:=by
 unfold noneC at h;rw[Yt,Yt,decide_eq_true_eq,List.all_eq_true,List.all_eq_true] at h;obtain⟨h0,h1,h2⟩:=h;have hp:∀p∈PL,pairC g role PL p=true/\cstC g role p=true:=fun p hp=>by have:=h1 p hp;rwa [Yt] at this
 refine FindQ.none h0 (fun p hp' m hm=>(pairC_eq (hp p hp').1).2.2 m hm) (fun p hp'=>?_) (fun s hs=>mixC_eq hV hs (h2 s (List.mem_range.2 hs))) hF;have:=pairC_eq (hp p hp').1;exact cstC_eq hV this.1 this.2.1 (hp p hp').2
theorem ex_t0 (hr hd he ht:Sl):noneC (exGl true hr hd he ht) 0 [(0,0),(1,1),(2,2),(1,3),(3,1),(3,3),(2,4),(4,2),(4,4),(1,5),(5,1),(3,5),(5,3),(5,5),(2,5),(5,2),(4,5),(5,4)]=true:=by kernel_rfl
theorem ex_t1 (hr hd he ht:Sl):noneC (exGl true hr hd he ht) 1 [(0,0),(1,1),(2,2),(3,3),(4,4),(5,5)]=true:=by kernel_rfl
theorem ex_t2 (hr hd he ht:Sl):noneC (exGl true hr hd he ht) 2 [(0,0),(0,1),(1,0),(0,2),(2,0),(1,1),(1,2),(2,1),(2,2),(3,3),(4,4),(5,5)]=true:=by kernel_rfl
theorem ex_f0 (hr hd he ht:Sl):noneC (exGl false hr hd he ht) 0 [(0,0),(1,1),(2,2),(1,3),(3,1),(3,3),(2,3),(3,2)]=true:=by kernel_rfl
theorem ex_f1 (hr hd he ht:Sl):noneC (exGl false hr hd he ht) 1 [(0,0),(1,1),(2,2),(3,3)]=true:=by kernel_rfl
theorem FindQ.le {g:Gl} {role:Int} {i:Nat} {W:WS} {n:Int} (h:FindQ g role i W n):n<=farI:=by
 rcases h.len with ⟨h1,_⟩ | ⟨_,h1,_⟩<;>unfold farI at *<;>omega
theorem FindQ.drop {g:Gl} {role:Int} {i:Nat} {W:WS} {n:Int} (h:FindQ g role (i+1) W n) (hn:∀W' n',kindQ g role i W' n'->n'=farI):FindQ g role i W n:=by
 cases h with
 | take h1 hk hl=>
  have h2:=hn _ _ hk;have h3:=h1.le;omega
 | keep h1 _ _=>exact h1
def cst1C (g:Gl) (role:Int) (p:Pr):Option Bool:=
 match fcC g role p.1,fcC g role p.2 with
 | some a,some b=>some (a.1.find? (difP b.1)).isSome
 | _,_=>none
theorem cst1_eq {g:Gl} (hV:ValidS g) {role:Int} {p:Pr} (h1:p.1<g.n.toNat) (h2:p.2<g.n.toNat) {b:Bool} (h:cst1C g role p=some b):cstP g role 1 p=if b then some 0 else none:=by
 unfold cst1C at h;split at h
 .rename_i a c ha hb;obtain⟨ea,_⟩:=fc_eq hV (by omega) ha;obtain⟨eb,_⟩:=fc_eq hV (by omega) hb;cases h;unfold cstP;rw[if_pos rfl,if_pos ⟨h1,h2⟩,ea,eb]
 .cases h
def restC (g:Gl) (role:Int) (PL:List Pr):Bool:=
 decide (p00 g∈PL)&&((PL.all fun p=>pairC g role PL p&&(match fcC g role p.2 with | some b=>!clB g role p.1 p.2&&(arvF b.1 (arrS g role p.1)).isNone | none=>false))&&((List.range g.n.toNat).all fun s=>mixC g role s))
theorem restC_ok {g:Gl} (hV:ValidS g) {role:Int} {PL:List Pr} (h:restC g role PL=true) {W:WS} {n:Int} (hF:FindQ g role 4 W n):FindQ g role 1 W n:=by
 unfold restC at h;rw[Yt,Yt,decide_eq_true_eq,List.all_eq_true,List.all_eq_true] at h;obtain⟨h0,h1,h2⟩:=h;have hp:∀p∈PL,pairC g role PL p=true/\cstP g role 3 p=none/\cstP g role 4 p=none:=fun p hp=>by
  have h3:=h1 p hp;rw[Yt] at h3;obtain⟨k1,k2,_⟩:=pairC_eq h3.1;have h4:=h3.2;split at h4
  .rename_i b hb;obtain⟨eb,_⟩:=fc_eq hV (by omega) hb;rw[Yt,Option.isNone_iff_eq_none] at h4;refine⟨h3.1,?_,?_⟩
   .unfold cstP;rw[if_neg (by decide),if_pos rfl,if_neg (clB_eq k1 k2 (by simpa using h4.1))]
   .unfold cstP;rw[if_neg (by decide),if_neg (by decide),if_pos ⟨k1,k2⟩,eb,h4.2];rfl
  .cases h4
 have hcl:∀p∈PL,∀m∈movL g.es role p.1 p.2,pto m∈PL:=fun p hp' m hm=>(pairC_eq (hp p hp').1).2.2 m hm;refine ((hF.drop (i:=3) fun W' n' hk=>?_).drop (i:=2) fun W' n' hk=>?_).drop (i:=1) fun W' n' hk=>?_
 .exact BpQ.none h0 hcl (fun p hp'=>(hp p hp').2.2) hk
 .exact BpQ.none h0 hcl (fun p hp'=>(hp p hp').2.1) hk
 .exact MxQ.none (fun s hs=>mixC_eq hV hs (h2 s (List.mem_range.2 hs))) hk
theorem Lst.zero {mv:Pr->List Pmv} {cst:Pr->Option Nat} {p:Pr} (h:cst p=some 0):Lst mv cst p 0:=⟨.base h,fun k _=>Nat.zero_le k⟩
theorem Lst.zero_cst {mv:Pr->List Pmv} {cst:Pr->Option Nat} {p:Pr} (h:Lst mv cst p 0):cst p=some 0:=by
 have h1:=h.1;generalize e:(0:Nat)=z at h1;cases h1 with
 | base h=>rw[h,<-e]
 | @step _ m n _ _=>have:=plen_pos m;omega
theorem dL_zero {mv:Pr->List Pmv} {cst:Pr->Option Nat} {p:Pr} (h:dL mv cst p=0):cst p=some 0:=by
 by_cases h9:∃n,Lst mv cst p n
 .obtain⟨n,hn⟩:=h9;have h1:=dL_of hn;have:n=0:=by omega
  subst this;exact hn.zero_cst
 .have h1:=dL_no (mv:=mv) (cst:=cst) (p:=p) fun n hn=>h9 ⟨n,hn⟩;unfold farI at h1;omega
theorem sum_one {ms:List Pmv} (h:(ms.map plen).sum=1):∃m,ms=[m]:=by
 cases ms with
 | nil=>cases h
 | cons m r=>
  cases r with
  | nil=>exact⟨m,rfl⟩
  | cons m2 r=>
   have h1:=plen_pos m;have h2:=plen_pos m2;rw[Yyl,Yyl,List.sum_cons,List.sum_cons] at h;omega
theorem GTo.nil_inv {mv:Pr->List Pmv} {cst:Pr->Option Int} {D:Pr->Int} {p0 p:Pr} (h:GTo mv cst D p0 [] p):p=p0:=by
 generalize hms:([]:List Pmv)=ms at h;cases h with
 | nil=>rfl
 | snoc=>exact absurd hms (by simp)
theorem ex_mv (hr hd he ht:Sl):mvP (exGl false hr hd he ht) 2 (p00 (exGl false hr hd he ht))=[⟨0,-1,1,0⟩,⟨1,-1,2,0⟩,⟨-1,0,0,1⟩,⟨-1,1,0,2⟩]:=by kernel_rfl
theorem ex_c00 (hr hd he ht:Sl):cst1C (exGl false hr hd he ht) 2 (0,0)=some false:=by kernel_rfl
theorem ex_c10 (hr hd he ht:Sl):cst1C (exGl false hr hd he ht) 2 (1,0)=some false:=by kernel_rfl
theorem ex_c20 (hr hd he ht:Sl):cst1C (exGl false hr hd he ht) 2 (2,0)=some false:=by kernel_rfl
theorem ex_c01 (hr hd he ht:Sl):cst1C (exGl false hr hd he ht) 2 (0,1)=some true:=by kernel_rfl
theorem ex_f2 (hr hd he ht:Sl):restC (exGl false hr hd he ht) 2 [(0,0),(0,1),(1,0),(0,2),(2,0),(1,1),(1,2),(2,1),(2,2),(3,3)]=true:=by kernel_rfl
theorem ex_fc0 (hr hd he ht:Sl):fcC (exGl false hr hd he ht) 2 0=some ([⟨true,1,2⟩,⟨true,1,3⟩],false):=by kernel_rfl
theorem ex_fc1 (hr hd he ht:Sl):fcC (exGl false hr hd he ht) 2 1=some ([⟨true,1,2⟩],false):=by kernel_rfl
theorem ex_role2 {hr hd he ht:Sl} {W:WS} {n:Int} (hF:FindQ (exGl false hr hd he ht) 2 4 W n):n=1/\W.k=1/\W.F=[]/\W.S.length=1/\W.e.l=3:=by
 have hV:=ex_valid false hr hd he ht;have h1:=restC_ok hV (ex_f2 hr hd he ht) hF;generalize hg:exGl false hr hd he ht=g at *;have c00:cstQ g 2 1 (p00 g)=none:=by subst hg;show (cstP (exGl false hr hd he ht) 2 1 (0,0)).map Int.toNat=none;rw[cst1_eq hV (p:=(0,0)) (by show 0<4;decide) (by show 0<4;decide) (ex_c00 hr hd he ht)];rfl
 have c10:cstQ g 2 1 (1,0)=none:=by subst hg;show (cstP (exGl false hr hd he ht) 2 1 (1,0)).map Int.toNat=none;rw[cst1_eq hV (p:=(1,0)) (by show 1<4;decide) (by show 0<4;decide) (ex_c10 hr hd he ht)];rfl
 have c20:cstQ g 2 1 (2,0)=none:=by subst hg;show (cstP (exGl false hr hd he ht) 2 1 (2,0)).map Int.toNat=none;rw[cst1_eq hV (p:=(2,0)) (by show 2<4;decide) (by show 0<4;decide) (ex_c20 hr hd he ht)];rfl
 have c01:cstQ g 2 1 (0,1)=some 0:=by subst hg;show (cstP (exGl false hr hd he ht) 2 1 (0,1)).map Int.toNat=some 0;rw[cst1_eq hV (p:=(0,1)) (by show 0<4;decide) (by show 1<4;decide) (ex_c01 hr hd he ht)];rfl
 have hmv:mvP g 2 (p00 g)=[⟨0,-1,1,0⟩,⟨1,-1,2,0⟩,⟨-1,0,0,1⟩,⟨-1,1,0,2⟩]:=by subst hg;exact ex_mv hr hd he ht
 have hL:Lst (mvP g 2) (cstQ g 2 1) (p00 g) 1:=by
  refine⟨.step (m:=⟨-1,0,0,1⟩) (n:=0) (by rw[hmv];simp) (.base c01),fun k hk=>?_⟩;cases hk with
  | base h=>rw[c00] at h;cases h
  | @step _ m _ _ _=>have:=plen_pos m;omega
 have hd0:=dL_of hL;have hB:BpQ g 2 1 W n:=by
  cases h1 with
  | take h0 hk hl=>exact hk
  | @keep _ _ W' _ n' h0 hk hl=>
   cases h0;exfalso;apply hl;cases hk with
   | far hn=>exact absurd hL (hn 1)
   | hit hl' hn'=>unfold farI;omega
 cases hB with
 | far hn=>exact absurd hL (hn 1)
 | @hit n ms p hl hn hG hc=>
  have en:n=1:=hl.uniq hL;subst en;have hlen:=hG.len;have hp0:dL (mvP g 2) (cstQ g 2 1) p=0:=by
   unfold cstP at hc;rw[if_pos rfl] at hc;split at hc
   .split at hc
    .exact (Yyp hc).symm
    .cases hc
   .cases hc
  obtain⟨m,rfl⟩:=sum_one (ms:=ms) (by omega);have hm:m=⟨-1,0,0,1⟩/\p=(0,1):=by
   generalize hms:[m]=ms at hG;cases hG with
   | nil=>cases hms
   | @snoc ms1 p1 m1 k hg1 hne hix hk=>
    cases ms1 with
    | cons a b=>simp at hms
    | nil=>
     have e0:=hg1.nil_inv;subst e0
     .have e1:m=m1:=by simpa using hms
      subst e1;obtain⟨k1,k2,k3⟩:=List.findIdx?_eq_some_iff_getElem.1 hix;rw[(Ya.1 hk).2] at k2;have hz:=dL_zero hp0;rw[hmv] at hk
      match k,hk with
      | 0,hk=>cases hk;rw[show pto (⟨0,-1,1,0⟩:Pmv)=(1,0) from rfl,c10] at hz;cases hz
      | 1,hk=>cases hk;rw[show pto (⟨1,-1,2,0⟩:Pmv)=(2,0) from rfl,c20] at hz;cases hz
      | 2,hk=>cases hk;exact⟨rfl,rfl⟩
      | 3,hk=>
       exfalso;have h9:=k3 2 (by decide);simp only[hmv] at h9;apply h9;unfold okM;refine decide_eq_true ?_;have e2:=dL_of (Lst.zero (mv:=mvP g 2) c01);show (plen (⟨-1,0,0,1⟩:Pmv):Int)+dL (mvP g 2) (cstQ g 2 1) (0,1)=_;rw[e2,hd0];rfl
      | k+4,hk=>simp at hk
  obtain⟨rfl,rfl⟩:=hm;refine⟨rfl,rfl,?_,?_,?_⟩
  .unfold exP;rw[if_pos rfl];rfl
  .rfl
  .subst hg;unfold exP;rw[if_pos rfl,(fc_eq hV (s:=0) (by show (0:Int)<4;decide) (ex_fc0 hr hd he ht)).1,(fc_eq hV (s:=1) (by show (1:Int)<4;decide) (ex_fc1 hr hd he ht)).1];rfl
inductive RlR (g:Gl) (role:Int) (h h':Heap):Value->Prop
 | ok {W:WS} (hF:FindP g role W farI) (E:Ext h h'):RlR g role h h' (.tuple ⟨[.agg ⟨wt0.cs⟩,.int .i64 0]⟩)
 | err {v:Value} {W:WS} {n:Int} (hF:FindP g role W n) (hn:n≠farI) (hw:WOut h h' W 18 v):RlR g role h h' v
theorem role19 (g:Gl) (role:Int) (h:Heap) (hg:GI h g) (hx:Gm h) (hV:ValidS g) (hr:0<=role/\role<g.rs.length):Fn Pz 19 #[g.v,.int .i64 role] h fun v h'=>RlR g role h h' v:=by
 apply vc19 (bs g.nm) g.hr g.hd g.n g.s g.e g.he g.ht role;unfold W19;refine (St.refl h).newb fun h9 hs=>?_;refine hs.newb fun h10 hs=>?_;refine⟨_,_,_,_,_,_,_,_,hs.at 1 rfl (o:=0) (n:=8) rfl,?_⟩;refine (find69 g role h10 (hg.ext hs.ext) (hx.ext hs.ext) hV hr).mono ?_;rintro _ h36 ⟨W,n,hF,w,e1,e2,e3,e4,rfl,L,hs'⟩;refine⟨w.k,w.r,w.f,w.s,w.e.r,w.e.s,w.e.p,w.e.l,nilS,w.o.r,w.o.s,w.o.p,w.o.l,nilS,n,0,rfl,?_⟩;replace hs:=hs.join hs';refine hs.newput (vs:=w.cs) rfl rfl fun h38 hs=>?_;refine sBn (fun c=>absurd rfl c) (fun _=>?_);refine sBe (fun c=>?_) (fun c=>?_)
 .subst c;refine hs.put 1 rfl (o:=0) (vs:=wt0.cs) rfl (Yyt 14) fun h54 hs=>?_;refine rdW (w:=wt0) (Q:=fun cs=>RlR g role h h54 (.tuple ⟨[.agg ⟨cs⟩,.int .i64 0]⟩)) (hs.at 1 rfl (o:=0) (n:=14) rfl) ?_;exact .ok hF hs.ext
 .refine cpW hs 0 1 (w:=w) (w0:=wt0) rfl rfl fun h83 hs=>?_;refine rdW (w:=w) (Q:=fun cs=>RlR g role h h83 (.tuple ⟨[.agg ⟨cs⟩,.int .i64 18]⟩)) (hs.at 1 rfl (o:=0) (n:=14) rfl) ?_;exact .err hF c ⟨w,e1,e2,e3,e4,rfl,L,hs.drop 3⟩
def Wt.len (w:Wt):Int:=if w.k=2 then 2*(w.f.n:Int) else (w.f.n:Int)+(w.s.n:Int)
theorem wout_len {h h':Heap} {W:WS} {w:Wt} {L:List It} (hs:St h h' (.sl w.f 65 3 (W.F.map Ac.cs) :: .sl w.s 65 3 (W.S.map Ac.cs)::L)) (hk:w.k=W.k):w.len=(W.len:Int)/\w.f.n=W.F.length/\w.s.n=W.S.length:=by
 have h1:=(hs.len 0 (s:=w.f) rfl (by decide)).1;have h2:=(hs.len 1 (s:=w.s) rfl (by decide)).1;rw[Yc] at h1 h2;refine⟨?_,h1,h2⟩;unfold Wt.len WS.len;rw[hk];split<;>omega
theorem ex_chk_false {hr hd he ht:Sl} {h h':Heap} {v:Value} (hc:ChkR (exGl false hr hd he ht) h h' v):∃W,WOut h h' W 18 v/\W.k=1/\W.r=2/\W.F=[]/\W.S.length=1/\W.e.l=3:=by
 have hV:=ex_valid false hr hd he ht;have h0:∀ {W n},FindP (exGl false hr hd he ht) ((0:Nat):Int) W n->n=farI:=fun h=>noneC_ok hV (role:=0) (ex_f0 hr hd he ht) (h.q hV);have h1:∀ {W n},FindP (exGl false hr hd he ht) ((1:Nat):Int) W n->n=farI:=fun h=>noneC_ok hV (role:=1) (ex_f1 hr hd he ht) (h.q hV);cases hc with
 | bad hV'=>exact absurd hV hV'
 | ok _ hC _=>
  obtain⟨W',n',hF,hn⟩:=hC.all 2 (by show 2<3;decide);have:=(ex_role2 (hF.q hV)).1;unfold farI at hn;omega
 | @err v W n _ hC hn hw=>
  rcases hC.best hV with ⟨h9,_⟩ | ⟨_,⟨i,hi,hF⟩,_⟩
  .exact absurd h9 hn
  .have hi3:i<3:=hi;have hi9:i=0\/i=1\/i=2:=by omega
   rcases hi9 with rfl | rfl | rfl
   .exact absurd (h0 hF) hn
   .exact absurd (h1 hF) hn
   .obtain⟨_,k1,k2,k3,k4⟩:=ex_role2 (hF.q hV);rcases hF.len hV with ⟨h9,_⟩ | ⟨_,_,_,_,h9⟩
    .exact absurd h9 hn
    .exact⟨W,hw,k1,h9,k2,k3,k4⟩
theorem ex_chk_true {hr hd he ht:Sl} {h h':Heap} {v:Value} (hc:ChkR (exGl true hr hd he ht) h h' v):v=.tuple ⟨[.agg ⟨wt0.cs⟩,.int .i64 0]⟩/\Ext h h':=by
 have hV:=ex_valid true hr hd he ht;have hn:∀ {i:Nat} {W n},i<3->FindP (exGl true hr hd he ht) (i:Int) W n->n=farI:=fun {i W n} hi hF=>by
  have hi9:i=0\/i=1\/i=2:=by omega
  rcases hi9 with rfl | rfl | rfl
  .exact noneC_ok hV (role:=0) (ex_t0 hr hd he ht) (hF.q hV)
  .exact noneC_ok hV (role:=1) (ex_t1 hr hd he ht) (hF.q hV)
  .exact noneC_ok hV (role:=2) (ex_t2 hr hd he ht) (hF.q hV)
 cases hc with
 | bad hV'=>exact absurd hV hV'
 | ok _ _ E=>exact⟨rfl,E⟩
 | err _ hC h9 _=>
  rcases hC.best hV with ⟨h8,_⟩ | ⟨_,⟨i,hi,hF⟩,_⟩
  .exact absurd h8 h9
  .exact absurd (hn hi hF) h9
theorem awake12 (h:Heap) (hx:Gm h):Fn Pz 12 #[] h fun v h'=>v=.bool true/\Ext h h':=by
 apply vc12;unfold W12;refine (example34 false h).mono ?_;rintro _ h10 ⟨E1,hr,hd,he,rfl,hg⟩;refine⟨_,_,_,_,_,_,_,_,rfl,?_⟩;refine (check33 _ h10 hg (hx.ext E1)).mono ?_;intro v h27 hc;obtain⟨W,⟨w,e1,e2,e3,e4,rfl,L,hs'⟩,k1,k2,k3,k4,k5⟩:=ex_chk_false hc;obtain⟨_,l1,l2⟩:=wout_len hs' e1;refine⟨w.k,w.r,w.f,w.s,w.e.r,w.e.s,w.e.p,w.e.l,nilS,w.o.r,w.o.s,w.o.p,w.o.l,nilS,18,rfl,?_⟩;have hs:=((St.refl h).step E1).join hs';refine hs.newput (vs:=w.cs) rfl rfl fun h29 hs=>?_;refine (example34 true h29).mono ?_;rintro _ h39 ⟨E2,hr',hd',he',rfl,hg'⟩;replace hs:=hs.step E2;refine⟨_,_,_,_,_,_,_,_,rfl,?_⟩;refine (check33 _ h39 hg' (hx.ext hs.ext)).mono ?_;intro v h56 hc;obtain⟨rfl,E3⟩:=ex_chk_true hc;replace hs:=hs.step E3;refine⟨0,0,nilS,nilS,0,false,0,0,nilS,0,false,0,0,nilS,0,rfl,?_⟩;refine hs.newput (vs:=wt0.cs) rfl rfl fun h58 hs=>?_;refine sB_t rfl (sB_t rfl ?_);refine⟨w.k,hs.rd 1 rfl (i:=0) rfl,sBe (fun _=>?_) (fun c=>absurd (by rw[e1,k1]) c)⟩;refine⟨w.r,hs.rd 1 rfl (i:=1) rfl,sBe (fun _=>?_) (fun c=>absurd (by rw[e2,k2]) c)⟩;refine⟨w.f,hs.rd 1 rfl (i:=2) rfl,sBe (fun _=>?_) (fun c=>absurd (by rw[l1,k3];rfl) c)⟩;refine⟨w.s,hs.rd 1 rfl (i:=3) rfl,sBe (fun _=>?_) (fun c=>absurd (by rw[l2,k4];rfl) c)⟩;refine⟨w.e.l,hs.rd 1 rfl (i:=7) rfl,sBe (fun _=>?_) (fun c=>absurd (by rw[e3,k5]) c)⟩;exact⟨0,hs.rd 0 rfl (i:=0) rfl,rfl,hs.ext⟩
theorem small21 (g:Gl) (role:Int) (h:Heap) (hg:GI h g) (hM:GNm g.ds):Fn Pz 21 #[g.v,.int .i64 role] h (RP ((FewS g/\g.n<=25)/\ValidS g/\0<=role/\role<g.rs.length) h):=by
 apply vc21 (bs g.nm) g.hr g.hd g.n g.s g.e g.he g.ht;unfold W21;refine (St.refl h).newb fun h9 hs=>?_;refine⟨_,_,_,_,_,_,_,_,hs.at 0 rfl (o:=0) (n:=8) rfl,?_⟩;refine (few11 g h9 (hg.ext hs.ext)).mono ?_;rintro _ h20 ⟨rfl,E⟩;have hs:=hs.step E;refine⟨_,rfl,sB_intro (fun c1=>?_) (fun c1=>RP.f (fun hG=>absurd (decide_eq_true hG.1) (by rw[c1];decide)) hs.ext)⟩;have c1:=Yyn c1;refine⟨_,_,_,_,_,_,_,_,hs.at 0 rfl (o:=0) (n:=8) rfl,?_⟩;refine (good49 g role h20 (hg.ext hs.ext) hM).mono ?_;rintro _ h31 ⟨⟨b,rfl,hb⟩,E⟩;exact⟨_,rfl,⟨_,rfl,hb.trans ⟨fun h9=>⟨c1,h9⟩,fun h9=>h9.2⟩⟩,(hs.step E).ext⟩
theorem realizeSends (g:Gl) (role:Int) (s1:Sl) (L1q:List Nat) (h:Heap) (hg:GI h g) (hx:Gx h) (hM:GNm g.ds) (h1:Rw h 1 s1 (L1q.map u8C)) (b1:∀n∈L1q,n<=255) :
  Fn Pz 9 #[g.v,.int .i64 role,.slice s1.a s1.n s1.c] h fun v h'=>v=.bool true/\Ext h h':=by
 apply vc9 (bs g.nm) g.hr g.hd g.n g.s g.e g.he g.ht role s1;unfold W9 V9a;have hn1:=h1.ln;refine (St.refl h).newb fun h9 hs=>?_;refine (awake12 h9 (hx.ext hs.ext)).mono ?_;rintro _ h12 ⟨rfl,E⟩;have hs:=hs.step E;refine⟨true,rfl,sB_f rfl ?_⟩;refine⟨_,_,_,_,_,_,_,_,hs.at 0 rfl (o:=0) (n:=8) rfl,?_⟩;refine (small21 g role h12 (hg.ext hs.ext) hM).mono ?_;rintro _ h23 ⟨⟨bv,rfl,hbv⟩,E⟩;have hs:=hs.step E;refine⟨_,rfl,sB_intro (fun _=>⟨rfl,hs.ext⟩) (fun c=>?_)⟩;obtain⟨_,hV,hr0⟩:=hbv.1 (by simpa using c);have hN:=hV.num.n;refine sBi (fun _=>⟨rfl,hs.ext⟩) (fun c1=>?_);refine⟨_,_,_,_,_,_,_,_,hs.at 0 rfl (o:=0) (n:=8) rfl,?_⟩;refine (role19 g role h23 (hg.ext hs.ext) (hx.ext hs.ext) hV hr0).mono ?_;intro v h48 hres;cases hres with
 | err hF hn hw=>
  obtain⟨w,e1,e2,e3,e4,rfl,L,hs2⟩:=hw;have hs:=hs.step hs2.ext;refine⟨w.k,w.r,w.f,w.s,w.e.r,w.e.s,w.e.p,w.e.l,nilS,w.o.r,w.o.s,w.o.p,w.o.l,nilS,18,rfl,?_⟩;refine hs.newput (vs:=w.cs) rfl rfl fun h50 hs=>?_;exact sBn (fun _=>⟨rfl,hs.ext⟩) (fun c=>absurd c (by decide))
 | @ok W hF E=>
 have hs:=hs.step E;refine⟨0,0,nilS,nilS,0,false,0,0,nilS,0,false,0,0,nilS,0,rfl,?_⟩;refine hs.newput (vs:=wt0.cs) rfl rfl fun h50 hs=>?_;refine sBn (fun c=>absurd rfl c) (fun _=>?_);obtain⟨X,hX⟩:=fine_find hV hF;refine⟨_,_,_,_,_,_,_,_,hs.at 1 rfl (o:=0) (n:=8) rfl,?_⟩;refine (word22 g s1 L1q h50 (hg.ext hs.ext) (h1.ext hs.ext) (by omega) b1).mono ?_;rintro _ h62 ⟨E1,r1,w1,a1,rfl,hr1,hw1,hl1⟩;have hs:=hs.step E1;have R1:=pth_range hV hw1;refine⟨r1,a1,rfl,_,_,_,_,_,_,_,_,hs.at 1 rfl (o:=0) (n:=8) rfl,?_⟩;refine (project26L role w1 r1 h62 hr1 (by omega)).mono ?_;rintro _ h73 ⟨E2,q1,rfl,hq1⟩;have hs:=hs.step E2;refine⟨q1,rfl,E2.sm,?_⟩;refine (behind27 g role q1 _ h73 (hg.ext hs.ext) (hx.ext hs.ext) ⟨hV,hr0⟩ hq1).mono ?_;rintro _ h77 ⟨E3,q,rfl,hq⟩;have hs:=hs.step E3;have hin:=pth_in hV role hw1;have hprp:=beh_prp hV role ((w1.filterMap (vis1 role)).map (hvE role));generalize hS:behS g role ((w1.filterMap (vis1 role)).map (hvE role))=S at hq hin hprp;refine⟨q,0,rfl,_,_,_,_,_,_,_,_,hs.at 1 rfl (o:=0) (n:=8) rfl,?_⟩;refine (first88 g role a1 h77 (hg.ext hs.ext) (hx.ext hs.ext) hV hr0.1 hr0.2 R1.1 R1.2).mono ?_;rintro _ h90 ⟨E4,l,rfl,hl⟩;have hs:=hs.gift E4 hl (arows role _);have hq:=hq.ext E4;have ea:((a1.toNat:Nat):Int)=a1:=Int.toNat_of_nonneg R1.1;refine⟨l,firstB g role a1,0,rfl,sBn (fun c=>absurd rfl c) (fun _=>sBn (fun c=>absurd rfl c) (fun _=>?_))⟩;have hlen:∀n:Int,(firstE g role n).length<=1048576:=fun n=>by have:(firstE g role n).length<=400:=evs_len hV;omega
 have hlr:Rw h90 5 l ((firstE g role a1).map (aC role)):=hs.rows 0 rfl (by decide);have E90:=hs.ext;have kg:atC h90 ⟨h.size,0,none⟩ g.cs:=hs.at 2 rfl (o:=0) (n:=8) rfl;have hg90:=hg.ext E90;have hx90:=hx.ext E90;have hln:=hlr.ln;refine sBi (fun c2=>?_) (fun c2=>?_)
 .refine hlr.nbI (by omega) (by omega) fun b o y gy t=>?_;replace gy:(firstE g role a1)[0]?=some y:=gy;have hy0:sndAt (firstE g role a1) 0=y.send:=by unfold sndAt;rw[gy]
  refine⟨_,t.nth 1 rfl,g.n,hs.rd 2 rfl (i:=3) rfl,?_⟩;refine up_loopS (n:=g.n.toNat) (St.refl h90) (fun _=>True) trivial ?_;clear hs t;rintro-i h99 hi ⟨hs,-⟩;have hqe:=hq.ext hs.ext;refine sBi (fun c3=>?_) (fun c3=>⟨rfl,E90.trans hs.ext⟩);refine sB_intro (fun _=>Up.next (by omega) (by omega) ⟨hs,trivial⟩) (fun _=>?_);refine (hasState34 S q i h99 hqe (by omega)).mono ?_;rintro _ h99 ⟨rfl,rfl⟩;refine⟨_,rfl,sB_intro (fun _=>Up.next (by omega) (by omega) ⟨hs,trivial⟩) (fun c4=>?_)⟩;have hSi:S i=true:=by simpa using c4
  refine⟨_,_,_,_,_,_,_,_,atC_ext' hs.ext kg,?_⟩;refine (first88 g role (i:Int) h99 (hg90.ext hs.ext) (hx90.ext hs.ext) hV hr0.1 hr0.2 (by omega) (by omega)).mono ?_;rintro _ h117 ⟨E5,m,rfl,hm⟩;have hs:=hs.gift E5 hm (arows role _);refine⟨m,firstB g role (i:Int),0,rfl,sBn (fun c=>absurd rfl c) (fun _=>?_)⟩;have hE9:=hX.alls (n:=i) (k:=i) (by omega) (hprp i i hSi hSi);refine sB_intro (fun c5=>?_) (fun c5=>?_)
  .obtain⟨f1,f2,f3⟩:=hX.same (n:=i) (a:=a1.toNat) (by omega) (by omega) (hprp _ _ hin hSi) (hprp _ _ hSi hin) (by rw[ea,hy0];exact c5);rw[ea] at f1 f3;refine sB_f f2 (sB_f f1 ?_);refine (sameEvs97 role (firstE g role a1) (firstE g role (i:Int)) l m h117 (hlr.ext hs.ext) (hs.rows 0 rfl (by decide)) (hlen _)).mono ?_;rintro _ h120 ⟨rfl,E6⟩;refine⟨_,rfl,?_⟩;rw[decide_eq_true f3];refine sB_f rfl ?_;have hs:=hs.step E6;refine evLoop (R:=fun v h'=>v=.bool true/\Ext h h') m role (firstE g role (i:Int)) h120 (hs.rows 0 rfl (by decide)) (hlen _) hE9 ?_;exact Up.next (by omega) (by omega) ⟨hs.drop 1,trivial⟩
  .refine evLoop (R:=fun v h'=>v=.bool true/\Ext h h') m role (firstE g role (i:Int)) h117 (hs.rows 0 rfl (by decide)) (hlen _) hE9 ?_;exact Up.next (by omega) (by omega) ⟨hs.drop 1,trivial⟩
 .refine⟨g.n,hs.rd 2 rfl (i:=3) rfl,?_⟩;refine up_loopS (n:=g.n.toNat) (St.refl h90) (fun _=>True) trivial ?_;clear hs;rintro-i h99 hi ⟨hs,-⟩;have hqe:=hq.ext hs.ext;refine sBi (fun c3=>?_) (fun c3=>⟨rfl,E90.trans hs.ext⟩);refine sB_intro (fun _=>Up.next (by omega) (by omega) ⟨hs,trivial⟩) (fun _=>?_);refine (hasState34 S q i h99 hqe (by omega)).mono ?_;rintro _ h99 ⟨rfl,rfl⟩;refine⟨_,rfl,sB_intro (fun _=>Up.next (by omega) (by omega) ⟨hs,trivial⟩) (fun c4=>?_)⟩;have hSi:S i=true:=by simpa using c4
  refine⟨_,_,_,_,_,_,_,_,atC_ext' hs.ext kg,?_⟩;refine (first88 g role (i:Int) h99 (hg90.ext hs.ext) (hx90.ext hs.ext) hV hr0.1 hr0.2 (by omega) (by omega)).mono ?_;rintro _ h117 ⟨E5,m,rfl,hm⟩;have hs:=hs.gift E5 hm (arows role _);refine⟨m,firstB g role (i:Int),0,rfl,sBn (fun c=>absurd rfl c) (fun _=>?_)⟩;have hE9:=hX.alls (n:=i) (k:=i) (by omega) (hprp i i hSi hSi);refine evLoop (R:=fun v h'=>v=.bool true/\Ext h h') m role (firstE g role (i:Int)) h117 (hs.rows 0 rfl (by decide)) (hlen _) hE9 ?_;exact Up.next (by omega) (by omega) ⟨hs.drop 1,trivial⟩
end Go.VC
end

section
namespace Go.VC
open Go.Proofs Go.LexS Go.RowKit Go.ChangeShapes Go.WideShapes Go.Proofs.YtajglkbckhgboaaGreatDoor
theorem bulk_pos {H:Type} (d:DataW H):1<=Rows.uptoBulk d:=by
 cases d with
 | lit l=>cases l<;>simp[Rows.uptoBulk]
 | _=>simp[Rows.uptoBulk]
theorem bulk_part {H:Type}:∀ {l:List (DataW H)} {d:DataW H},d∈l->Rows.uptoBulk d<=Rows.uptoBulkAll l
 | [],_,h=>by cases h
 | x::r,d,h=>by
  rw[Rows.uptoBulkAll];rcases Yr.1 h with rfl | h
  .omega
  .have:=bulk_part h;omega
theorem bulk_len {H:Type}:∀l:List (DataW H),l.length<=Rows.uptoBulkAll l
 | []=>by simp
 | x::r=>by
  have h1:=bulk_pos x;have h2:=bulk_len r;rw[Rows.uptoBulkAll,Yyj];omega
def Rdb (P:Program) (W:World) (t:TypeId) (cs:List Value):Prop:=
 ∃(H:Type) (enc:TypeId × Value->H) (n:Nat) (x:DataW H × List MemPlace),DataW.trod enc P W 0 (fun _=>true) true n t cs=some x/\Rows.uptoBulk x.1<=1048576
theorem Rdb.rdt {P:Program} {W:World} {t:TypeId} {cs:List Value} (h:Rdb P W t cs):Rdt P W t cs:=by
 obtain⟨H,enc,n,x,h1,_⟩:=h;exact⟨H,enc,n,x,h1⟩
theorem rdb_of_trod {H:Type} {enc:TypeId × Value->H} {P:Program} {W:World} {t:TypeId} {v:Value} {d:DataW H} {p:List MemPlace} (h:DataW.Trod enc P W 0 (fun _=>true) true t v d p) (hw:Rows.uptoBulk d<=1048576):Rdb P W t v.cells.toList:=by
 obtain⟨n,h⟩:=h;exact⟨H,enc,n,_,h,hw⟩
theorem Rdb.field {P:Program} {W:World} {t ft:TypeId} {cs:List Value} {i off:Nat} (h:Rdb P W t cs) (hf:fieldAt P t i=some (ft,off)):Rdb P W ft ((cs.drop off).take (P.cellsOf ft)):=by
 unfold fieldAt at hf;split at hf
 .rename_i fs hu;obtain⟨f,h1,h2⟩:=Yya.1 hf;cases h2;obtain⟨H,enc,n,x,h,hw⟩:=h;obtain⟨xs,m,_,hx,hl,hxl,hfi⟩:=DataW.trod_struct hu h;have hlt:i<xs.length:=by rw[hxl];exact (Yyg.1 h1).1
  refine⟨H,enc,m,xs[i],by rw[hfi i f h1,Yi hlt],?_⟩;rw[hx,Rows.uptoBulk] at hw;have:=bulk_part (l:=xs.map (·.1)) (d:=xs[i].1) (Yp.2 ⟨xs[i],List.getElem_mem hlt,rfl⟩);omega
 .cases hf
theorem Rdb.rows {P:Program} {W:World} {t e:TypeId} {cs:List Value} (ht:P.underlying t=some (.slice e)) (h:Rdb P W t cs) (hpos:0<P.cellsOf e) :
  ∃(s:Sl) (rows:List (List Value)),cs=[.slice s.a s.n s.c]/\s.n<=s.c/\s.n<=1048576/\(s.a=none->s.n=0/\s.c=0)/\Rw W.heap (P.cellsOf e) s rows/\∀r∈rows,r.length=P.cellsOf e/\Rdb P W e r:=by
 obtain⟨H,enc,n,x,h,hw⟩:=h;rcases DataW.trod_slice ht h with ⟨rfl,_⟩ | ⟨a,len,cap,elems,rest,m,_,rfl,hx,_,hlc,hcm,hel,helem,_,_⟩
 .exact⟨⟨none,0,0⟩,[],rfl,Yyt _,Nat.zero_le _,fun _=>⟨rfl,rfl⟩,Rw.nil,fun r hr=>by cases hr⟩
 .rw[hx,Rows.uptoBulk] at hw;have hle:len<=1048576:=by
   have:=bulk_len (elems.map (·.1));rw[Yc] at this;omega
  have hwe:∀(i:Nat) (hi:i<elems.length),Rows.uptoBulk elems[i].1<=1048576:=fun i hi=>by
   have:=bulk_part (l:=elems.map (·.1)) (d:=elems[i].1) (Yp.2 ⟨elems[i],List.getElem_mem hi,rfl⟩);omega
  by_cases h0:len=0
  .subst h0;exact⟨⟨some a,0,cap⟩,[],rfl,hlc,hle,fun e=>(by cases e),Rw.empty rfl,fun r hr=>by cases hr⟩
  .have hrow:∀i,i<len->∃r,W.cells? 0 (a.add (i*P.cellsOf e)) (P.cellsOf e)=some r/\Rdb P W e r:=by
    intro i hi;have h1:=helem i hi;rw[Yi (by omega)] at h1;obtain⟨r,hr,hx2⟩:=Option.bind_eq_some_iff.1 h1;exact⟨r,hr,H,enc,m,_,hx2,hwe i (by omega)⟩
   let row:Nat->List Value:=fun i=>(W.cells? 0 (a.add (i*P.cellsOf e)) (P.cellsOf e)).getD []
   have hrow':∀i,i<len->W.cells? 0 (a.add (i*P.cellsOf e)) (P.cellsOf e)=some (row i)/\Rdb P W e (row i):=fun i hi=>by
    obtain⟨r,hr,hx⟩:=hrow i hi;have:row i=r:=by show (W.cells? 0 _ _).getD []=r;rw[hr];rfl
    rw[this];exact⟨hr,hx⟩
   have hget:∀i,i<len->((List.range len).map row)[i]?=some (row i):=fun i hi=>by
    rw[Yd,Yyb hi];rfl
   have hspot:a=⟨a.block,a.off,none⟩:=by
    have hc:=(cells_at (hrow' 0 (by omega)).1);have hl0:0<(row 0).length:=by rw[hc.1];exact hpos
    have:=hc.2 0 _ (Yi hl0);rw[Nat.zero_mul,show (a.add 0).add 0=a from rfl] at this;unfold World.cell? at this;split at this
    .split at this
     .cases this
     .rename_i hs;cases a with
      | mk b o s=>
       cases s with
       | none=>rfl
       | some s=>exact absurd rfl hs
    .cases this
   refine⟨⟨some a,len,cap⟩,(List.range len).map row,rfl,hlc,hle,fun e=>(by cases e),⟨by simp,fun _=>⟨a.block,a.off,by rw[<-hspot],fun i r hi j v hj=>?_⟩⟩,fun r hr=>?_⟩
   .have hil:i<len:=by have:=(Ya.1 hi).1;simpa using this
    rw[hget i hil] at hi;cases hi;have h4:=(cells_at (hrow' i hil).1).2 _ _ hj;rw[hspot] at h4;have e:((⟨a.block,a.off,none⟩:Addr).add (i*P.cellsOf e)).add j=addk ⟨a.block,a.off+i*P.cellsOf e,none⟩ j:=by
     rw[addk_at,add_n,add_n]
    rw[e] at h4;exact h4
   .obtain⟨i,hi,rfl⟩:=Yp.1 hr;have:=hrow' i (List.mem_range.1 hi);exact⟨(cells_at this.1).1,this.2⟩
theorem Rdb.list {α:Type} {P:Program} {W:World} {t e:TypeId} {k:Nat} {v:Value} {cs:α->List Value} {Q:α->Prop} (ht:P.underlying t=some (.slice e)) (hk:P.cellsOf e=k) (hpos:0<k)
  (ho:∀r,Rdb P W e r->∃x,r=cs x/\Q x) (h:Rdb P W t [v]):∃(s:Sl) (L:List α),v=.slice s.a s.n s.c/\RL W.heap k s cs L/\∀x∈L,Q x:=by
 subst hk;obtain⟨s,rows,e1,hc,hm,hna,hrw,hr⟩:=h.rows ht hpos;have key:∀rows:List (List Value),(∀r∈rows,r.length=P.cellsOf e/\Rdb P W e r)->∃L:List α,rows=L.map cs/\∀x∈L,Q x:=by
  intro rows
  induction rows with
  | nil=>intro _;exact⟨[],rfl,fun x hx=>by cases hx⟩
  | cons r rows ih=>
   intro h;obtain⟨x,hx,hq⟩:=ho r (h r (by simp)).2;obtain⟨L,hL,hQ⟩:=ih fun y hy=>h y (Yn _ hy);exact⟨x::L,by rw[hx,hL];rfl,fun y hy=>by rcases Yr.1 hy with rfl | hy;exact hq;exact hQ y hy⟩
 obtain⟨L,rfl,hQ⟩:=key rows hr;have hn:=hrw.ln;exact⟨s,L,by simpa using e1,⟨hrw,hc,hna,by omega⟩,hQ⟩
theorem v3:Pz.underlying 3=some (.int .i64):=by kernel_rfl
theorem v4b:Pz.underlying 4=some .bool:=by kernel_rfl
theorem v9:Pz.underlying 9=some .string:=by kernel_rfl
theorem cz3:Pz.cellsOf 3=1:=by kernel_rfl
theorem cz4:Pz.cellsOf 4=1:=by kernel_rfl
theorem cz9:Pz.cellsOf 9=1:=by kernel_rfl
theorem cz22:Pz.cellsOf 22=1:=by kernel_rfl
theorem cz23:Pz.cellsOf 23=1:=by kernel_rfl
theorem cz24:Pz.cellsOf 24=1:=by kernel_rfl
theorem cz25:Pz.cellsOf 25=1:=by kernel_rfl
theorem cz27:Pz.cellsOf 27=8:=by kernel_rfl
theorem cz53:Pz.cellsOf 65=3:=by kernel_rfl
theorem cz55:Pz.cellsOf 67=6:=by kernel_rfl
theorem cz63:Pz.cellsOf 149=3:=by kernel_rfl
theorem cz130:Pz.cellsOf 166=1:=by kernel_rfl
theorem cz131:Pz.cellsOf 167=1:=by kernel_rfl
theorem cz132:Pz.cellsOf 49=1:=by kernel_rfl
theorem cz134:Pz.cellsOf 169=2:=by kernel_rfl
theorem cz136:Pz.cellsOf 171=5:=by kernel_rfl
theorem cz182:Pz.cellsOf 258=3:=by kernel_rfl
theorem cz184:Pz.cellsOf 260=4:=by kernel_rfl
theorem cz187:Pz.cellsOf 263=3:=by kernel_rfl
theorem cz189:Pz.cellsOf 52=2:=by kernel_rfl
theorem vs22:Pz.underlying 22=some (.slice 9):=by kernel_rfl
theorem vs23:Pz.underlying 23=some (.slice 171):=by kernel_rfl
theorem vs24:Pz.underlying 24=some (.slice 67):=by kernel_rfl
theorem vs25:Pz.underlying 25=some (.slice 149):=by kernel_rfl
theorem vs130:Pz.underlying 166=some (.slice 260):=by kernel_rfl
theorem vs131:Pz.underlying 167=some (.slice 263):=by kernel_rfl
theorem vs132:Pz.underlying 49=some (.slice 52):=by kernel_rfl
theorem va189:Pz.underlying 52=some (.array 2 3):=by kernel_rfl
theorem Rdb.str {P:Program} {W:World} {t:TypeId} {cs:List Value} (ht:P.underlying t=some .string) (h:Rdb P W t cs):∃s:ByteArray,cs=[.string s]/\s.size<=1048576:=by
 obtain⟨H,enc,n,x,h,hw⟩:=h;obtain⟨m,h1,hx,_⟩:=DataW.trod_string ht h;refine⟨m,h1,?_⟩;rw[hx,Rows.uptoBulk] at hw;have e:m.data.toList.length=m.size:=rfl;omega
theorem open_name {W:World} {r:List Value} (h:Rdb Pz W 9 r):∃x:Nm,r=nmC x/\True:=by
 obtain⟨s,e,_⟩:=h.rdt.str v9;exact⟨s.data.toList,by rw[e];rfl,trivial⟩
theorem open_field {W:World} {r:List Value} (h:Rdb Pz W 260 r):∃x:Fld,r=x.cs/\True:=by
 have hl:=h.rdt.flen (i:=0) (ft:=9) (off:=0) (by kernel_rfl);rw[cz184] at hl
 match r,hl with
 | [x0,x1,x2,x3],_=>
  have f0:=h.rdt.field (i:=0) (ft:=9) (off:=0) (by kernel_rfl);have f1:=h.rdt.field (i:=1) (ft:=258) (off:=1) (by kernel_rfl);rw[cz9] at f0;rw[cz182] at f1;have g0:=f1.field (i:=0) (ft:=3) (off:=0) (by kernel_rfl);have g1:=f1.field (i:=1) (ft:=3) (off:=1) (by kernel_rfl);have g2:=f1.field (i:=2) (ft:=3) (off:=2) (by kernel_rfl);rw[cz3] at g0 g1 g2;obtain⟨s,e0,_⟩:=f0.str v9;obtain⟨k1,e1,_⟩:=g0.int v3;obtain⟨k2,e2,_⟩:=g1.int v3;obtain⟨k3,e3,_⟩:=g2.int v3;simp only[List.drop_zero,List.take_succ_cons,Yyk,List.drop_succ_cons,List.cons.injEq,and_true] at e0 e1 e2 e3;subst e0 e1 e2 e3;exact⟨⟨s.data.toList,k1,k2,k3⟩,rfl,trivial⟩
theorem open_three {W:World} {t:TypeId} {r:List Value} (hc:Pz.cellsOf t=3) (h0:fieldAt Pz t 0=some (3,0)) (h1:fieldAt Pz t 1=some (3,1)) (h2:fieldAt Pz t 2=some (3,2)) (h:Rdt Pz W t r) :
  ∃a b c:Int,r=[.int .i64 a,.int .i64 b,.int .i64 c]:=by
 have hl:=h.flen h0;rw[hc] at hl
 match r,hl with
 | [x0,x1,x2],_=>
  have f0:=h.field h0;have f1:=h.field h1;have f2:=h.field h2;rw[cz3] at f0 f1 f2;obtain⟨k0,e0,_⟩:=f0.int v3;obtain⟨k1,e1,_⟩:=f1.int v3;obtain⟨k2,e2,_⟩:=f2.int v3;simp only[List.drop_zero,List.take_succ_cons,Yyk,List.drop_succ_cons,List.cons.injEq,and_true] at e0 e1 e2;subst e0 e1 e2;exact⟨k0,k1,k2,rfl⟩
theorem open_diff {W:World} {r:List Value} (h:Rdb Pz W 263 r):∃x:Df,r=x.cs/\True:=by
 obtain⟨a,b,c,e⟩:=open_three cz187 (by kernel_rfl) (by kernel_rfl) (by kernel_rfl) h.rdt;exact⟨⟨a,b,c⟩,e,trivial⟩
theorem open_timeout {W:World} {r:List Value} (h:Rdb Pz W 149 r):∃x:To,r=x.cs/\True:=by
 obtain⟨a,b,c,e⟩:=open_three cz63 (by kernel_rfl) (by kernel_rfl) (by kernel_rfl) h.rdt;exact⟨⟨a,b,c⟩,e,trivial⟩
theorem open_pair {W:World} {r:List Value} (h:Rdb Pz W 52 r):∃x:Eqs,r=x.cs/\True:=by
 obtain⟨hl,ha⟩:=h.rdt.array va189;rw[cz189] at hl;rw[cz3] at ha
 match r,hl with
 | [x0,x1],_=>
  obtain⟨k0,e0,_⟩:=(ha 0 (by omega)).int v3;obtain⟨k1,e1,_⟩:=(ha 1 (by omega)).int v3;simp only[Nat.zero_mul,Nat.one_mul,List.drop_zero,List.take_succ_cons,Yyk,List.drop_succ_cons,List.cons.injEq,and_true] at e0 e1;subst e0 e1;exact⟨⟨k0,k1⟩,rfl,trivial⟩
theorem open_edge {W:World} {r:List Value} (h:Rdb Pz W 67 r):∃x:Ed,r=x.cs/\True:=by
 have hl:=h.rdt.flen (i:=0) (ft:=3) (off:=0) (by kernel_rfl);rw[cz55] at hl
 match r,hl with
 | [x0,x1,x2,x3,x4,x5],_=>
  have f0:=h.rdt.field (i:=0) (ft:=3) (off:=0) (by kernel_rfl);have f1:=h.rdt.field (i:=1) (ft:=65) (off:=1) (by kernel_rfl);have f2:=h.rdt.field (i:=2) (ft:=3) (off:=4) (by kernel_rfl);have f3:=h.rdt.field (i:=3) (ft:=4) (off:=5) (by kernel_rfl);rw[cz3] at f0 f2;rw[cz53] at f1;rw[cz4] at f3;obtain⟨a,b,c,e1⟩:=open_three cz53 (by kernel_rfl) (by kernel_rfl) (by kernel_rfl) f1;obtain⟨k0,e0,_⟩:=f0.int v3;obtain⟨k2,e2,_⟩:=f2.int v3;obtain⟨k3,e3⟩:=f3.bool v4b;simp only[List.drop_zero,List.take_succ_cons,Yyk,List.drop_succ_cons,List.cons.injEq,and_true] at e0 e1 e2 e3;obtain⟨e1a,e1b,e1c⟩:=e1;subst e0 e1a e1b e1c e2 e3;exact⟨⟨k0,a,b,c,k2,k3⟩,rfl,trivial⟩
theorem open_decl {W:World} {r:List Value} (h:Rdb Pz W 171 r):∃x:Dc,r=x.cs/\DI W.heap x/\x.nm.length<=1048576:=by
 have hl:=h.rdt.flen (i:=0) (ft:=9) (off:=0) (by kernel_rfl);rw[cz136] at hl
 match r,hl with
 | [x0,x1,x2,x3,x4],_=>
  have f0:=h.field (i:=0) (ft:=9) (off:=0) (by kernel_rfl);have f1:=h.field (i:=1) (ft:=166) (off:=1) (by kernel_rfl);have f2:=h.rdt.field (i:=2) (ft:=3) (off:=2) (by kernel_rfl);have f3:=h.field (i:=3) (ft:=169) (off:=3) (by kernel_rfl);rw[cz9] at f0;rw[cz130] at f1;rw[cz3] at f2;rw[cz134] at f3;have g0:=f3.field (i:=0) (ft:=167) (off:=0) (by kernel_rfl);have g1:=f3.field (i:=1) (ft:=49) (off:=1) (by kernel_rfl);rw[cz131] at g0;rw[cz132] at g1;obtain⟨s,e0,hs0⟩:=f0.str v9;obtain⟨sf,fs,e1,hf,_⟩:=Rdb.list vs130 cz184 (by omega) (fun r hr=>open_field hr) f1;obtain⟨k,e2,_⟩:=f2.int v3;obtain⟨sd,ds,e3,hd,_⟩:=Rdb.list vs131 cz187 (by omega) (fun r hr=>open_diff hr) g0;obtain⟨se,es,e4,he,_⟩:=Rdb.list vs132 cz189 (by omega) (fun r hr=>open_pair hr) g1;simp only[List.drop_zero,List.take_succ_cons,Yyk,List.drop_succ_cons,List.cons.injEq,and_true] at e0 e2;subst e0 e1 e2 e3 e4;exact⟨⟨s.data.toList,sf,k,sd,se,fs,ds,es⟩,rfl,⟨hf,hd,he⟩,hs0⟩
theorem open_global {W:World} {cs:List Value} (h:Rdb Pz W 27 cs):∃g:Gl,cs=g.cs/\GI W.heap g/\∀d∈g.ds,d.nm.length<=1048576:=by
 have hl:=h.rdt.flen (i:=0) (ft:=9) (off:=0) (by kernel_rfl);rw[cz27] at hl
 match cs,hl with
 | [x0,x1,x2,x3,x4,x5,x6,x7],_=>
  have f0:=h.rdt.field (i:=0) (ft:=9) (off:=0) (by kernel_rfl);have f1:=h.field (i:=1) (ft:=22) (off:=1) (by kernel_rfl);have f2:=h.field (i:=2) (ft:=23) (off:=2) (by kernel_rfl);have f3:=h.rdt.field (i:=3) (ft:=3) (off:=3) (by kernel_rfl);have f4:=h.rdt.field (i:=4) (ft:=3) (off:=4) (by kernel_rfl);have f5:=h.rdt.field (i:=5) (ft:=3) (off:=5) (by kernel_rfl);have f6:=h.field (i:=6) (ft:=24) (off:=6) (by kernel_rfl);have f7:=h.field (i:=7) (ft:=25) (off:=7) (by kernel_rfl);rw[cz9] at f0;rw[cz22] at f1;rw[cz23] at f2;rw[cz3] at f3 f4 f5;rw[cz24] at f6;rw[cz25] at f7;obtain⟨s,e0,_⟩:=f0.str v9;obtain⟨sr,rs,e1,hr,_⟩:=Rdb.list vs22 cz9 (by omega) (fun r hr=>open_name hr) f1;obtain⟨sd,ds,e2,hd,hdi⟩:=Rdb.list vs23 cz136 (by omega) (fun r hr=>open_decl hr) f2;obtain⟨k3,e3,_⟩:=f3.int v3;obtain⟨k4,e4,_⟩:=f4.int v3;obtain⟨k5,e5,_⟩:=f5.int v3;obtain⟨se,es,e6,he,_⟩:=Rdb.list vs24 cz55 (by omega) (fun r hr=>open_edge hr) f6;obtain⟨st,ts,e7,ht,_⟩:=Rdb.list vs25 cz63 (by omega) (fun r hr=>open_timeout hr) f7;simp only[List.drop_zero,List.take_succ_cons,Yyk,List.drop_succ_cons,List.cons.injEq,and_true] at e0 e3 e4 e5;subst e0 e1 e2 e3 e4 e5 e6 e7;exact⟨⟨s.data.toList,sr,sd,k3,k4,k5,se,st,rs,ds,es,ts⟩,rfl,⟨hr,⟨hd,fun d hm=>(hdi d hm).1⟩,he,ht⟩,fun d hm=>(hdi d hm).2⟩
theorem cz5:Pz.cellsOf 5=1:=by kernel_rfl
theorem vs47:Pz.underlying 46=some (.slice 5):=by kernel_rfl
theorem v5u:Pz.underlying 5=some (.int .u8):=by kernel_rfl
theorem open_u8 {W:World} {r:List Value} (h:Rdb Pz W 5 r):∃x:Nat,r=u8C x/\x<=255:=by
 obtain⟨n,e,hw⟩:=h.rdt.int v5u;have h2:0<=n/\n<=255:=by
  have h3:(decide (IntKind.u8.min<=n)&&decide (n<=IntKind.u8.max))=true:=hw;rw[Yt] at h3;exact⟨Yyn h3.1,Yyn h3.2⟩
 exact⟨n.toNat,by rw[e];unfold u8C;rw[show ((n.toNat:Nat):Int)=n by omega],by omega⟩
theorem open_u8s {W:World} {v:Value} (h:Rdb Pz W 46 [v]):∃(s:Sl) (L:List Nat),v=.slice s.a s.n s.c/\(RL W.heap 1 s u8C L/\∀n∈L,n<=255):=by
 obtain⟨s,L,e,hr,hb⟩:=Rdb.list vs47 cz5 (by omega) (fun r hr=>open_u8 hr) h;exact⟨s,L,e,hr,hb⟩
end Go.VC
end
