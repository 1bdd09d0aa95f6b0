/- SxM19 SxM20 SyH SyK SxM21 SyW SyX SyY SxM22 SyA SyB SyC SyM SyO SyP SyQ SyR SyS SyT SyU SyV. -/
import Derived.Test.YtajglkbckhgboaaGreatDoorDM09
set_option linter.all false
set_option maxRecDepth 100000
set_option maxHeartbeats 8000000

section
namespace Go.VC
open Go.Proofs Go.LexS
/-! ### without memory -/
def uF(g:Gl)(role:Int)(s:Nat):Prop:=s<g.n.toNat/\(a8 (ai g role (s:Nat)) 0&&(aV g role (s:Nat) || !a8 (ai g role (s:Nat)) ((ai g role (s:Nat)).length-1)))=true
noncomputable def FF(g:Gl)(role:Int)(s t:Nat):Prop:=KO ((List.range g.n.toNat).map (cG g role g.ts)) ((List.range g.n.toNat).map (eG g.es)) ((List.range g.n.toNat).map (eE g.es role)) s t
noncomputable def cP(g:Gl)(role kind:Int)(p:Pr):Option Int:=by
 classical exact if kind=1 then (if p.1<g.n.toNat/\p.2<g.n.toNat then (if ((ai g role (p.1:Nat)).find? (fQ (ai g role (p.2:Nat)))).isSome then some 0 else none) else none)
 else if kind=3 then (if FF g role p.1 p.2 then some 0 else none)
 else (if p.1<g.n.toNat/\p.2<g.n.toNat then (cC (ai g role (p.2:Nat)) (dq g role p.1)).map (·.n) else none)
theorem jX.fl{g:Gl}{role:Int}{X:An}(h:jX g role X):X.fi.length=g.n.toNat:=by have:=congrArg List.length h.fi;simpa using this
theorem jX.al{g:Gl}{role:Int}{X:An}(h:jX g role X):X.ar.length=g.n.toNat:=by have:=congrArg List.length h.ar;simpa using this
theorem jX.Gp{g:Gl}{role:Int}{X:An}(h:jX g role X){s:Nat}(hs:s<g.n.toNat):∃f,X.fi[s]?=some f/\f.l=ai g role (s:Nat)/\f.b=aV g role (s:Nat):=h.at (by omega)
theorem jX.ara{g:Gl}{role:Int}{X:An}(h:jX g role X){s:Nat}(hs:s<g.n.toNat):∃q,X.ar[s]?=some q/\q.2=dq g role s:=by
 obtain⟨q,hq⟩:=get_some (l:=X.ar) (i:=s) (by rw[h.al];exact hs);have h1:=aU h.ar hs;rw[Yd,hq] at h1;exact⟨q,hq,eP h1⟩
theorem jX.a7{g:Gl}{role:Int}{X:An}(h:jX g role X)(kind:Int)(p:Pr):dR X kind p=cP g role kind p:=by
 unfold dR cP;by_cases k1:kind=1
 .rw[if_pos k1,if_pos k1];by_cases hr:p.1<g.n.toNat/\p.2<g.n.toNat
  .obtain⟨f,hf,fl,_⟩:=h.Gp hr.1;obtain⟨f',sj,Gj,_⟩:=h.Gp hr.2;rw[if_pos hr,hf,sj];simp only[fl,Gj]
  .rw[if_neg hr];by_cases h1:p.1<g.n.toNat
   .rw[Yl (l:=X.fi) (i:=p.2) (by rw[h.fl];omega)];cases X.fi[p.1]?<;>rfl
   .rw[Yl (l:=X.fi) (i:=p.1) (by rw[h.fl];omega)]
 .rw[if_neg k1,if_neg k1];by_cases k3:kind=3
  .rw[if_pos k3,if_pos k3];have:KO X.li X.ag X.ow p.1 p.2 ↔ FF g role p.1 p.2:=by unfold FF;rw[h.li,h.ag,h.ow]
   by_cases hc:KO X.li X.ag X.ow p.1 p.2
   .rw[if_pos hc,if_pos (this.1 hc)]
   .rw[if_neg hc,if_neg (fun h9=>hc (this.2 h9))]
  .rw[if_neg k3,if_neg k3];by_cases hr:p.1<g.n.toNat/\p.2<g.n.toNat
   .obtain⟨f',sj,Gj,_⟩:=h.Gp hr.2;obtain⟨q,hq,ij⟩:=h.ara hr.1;rw[if_pos hr,sj,hq];simp only[Gj,ij]
   .rw[if_neg hr];by_cases h1:p.2<g.n.toNat
    .rw[Yl (l:=X.ar) (i:=p.1) (by rw[h.al];omega)];cases X.fi[p.2]?<;>rfl
    .rw[Yl (l:=X.fi) (i:=p.2) (by rw[h.fl];omega)]
theorem jX.mx{g:Gl}{role:Int}{X:An}(h:jX g role X)(s:Nat):p6 X s ↔ uF g role s:=by
 unfold uF;constructor
 .rintro⟨f,hf,hm⟩;have hs:s<g.n.toNat:=by rw[<-h.fl];exact (Ya.1 hf).1
  obtain⟨f',sj,fl,fb⟩:=h.Gp hs;rw[hf] at sj;cases sj;unfold Ga at hm;rw[fl,fb] at hm;exact⟨hs,hm⟩
 .rintro⟨hs,hm⟩;obtain⟨f,hf,fl,fb⟩:=h.Gp hs;refine⟨f,hf,?_⟩;unfold Ga;rw[fl,fb];exact hm
noncomputable def Lc(g:Gl)(role kind:Int)(F:List Ac)(p:Pr):List Ac × DE × DE:=
 if kind=1 then (F,ba role (((ai g role (p.1:Nat)).find? (fQ (ai g role (p.2:Nat)))).getD ⟨false,0,0⟩),dy)
 else if kind=4 then (F++[(eA g.es ((cC (ai g role (p.2:Nat)) (dq g role p.1)).getD cV).e.toNat).act]++iu g ((cC (ai g role (p.2:Nat)) (dq g role p.1)).getD cV).e.toNat ((cC (ai g role (p.2:Nat)) (dq g role p.1)).getD cV).m,ba role ((cC (ai g role (p.2:Nat)) (dq g role p.1)).getD cV).m.ev,ba role ⟨false,(eA g.es ((cC (ai g role (p.2:Nat)) (dq g role p.1)).getD cV).e.toNat).a,(eA g.es ((cC (ai g role (p.2:Nat)) (dq g role p.1)).getD cV).e.toNat).l⟩)
 else (F,dy,dy)
theorem jX.ex{g:Gl}{role:Int}{X:An}(h:jX g role X)(kind:Int)(F:List Ac){p:Pr}(h1:p.1<g.n.toNat)(h2:p.2<g.n.toNat):vQ g role kind X F p=Lc g role kind F p:=by
 obtain⟨f,hf,fl,_⟩:=h.Gp h1;obtain⟨f',sj,Gj,_⟩:=h.Gp h2;obtain⟨q,hq,ij⟩:=h.ara h1;unfold vQ Lc;rw[hf,sj,hq];simp only[fl,Gj,ij]
noncomputable def kc(g:Gl)(role kind:Int)(p:Pr):Option Nat:=(cP g role kind p).map Int.toNat
theorem jX.eX{g:Gl}{role:Int}{X:An}(h:jX g role X)(kind:Int):Go.VC.eX X kind=kc g role kind:=by
 funext p
 unfold Go.VC.eX kc;rw[h.a7]
theorem pJ.prr{g:Gl}{role:Int}{a7:Pr->Option Int}{D:Pr->Int}{ms:List bj}{p:Pr}(h:pJ (dc g role) a7 D (jk g) ms p):eR g role p:=by
 induction h with
 | nil=>exact .start
 | snoc _ _ _ hm ih=>exact .step ih (Yb hm)
theorem fh{α:Type}{p q:α->Bool}:∀ {l:List α},(∀x∈l,p x=q x)->l.findIdx? p=l.findIdx? q
 | [],_=>rfl
 | a::l,h=>by
  rw[List.findIdx?_cons,List.findIdx?_cons,h a Yx,fh (l:=l) fun x hx=>h x (Yn _ hx)]
theorem pJ.gD{g:Gl}{role:Int}{a7:Pr->Option Int}{D D':Pr->Int}(hD:∀q,eR g role q->D q=D' q){ms:List bj}{p:Pr}(h:pJ (dc g role) a7 D (jk g) ms p):pJ (dc g role) a7 D' (jk g) ms p:=by
 induction h with
 | nil=>exact .nil
 | @snoc ms p m k hg bI ja hm ih=>
  have hp:=hg.prr;refine .snoc ih (by rw[<-hD p hp];exact bI) ?_ hm;rw[<-ja];refine (fh fun x hx=>?_).symm;unfold Ep;rw[hD p hp,hD _ (.step hp hx)]
theorem pJ.ZE{mv:Pr->List bj}{a7:Pr->Option Int}{D:Pr->Int}{p0:Pr}{w4:List bj}{p':Pr}(h':pJ mv a7 D p0 w4 p'):∀ {ms:List bj} {p:Pr},pJ mv a7 D p0 ms p->ms.length<=w4.length->(ms=w4/\p=p')\/(ms.length<w4.length/\a7 p≠some (D p)):=by
 induction h' with
 | nil=>
  intro ms p h hl;cases h with
  | nil=>exact .inl ⟨rfl,rfl⟩
  | snoc=>rw[Yh,Yv] at hl;simp at hl
 | @snoc ms1 p1 m k _ bI ja hm ih=>
  intro ms p h hl;rw[Yh,Yv] at hl;by_cases e:ms.length<=ms1.length
  .rcases ih h e with ⟨rfl,rfl⟩ | ⟨h1,h2⟩
   .exact .inr ⟨by rw[Yh,Yv];omega,bI⟩
   .exact .inr ⟨by rw[Yh,Yv];omega,h2⟩
  .cases h with
   | nil=>simp at e
   | @snoc ms2 p2 m2 k2 hg2 Ra hix2 ik=>
    rw[Yh,Yv] at hl e;rcases ih hg2 (by omega) with ⟨rfl,rfl⟩ | ⟨h1,_⟩
    .rw[ja] at hix2;cases hix2;rw[hm] at ik;cases ik;exact .inl ⟨rfl,rfl⟩
    .omega
theorem pJ.uniq{mv:Pr->List bj}{a7:Pr->Option Int}{D:Pr->Int}{p0:Pr}{ms w4:List bj}{p p':Pr}(h:pJ mv a7 D p0 ms p)(hc:a7 p=some (D p))(h':pJ mv a7 D p0 w4 p')(yV:a7 p'=some (D p')):ms=w4/\p=p':=by
 rcases Nat.le_total ms.length w4.length with hl | hl
 .rcases h'.ZE h hl with h9 | ⟨_,h9⟩
  .exact h9
  .exact absurd hc h9
 .rcases h.ZE h' hl with ⟨h9,h8⟩ | ⟨_,h9⟩
  .exact⟨h9.symm,h8.symm⟩
  .exact absurd yV h9
theorem pJ.len{mv:Pr->List bj}{a7:Pr->Option Int}{D:Pr->Int}{p0:Pr}{ms:List bj}{p:Pr}(h:pJ mv a7 D p0 ms p):D p0=D p+((ms.map cq).sum:Nat):=by
 induction h with
 | nil=>simp
 | @snoc ms p m k _ _ ja hm ih=>
  obtain⟨h1,h2,_⟩:=List.findIdx?_eq_some_iff_getElem.1 ja;rw[(Ya.1 hm).2] at h2;unfold Ep at h2;have h3:=cd h2;rw[Ym,List.sum_append];simp only[iM,List.map_nil,List.sum_cons,List.sum_nil];omega
inductive oY (g:Gl) (role kind:Int):WS->Int->Prop
 | kR (hn:∀n,¬oV (dc g role) (kc g role kind) (jk g) n):oY g role kind yM bh
 | hit {n:Nat} {ms:List bj} {p:Pr} (hl:oV (dc g role) (kc g role kind) (jk g) n) (hn:n<=8388608) (hG:pJ (dc g role) (cP g role kind) (dL (dc g role) (kc g role kind)) (jk g) ms p) (hc:cP g role kind p=some (dL (dc g role) (kc g role kind) p)) :
   oY g role kind ⟨kind,role,(Lc g role kind (facts g ms) p).1,gh g ms,(Lc g role kind (facts g ms) p).2.1,(Lc g role kind (facts g ms) p).2.2⟩ (n:Int)
theorem rU.q{g:Gl}(hV:ah g){role kind:Int}{X:An}(hX:jX g role X){W:WS}{n:Int}(h:rU g role kind X W n):oY g role kind W n:=by
 have e1:=hX.eX kind;have e2:dR X kind=cP g role kind:=funext fun p=>hX.a7 kind p;cases h with
 | kR hn=>rw[e1] at hn;exact .kR hn
 | @hit n D ms p hl hn hD hG hc=>
  rw[e1] at hl hD;rw[e2] at hG hc;have hp:=hG.prr;have bt:=hp.lt hV;rw[hX.ex kind _ (by omega) (by omega)];exact .hit hl hn (hG.gD hD) (by rw[hc,hD p hp])
theorem oY.uniq{g:Gl}{role kind:Int}{W W':WS}{n n':Int}(h:oY g role kind W n)(h':oY g role kind W' n'):W=W'/\n=n':=by
 cases h with
 | kR hn=>
  cases h' with
  | kR=>exact⟨rfl,rfl⟩
  | hit hl=>exact absurd hl (hn _)
 | hit hl hn hG hc=>
  cases h' with
  | kR hn=>exact absurd hl (hn _)
  | hit oG EX hG' yV=>
   obtain⟨rfl,rfl⟩:=hG.uniq hc hG' yV;exact⟨rfl,by rw[hl.uniq oG]⟩
/-! ### mixed -/
noncomputable def dS(es:List Ed)(MX:Nat->Prop)(s:Nat):Int:=by
 classical exact if h:∃n,iZ es MX s n then (Classical.choose h:Nat) else dD
theorem Ps{es:List Ed}{MX:Nat->Prop}{s n:Nat}(h:iZ es MX s n):dS es MX s=n:=by
 unfold dS;rw[dif_pos ⟨n,h⟩];have:=iZ.uniq (Classical.choose_spec (⟨n,h⟩:∃n,iZ es MX s n)) h;omega
theorem ZG{es:List Ed}{MX:Nat->Prop}{s:Nat}(h:∀n,¬iZ es MX s n):dS es MX s=dD:=by
 unfold dS;rw[dif_neg (fun ⟨n,h9⟩=>h n h9)]
def okQ(D:Nat->Int)(es:List Ed)(s k:Nat):Bool:=decide (D (eA es k).t.toNat=D s-1)
inductive GQ (es:List Ed) (D:Nat->Int) (s0:Nat):List Nat->Nat->Prop
 | nil:GQ es D s0 [] s0
 | snoc {ks:List Nat} {s j i:Nat}:GQ es D s0 ks s->0<D s->(av es (s:Nat)).findIdx? (okQ D es s)=some j->(av es (s:Nat))[j]?=some i->GQ es D s0 (ks++[i]) (eA es i).t.toNat
theorem GQ.ZE{es:List Ed}{D:Nat->Int}{s0:Nat}{w4:List Nat}{p':Nat}(h':GQ es D s0 w4 p'):∀ {ms:List Nat} {p:Nat},GQ es D s0 ms p->ms.length<=w4.length->(ms=w4/\p=p')\/(ms.length<w4.length/\0<D p):=by
 induction h' with
 | nil=>
  intro ms p h hl;cases h with
  | nil=>exact .inl ⟨rfl,rfl⟩
  | snoc=>rw[Yh,Yv] at hl;simp at hl
 | @snoc ms1 p1 j k _ bI ja hm ih=>
  intro ms p h hl;rw[Yh,Yv] at hl;by_cases e:ms.length<=ms1.length
  .rcases ih h e with ⟨rfl,rfl⟩ | ⟨h1,h2⟩
   .exact .inr ⟨by rw[Yh,Yv];omega,bI⟩
   .exact .inr ⟨by rw[Yh,Yv];omega,h2⟩
  .cases h with
   | nil=>simp at e
   | @snoc ms2 p2 j2 k2 hg2 Ra hix2 ik=>
    rw[Yh,Yv] at hl e;rcases ih hg2 (by omega) with ⟨rfl,rfl⟩ | ⟨h1,_⟩
    .rw[ja] at hix2;cases hix2;rw[hm] at ik;cases ik;exact .inl ⟨rfl,rfl⟩
    .omega
theorem GQ.uniq{es:List Ed}{D:Nat->Int}{s0:Nat}{ms w4:List Nat}{p p':Nat}(h:GQ es D s0 ms p)(hc:D p=0)(h':GQ es D s0 w4 p')(yV:D p'=0):ms=w4/\p=p':=by
 rcases Nat.le_total ms.length w4.length with hl | hl
 .rcases h'.ZE h hl with h9 | ⟨_,h9⟩
  .exact h9
  .omega
 .rcases h.ZE h' hl with ⟨h9,h8⟩ | ⟨_,h9⟩
  .exact⟨h9.symm,h8.symm⟩
  .omega
theorem GQ.len{es:List Ed}{D:Nat->Int}{s0:Nat}{ms:List Nat}{p:Nat}(h:GQ es D s0 ms p):D s0=D p+(ms.length:Int):=by
 induction h with
 | nil=>simp
 | @snoc ms p j k _ _ ja hm ih=>
  obtain⟨h1,h2,_⟩:=List.findIdx?_eq_some_iff_getElem.1 ja;rw[(Ya.1 hm).2] at h2;unfold okQ at h2;have h3:=cd h2;rw[Yh,Yv];omega
theorem F5.val{g:Gl}{MX:Nat->Prop}{LF:List Int}(h:F5 g MX LF){s:Nat}(hs:s<g.n.toNat):LF[s]?=some (dS g.es MX s):=by
 rcases h s hs with ⟨h1,h2⟩ | ⟨k,h1,h2,_⟩
 .rw[h1,ZG fun n hn=>h2 n hn.1]
 .rw[h1,Ps h2]
theorem GS.q{g:Gl}(hV:ah g){MX:Nat->Prop}{LF:List Int}(hF:F5 g MX LF){ks:List Nat}{s:Nat}(h:GS g.es LF g.s.toNat ks s):s<g.n.toNat/\GQ g.es (dS g.es MX) g.s.toNat ks s:=by
 have hN:=hV.num.n
 induction h with
 | nil=>exact⟨by omega,.nil⟩
 | @snoc ks s x j i _ hx h0 ja hi ih=>
  obtain⟨y,hy,QL⟩:=ay.1 (Yb hi);have hye:=hV.num.e y (Yb hy);unfold fp at hye;have XH:=hF.val ih.1;rw[hx] at XH;have e1:=eP XH;refine⟨by rw[aI hy];omega,.snoc ih.2 (by omega) ?_ hi⟩;rw[<-ja];refine (fh fun k hk=>?_).symm;obtain⟨z,hz,TY⟩:=ay.1 hk;have hze:=hV.num.e z (Yb hz);unfold fp at hze;unfold HA okQ;rw[aI hz,Yo,hF.val (s:=z.t.toNat) (by omega),Option.getD_some,e1]
inductive y5 (g:Gl) (role:Int):WS->Int->Prop
 | kR (hn:∀n,¬rR g.es (uF g role) g.s.toNat n):y5 g role yM bh
 | hit {n:Nat} {ks:List Nat} {s:Nat} {e0:Ev} (hl:iZ g.es (uF g role) g.s.toNat n) (hn:n<=1000) (hG:GQ g.es (dS g.es (uF g role)) g.s.toNat ks s) (h0:dS g.es (uF g role) s=0) (hm:uF g role s) (pF:(ai g role (s:Nat))[0]?=some e0) :
   y5 g role ⟨2,role,mz g.es ks,[],ba role e0,OA role (ai g role (s:Nat))⟩ ((2*n:Nat):Int)
theorem Lg.q{g:Gl}(hV:ah g){role:Int}{X:An}(hX:jX g role X){W:WS}{n:Int}(h:Lg g role X W n):y5 g role W n:=by
 have e1:p6 X=uF g role:=funext fun s=>propext (hX.mx s);cases h with
 | kR hn=>rw[e1] at hn;exact .kR hn
 | @hit n LF ks s f e0 hl hn hF hG h0 hf hm pF=>
  rw[e1] at hl hF;obtain⟨ki,hq⟩:=hG.q hV hF;obtain⟨f',sj,fl,fb⟩:=hX.Gp ki;rw[hf] at sj;cases sj;rw[fl] at pF ⊢;have hv:=hF.val ki;rw[h0] at hv;exact .hit hl hn hq (eP hv).symm ((hX.mx s).1 ⟨f,hf,hm⟩) pF
theorem y5.uniq{g:Gl}{role:Int}{W W':WS}{n n':Int}(h:y5 g role W n)(h':y5 g role W' n'):W=W'/\n=n':=by
 cases h with
 | kR hn=>
  cases h' with
  | kR=>exact⟨rfl,rfl⟩
  | hit hl=>exact absurd hl.1 (hn _)
 | hit hl hn hG h0 hm pF=>
  cases h' with
  | kR hn=>exact absurd hl.1 (hn _)
  | hit oG EX hG' IU oC hf0'=>
   obtain⟨rfl,rfl⟩:=hG.uniq h0 hG' IU;rw[pF] at hf0';cases hf0';exact⟨rfl,by rw[hl.uniq oG]⟩
/-! ### find and Check -/
def qM(g:Gl)(role:Int)(i:Nat)(W:WS)(n:Int):Prop:=
 match i with
 | 0=>oY g role 1 W n
 | 1=>y5 g role W n
 | 2=>oY g role 3 W n
 | _=>oY g role 4 W n
theorem tf.q{g:Gl}(hV:ah g){role:Int}{X:An}(hX:jX g role X){i:Nat}{W:WS}{n:Int}(h:tf g role X i W n):qM g role i W n:=by
 match i with
 | 0=>exact rU.q hV hX h
 | 1=>exact Lg.q hV hX h
 | 2=>exact rU.q hV hX h
 | i+3=>exact rU.q hV hX h
theorem qM.uniq{g:Gl}{role:Int}{i:Nat}{W W':WS}{n n':Int}(h:qM g role i W n)(h':qM g role i W' n'):W=W'/\n=n':=by
 match i with
 | 0=>exact oY.uniq h h'
 | 1=>exact y5.uniq h h'
 | 2=>exact oY.uniq h h'
 | i+3=>exact oY.uniq h h'
inductive cQ (g:Gl) (role:Int):Nat->WS->Int->Prop
 | zero:cQ g role 0 yM bh
 | take {i:Nat} {W W':WS} {n n':Int}:cQ g role i W n->qM g role i W' n'->n'<n->cQ g role (i+1) W' n'
 | cr {i:Nat} {W W':WS} {n n':Int}:cQ g role i W n->qM g role i W' n'->¬n'<n->cQ g role (i+1) W n
theorem iO.q{g:Gl}(hV:ah g){role:Int}{X:An}(hX:jX g role X){i:Nat}{W:WS}{n:Int}(h:iO g role X i W n):cQ g role i W n:=by
 induction h with
 | zero=>exact .zero
 | take _ hk hl ih=>exact .take ih (hk.q hV hX) hl
 | cr _ hk hl ih=>exact .cr ih (hk.q hV hX) hl
theorem cQ.uniq{g:Gl}{role:Int}{i:Nat}{W:WS}{n:Int}(h:cQ g role i W n):∀ {W':WS} {n':Int},cQ g role i W' n'->W=W'/\n=n':=by
 induction h with
 | zero=>intro W' n' h';cases h';exact⟨rfl,rfl⟩
 | take _ hk hl ih=>
  intro W' n' h';cases h' with
  | take h2 fg oD=>exact hk.uniq fg
  | cr h2 fg oD=>
   obtain⟨rfl,rfl⟩:=ih h2;obtain⟨rfl,rfl⟩:=hk.uniq fg;exact absurd hl oD
 | cr _ hk hl ih=>
  intro W' n' h';cases h' with
  | take h2 fg oD=>
   obtain⟨rfl,rfl⟩:=ih h2;obtain⟨rfl,rfl⟩:=hk.uniq fg;exact absurd oD hl
  | cr h2 fg oD=>exact ih h2
theorem dj.q{g:Gl}(hV:ah g){role:Int}{W:WS}{n:Int}(h:dj g role W n):cQ g role 4 W n:=by
 obtain⟨X,hX,hF⟩:=h;exact hF.q hV hX
theorem dj.uniq{g:Gl}(hV:ah g){role:Int}{W W':WS}{n n':Int}(h:dj g role W n)(h':dj g role W' n'):W=W'/\n=n':=(h.q hV).uniq (h'.q hV)
/-! ### lengths -/
def WS.len(W:WS):Nat:=if W.k=2 then 2*W.F.length else W.F.length+W.S.length
theorem RX(g:Gl){role:Int}{ms:List bj}(h:∀m∈ms,∃s t,m∈bP g.es role s t):(facts g ms).length+(gh g ms).length=(ms.map cq).sum:=by
 induction ms with
 | nil=>rfl
 | cons m ms ih=>
  have h1:=ih fun m hm=>h m (Yn _ hm);obtain⟨s,t,hm⟩:=h m Yx;have h2:0<=m.x\/0<=m.y:=by
   unfold bP at hm;rcases Yk.1 hm with hm | hm
   .rcases Yk.1 hm with hm | hm
    .obtain⟨k,_,rfl⟩:=Yp.1 hm;exact .inl (Int.natCast_nonneg k)
    .obtain⟨k,_,rfl⟩:=Yp.1 hm;exact .inr (Int.natCast_nonneg k)
   .unfold pE at hm;obtain⟨i,hi,hm⟩:=List.mem_flatMap.1 hm;unfold s6 at hm;split at hm
    .cases hm
    .obtain⟨k,_,rfl⟩:=Yp.1 hm;exact .inl (Int.natCast_nonneg i)
  unfold facts gh at *;rw[List.flatMap_cons,List.flatMap_cons,Yh,Yh,iM,List.sum_cons,<-h1];unfold cq;by_cases hx:0<=m.x
  .by_cases hy:0<=m.y
   .rw[if_pos hx,if_pos hy,if_pos ⟨hx,hy⟩];simp only[Yv];omega
   .rw[if_pos hx,if_neg hy,if_neg (fun h9=>hy h9.2)];simp only[Yv,List.length_nil];omega
  .have hy:0<=m.y:=h2.resolve_left hx;rw[if_neg hx,if_pos hy,if_neg (fun h9=>hx h9.1)];simp only[Yv,List.length_nil];omega
theorem pJ.mem{g:Gl}{role:Int}{a7:Pr->Option Int}{D:Pr->Int}{p0:Pr}{ms:List bj}{p:Pr}(h:pJ (dc g role) a7 D p0 ms p):∀m∈ms,∃s t,m∈bP g.es role s t:=by
 induction h with
 | nil=>intro m hm;cases hm
 | @snoc ms p m k _ _ _ hm ih=>
  intro x hx;rcases Yk.1 hx with hx | hx
  .exact ih x hx
  .rw[Ye] at hx;subst hx;exact⟨p.1,p.2,Yb hm⟩
theorem JE{g:Gl}{role:Int}{s:Nat}{y:gM}(h:y∈dq g role s):∃(i:Nat) (m:Ms),y=jz g i m/\i<g.es.length/\m∈ey g i:=by
 unfold dq at h;obtain⟨i,hi,hy⟩:=List.mem_flatMap.1 h;unfold iU at hy;obtain⟨x,hx,_⟩:=ay.1 hi;split at hy
 .unfold vg at hy;obtain⟨m,hm,rfl⟩:=Yp.1 hy;exact⟨i,m,rfl,(Ya.1 hx).1,(List.mem_filter.1 hm).1⟩
 .cases hy
theorem oY.len{g:Gl}{role kind:Int}(hk:kind=1\/kind=3\/kind=4){W:WS}{n:Int}(h:oY g role kind W n):(n=bh/\W=yM)\/(n=W.len/\n<=8388608/\W.k=kind/\W.r=role):=by
 cases h with
 | kR=>exact .inl ⟨rfl,rfl⟩
 | @hit n ms p hl hn hG hc=>
  refine .inr ⟨?_,by omega,rfl,rfl⟩;have h1:=RX g hG.mem;have h2:=hG.len;have h3:=ya hl;have hkk:kind≠2:=by omega
  unfold WS.len;rw[if_neg hkk];rcases hk with rfl | rfl | rfl
  .have:dL (dc g role) (kc g role 1) p=0:=by
    unfold cP at hc;rw[if_pos rfl] at hc;split at hc
    .split at hc
     .exact (eP hc).symm
     .cases hc
    .cases hc
   unfold Lc;rw[if_pos rfl];simp only;omega
  .have:dL (dc g role) (kc g role 3) p=0:=by
    unfold cP at hc;rw[if_neg (by decide),if_pos rfl] at hc;split at hc
    .exact (eP hc).symm
    .cases hc
   unfold Lc;rw[if_neg (by decide),if_neg (by decide)];simp only;omega
  .unfold cP at hc;rw[if_neg (by decide),if_neg (by decide)] at hc;split at hc
   .obtain⟨y,hy,hyn⟩:=rP.1 hc;obtain⟨i,m,rfl,_,_⟩:=JE (rq hy).1;unfold Lc;rw[if_neg (by decide),if_pos rfl,hy];simp only[Option.getD_some,Yh,Yv];have e1:(jz g i m).e.toNat=i:=by unfold jz;exact Ys i
    have e2:(jz g i m).n=1+((iu g i m).length:Int):=rfl;have e3:(jz g i m).m=m:=rfl;rw[e1,e3];omega
   .cases hc
theorem y5.len{g:Gl}{role:Int}{W:WS}{n:Int}(h:y5 g role W n):(n=bh/\W=yM)\/(n=W.len/\n<=8388608/\W.k=2/\W.r=role):=by
 cases h with
 | kR=>exact .inl ⟨rfl,rfl⟩
 | @hit n ks s e0 hl hn hG h0 hm pF=>
  have h1:=hG.len;have h2:=Ps hl;refine .inr ⟨?_,by omega,rfl,rfl⟩;unfold WS.len;rw[if_pos rfl];have h3:(mz g.es ks).length=ks.length:=Yc _;simp only;omega
theorem cQ.len{g:Gl}{role:Int}:∀ {i:Nat} {W:WS} {n:Int},cQ g role i W n->(n=bh/\W=yM)\/(n=W.len/\n<=8388608/\1<=W.k/\W.k<=4/\W.r=role):=by
 intro i W n h
 induction h with
 | zero=>exact .inl ⟨rfl,rfl⟩
 | @take i W W' n n' _ hk hl ih=>
  have h9:(n'=bh/\W'=yM)\/(n'=W'.len/\n'<=8388608/\1<=W'.k/\W'.k<=4/\W'.r=role):=by
   match i with
   | 0=>exact (oY.len (.inl rfl) hk).imp id fun ⟨a,b,c,d⟩=>⟨a,b,by omega,by omega,d⟩
   | 1=>exact (y5.len hk).imp id fun ⟨a,b,c,d⟩=>⟨a,b,by omega,by omega,d⟩
   | 2=>exact (oY.len (.inr (.inl rfl)) hk).imp id fun ⟨a,b,c,d⟩=>⟨a,b,by omega,by omega,d⟩
   | i+3=>exact (oY.len (.inr (.inr rfl)) hk).imp id fun ⟨a,b,c,d⟩=>⟨a,b,by omega,by omega,d⟩
  exact h9
 | cr _ _ _ ih=>exact ih
theorem Qn{g:Gl}{role:Int}{s t:Nat}{x:Ed}(hx:x∈g.es)(hv:aG role x=none)(hf:x.f=(s:Int)):∃m∈bP g.es role s t,bD m=(x.t.toNat,t)/\cq m=1:=by
 obtain⟨i,hi⟩:=Yf.1 hx;refine⟨⟨(i:Int),-1,(eA g.es i).t,(t:Nat)⟩,?_,by unfold bD;rw[aI hi];rfl,by unfold cq;rw[if_neg (fun h=>absurd h.2 (show ¬(0:Int) <= -1 by decide))]⟩;unfold bP sZ;refine List.mem_append_left _ (List.mem_append_left _ (Yp.2 ⟨i,List.mem_filter.2 ⟨ay.2 ⟨x,hi,hf⟩,?_⟩,rfl⟩));unfold yN;rw[aI hi,hv];rfl
theorem Qo{g:Gl}{role:Int}{s t:Nat}{x:Ed}(hx:x∈g.es)(hv:aG role x=none)(hf:x.f=(t:Int)):∃m∈bP g.es role s t,bD m=(s,x.t.toNat)/\cq m=1:=by
 obtain⟨i,hi⟩:=Yf.1 hx;refine⟨⟨-1,(i:Int),(s:Nat),(eA g.es i).t⟩,?_,by unfold bD;rw[aI hi];rfl,by unfold cq;rw[if_neg (fun h=>absurd h.1 (show ¬(0:Int) <= -1 by decide))]⟩;unfold bP B8;refine List.mem_append_left _ (List.mem_append_right _ (Yp.2 ⟨i,List.mem_filter.2 ⟨ay.2 ⟨x,hi,hf⟩,?_⟩,rfl⟩));unfold yN;rw[aI hi,hv];rfl
theorem Qp{g:Gl}{role:Int}{s t:Nat}{x y:Ed}{e:Ev}(hx:x∈g.es)(hy:y∈g.es)(hvx:aG role x=some e)(T4:aG role y=some e)(hf:x.f=(s:Int))(hg:y.f=(t:Int)):∃m∈bP g.es role s t,bD m=(x.t.toNat,y.t.toNat)/\cq m=2:=by
 obtain⟨i,hi⟩:=Yf.1 hx;obtain⟨k,hk⟩:=Yf.1 hy;refine⟨⟨(i:Int),(k:Int),(eA g.es i).t,(eA g.es k).t⟩,?_,by unfold bD;rw[aI hi,aI hk],by unfold cq;rw[if_pos ⟨Int.natCast_nonneg i,Int.natCast_nonneg k⟩]⟩;unfold bP pE;refine List.mem_append_right _ (List.mem_flatMap.2 ⟨i,ay.2 ⟨x,hi,hf⟩,?_⟩);unfold s6;rw[aI hi,hvx];refine Yp.2 ⟨k,List.mem_filter.2 ⟨ay.2 ⟨y,hk,hg⟩,decide_eq_true ?_⟩,rfl⟩;rw[aI hk,T4]
theorem Mq{g:Gl}{role:Int}{s t:Nat}{m:bj}(hm:m∈bP g.es role s t):
  (∃x∈g.es,aG role x=none/\x.f=(s:Int)/\bD m=(x.t.toNat,t))\/(∃x∈g.es,aG role x=none/\x.f=(t:Int)/\bD m=(s,x.t.toNat)) \/
  (∃x∈g.es,∃y∈g.es,∃e,aG role x=some e/\aG role y=some e/\x.f=(s:Int)/\y.f=(t:Int)/\bD m=(x.t.toNat,y.t.toNat)):=by
 unfold bP at hm;rcases Yk.1 hm with hm | hm
 .rcases Yk.1 hm with hm | hm
  .obtain⟨k,hk,rfl⟩:=Yp.1 hm;obtain⟨K4,fg⟩:=List.mem_filter.1 hk;obtain⟨x,hx,hf⟩:=ay.1 K4;unfold yN at fg;rw[aI hx] at fg;refine .inl ⟨x,Yb hx,?_,hf,by unfold bD;rw[aI hx];simp only[Ys]⟩;cases h:aG role x with
   | none=>rfl
   | some e=>rw[h] at fg;simp at fg
  .obtain⟨k,hk,rfl⟩:=Yp.1 hm;obtain⟨K4,fg⟩:=List.mem_filter.1 hk;obtain⟨x,hx,hf⟩:=ay.1 K4;unfold yN at fg;rw[aI hx] at fg;refine .inr (.inl ⟨x,Yb hx,?_,hf,by unfold bD;rw[aI hx];simp only[Ys]⟩);cases h:aG role x with
   | none=>rfl
   | some e=>rw[h] at fg;simp at fg
 .unfold pE at hm;obtain⟨i,hi,hm⟩:=List.mem_flatMap.1 hm;obtain⟨x,hx,hf⟩:=ay.1 hi;unfold s6 at hm;rw[aI hx] at hm;cases hv:aG role x with
  | none=>rw[hv] at hm;cases hm
  | some e=>
   rw[hv] at hm;obtain⟨k,hk,rfl⟩:=Yp.1 hm;obtain⟨K4,fg⟩:=List.mem_filter.1 hk;obtain⟨y,hy,hfy⟩:=ay.1 K4;have fg:=cd fg;rw[aI hy] at fg;exact .inr (.inr ⟨x,Yb hx,y,Yb hy,e,hv,fg,hf,hfy,by unfold bD;rw[aI hy]⟩)
theorem yE.inv{es:List Ed}{s0 t:Int}{p:List Ed}(h:yE es s0 p t):(p=[]/\t=s0)\/∃p' x,p=p'++[x]/\yE es s0 p' x.f/\x∈es/\t=x.t:=by
 cases h with
 | nil=>exact .inl ⟨rfl,rfl⟩
 | snoc h hx hf=>exact .inr ⟨_,_,rfl,by rw[hf];exact h,hx,rfl⟩
theorem mr{α β:Type}{f:α->Option β}{l:List α}{x:α}(h:f x=none):(l++[x]).filterMap f=l.filterMap f:=by rw[List.filterMap_append,List.filterMap_cons,h];simp
theorem jR{α β:Type}{f:α->Option β}{l:List α}{x:α}{e:β}(h:f x=some e):(l++[x]).filterMap f=l.filterMap f++[e]:=by rw[List.filterMap_append,List.filterMap_cons,h];simp
theorem way{g:Gl}(hV:ah g){role:Int}:∀(N:Nat) {p q:List Ed} {s t:Int},p.length+q.length=N->yE g.es g.s p s->yE g.es g.s q t->p.filterMap (aG role)=q.filterMap (aG role) ->
  eR g role (s.toNat,t.toNat)/\∀(a7:Pr->Option Nat) (n:Nat),Dn (dc g role) a7 (s.toNat,t.toNat) n->Dn (dc g role) a7 (jk g) (n+N):=by
 intro N
 induction N using Nat.strongRecOn with
 | ind N ih=>
  intro p q s t hN hp hq he;have hE:∀x∈g.es,0<=x.f/\0<=x.t:=fun x hx=>by have:=hV.num.e x hx;unfold fp at this;exact⟨by omega,by omega⟩
  have qx:∀ {p' q:List Ed} {x:Ed} {t:Int},yE g.es g.s p' x.f->x∈g.es->aG role x=none->yE g.es g.s q t->p'.length+1+q.length=N->p'.filterMap (aG role)=q.filterMap (aG role) ->
    eR g role (x.t.toNat,t.toNat)/\∀(a7:Pr->Option Nat) (n:Nat),Dn (dc g role) a7 (x.t.toNat,t.toNat) n->Dn (dc g role) a7 (jk g) (n+N):=fun {p' q x t} oz hx hv hq hN he=>by
   obtain⟨h1,h2⟩:=ih (p'.length+q.length) (by omega) rfl oz hq he;obtain⟨m,hm,e,l⟩:=Qn (t:=t.toNat) (s:=x.f.toNat) hx hv (by have:=hE x hx;omega);refine⟨by have:=eR.step h1 hm;rwa [e] at this,fun a7 n hd=>?_⟩;have h3:Dn (dc g role) a7 (x.f.toNat,t.toNat) (n+cq m):=Dn.step hm (by rw[e];exact hd);rw[l] at h3;have h4:=h2 a7 _ h3;have e4:n+1+(p'.length+q.length)=n+N:=by omega
   rwa [e4] at h4
  have ox:∀ {p q':List Ed} {x:Ed} {s:Int},yE g.es g.s p s->yE g.es g.s q' x.f->x∈g.es->aG role x=none->p.length+(q'.length+1)=N->p.filterMap (aG role)=q'.filterMap (aG role) ->
    eR g role (s.toNat,x.t.toNat)/\∀(a7:Pr->Option Nat) (n:Nat),Dn (dc g role) a7 (s.toNat,x.t.toNat) n->Dn (dc g role) a7 (jk g) (n+N):=fun {p q' x s} hp gX hx hv hN he=>by
   obtain⟨h1,h2⟩:=ih (p.length+q'.length) (by omega) rfl hp gX he;obtain⟨m,hm,e,l⟩:=Qo (s:=s.toNat) (t:=x.f.toNat) hx hv (by have:=hE x hx;omega);refine⟨by have:=eR.step h1 hm;rwa [e] at this,fun a7 n hd=>?_⟩;have h3:Dn (dc g role) a7 (s.toNat,x.f.toNat) (n+cq m):=Dn.step hm (by rw[e];exact hd);rw[l] at h3;have h4:=h2 a7 _ h3;have e4:n+1+(p.length+q'.length)=n+N:=by omega
   rwa [e4] at h4
  rcases hp.inv with ⟨rfl,rfl⟩ | ⟨p',x,rfl,oz,hx,rfl⟩
  .rcases hq.inv with ⟨rfl,rfl⟩ | ⟨q',y,rfl,gX,hy,rfl⟩
   .have:N=0:=hN.symm;subst this;exact⟨.start,fun a7 n hd=>hd⟩
   .cases hv:aG role y with
    | none=>
     rw[mr hv] at he;rw[Yh,Yv] at hN;exact ox hp gX hy hv hN he
    | some e=>
     rw[jR hv] at he;have:=congrArg List.length he;simp at this
  .rw[Yh,Yv] at hN;cases hv:aG role x with
   | none=>
    rw[mr hv] at he;exact qx oz hx hv hq hN he
   | some e=>
    rcases hq.inv with ⟨rfl,rfl⟩ | ⟨q',y,rfl,gX,hy,rfl⟩
    .rw[jR hv] at he;have:=congrArg List.length he;simp at this
    .rw[Yh,Yv] at hN;cases hw:aG role y with
     | none=>
      rw[mr hw] at he;exact ox hp gX hy hw (by rw[Yh,Yv];omega) he
     | some e'=>
      rw[jR hv,jR hw] at he;obtain⟨Rn,he2⟩:=List.append_inj' he rfl;cases he2;obtain⟨h1,h2⟩:=ih (p'.length+q'.length) (by omega) rfl oz gX Rn;obtain⟨m,hm,e5,l⟩:=Qp (s:=x.f.toNat) (t:=y.f.toNat) hx hy hv hw (by have:=hE x hx;omega) (by have:=hE y hy;omega);refine⟨by have:=eR.step h1 hm;rwa [e5] at this,fun a7 n hd=>?_⟩;have h3:Dn (dc g role) a7 (x.f.toNat,y.f.toNat) (n+cq m):=Dn.step hm (by rw[e5];exact hd);rw[l] at h3;have h4:=h2 a7 _ h3;have e4:n+2+(p'.length+q'.length)=n+N:=by omega
      rwa [e4] at h4
theorem eR.words{g:Gl}(hV:ah g){role:Int}{p:Pr}(h:eR g role p):∃(a b:List Ed) (s t:Int),yE g.es g.s a s/\yE g.es g.s b t/\a.filterMap (aG role)=b.filterMap (aG role)/\p=(s.toNat,t.toNat):=by
 have hE:∀x∈g.es,0<=x.f/\0<=x.t:=fun x hx=>by have:=hV.num.e x hx;unfold fp at this;exact⟨by omega,by omega⟩
 induction h with
 | start=>exact⟨[],[],g.s,g.s,.nil,.nil,rfl,rfl⟩
 | @step p m hp hm ih=>
  obtain⟨a,b,s,t,ha,hb,he,rfl⟩:=ih;have hs:=jG hV ha;have ht:=jG hV hb;rcases Mq hm with ⟨x,hx,hv,hf,e⟩ | ⟨x,hx,hv,hf,e⟩ | ⟨x,hx,y,hy,ev,hv,hw,hf,hfy,e⟩
  .have hf:x.f=((s.toNat:Nat):Int):=hf;exact⟨a++[x],b,x.t,t,.snoc ha hx (by omega),hb,by rw[mr hv];exact he,e⟩
  .have hf:x.f=((t.toNat:Nat):Int):=hf;exact⟨a,b++[x],s,x.t,ha,.snoc hb hx (by omega),by rw[mr hv];exact he,e⟩
  .have hf:x.f=((s.toNat:Nat):Int):=hf;have hfy:y.f=((t.toNat:Nat):Int):=hfy;exact⟨a++[x],b++[y],x.t,y.t,.snoc ha hx (by omega),.snoc hb hy (by omega),by rw[jR hv,jR hw,he],e⟩
theorem Fp{g:Gl}(hV:ah g){role:Int}{W:WS}(h:dj g role W bh):∃X,Bf g role X:=by
 obtain⟨X,hX,hF⟩:=h;obtain⟨_,k0,p0,q0⟩:=hF.all 0 (by decide);obtain⟨_,k1,p1,q1⟩:=hF.all 1 (by decide);obtain⟨_,k2,p2,q2⟩:=hF.all 2 (by decide);obtain⟨_,k3,p3,q3⟩:=hF.all 3 (by decide);refine⟨X,hX,fun p hp=>rU.qZ p0 (by omega) hp,fun p hp=>Lg.qZ p1 hV (by omega) hp,fun p hp hc=>?_,fun p hp=>rU.qZ p3 (by omega) hp⟩;have h9:=rU.qZ p2 (by omega) hp;unfold dR at h9;rw[if_neg (by decide),if_pos rfl,if_pos hc] at h9;cases h9
theorem Bf.same{g:Gl}{role:Int}{X:An}(hF:Bf g role X){n a:Nat}(hn:(n:Int)<g.n)(ha:(a:Int)<g.n)(h1:eR g role (a,n))(h2:eR g role (n,a))(hs:a8 (ai g role (a:Nat)) 0=true):
  aV g role (a:Nat)=false/\aV g role (n:Nat)=false/\ai g role (a:Nat)=ai g role (n:Nat):=by
 have yR:∀n:Nat,(ai g role (n:Nat)).Pairwise cy:=fun n=>dm _;obtain⟨e1,e2⟩:=hF.mx ha h1 hs;obtain⟨y,hy⟩:∃y,(ai g role (a:Nat))[0]?=some y:=by
  cases h:(ai g role (a:Nat))[0]? with
  | some y=>exact⟨y,rfl⟩
  | none=>unfold a8 at hs;rw[h] at hs;cases hs
 have hym:=Yb hy;have hys:=qf (yR a) e2 hym;have Co:=sL (yR n) (hF.snd ha hn h1 hym hys) hys;obtain⟨f1,f2⟩:=hF.mx hn h2 Co;exact⟨e1,f1,fB _ _ (yR a) (yR n) fun x=>⟨fun hx=>hF.snd ha hn h1 hx (qf (yR a) e2 hx),fun hx=>hF.snd hn ha h2 hx (qf (yR n) f2 hx)⟩⟩
theorem dj.len{g:Gl}(hV:ah g){role:Int}{W:WS}{n:Int}(h:dj g role W n):(n=bh/\W=yM)\/(n=W.len/\n<=8388608/\1<=W.k/\W.k<=4/\W.r=role):=(h.q hV).len
def acq(g:Gl)(k:Nat)(W:WS)(n:Int):Prop:=
 (n=bh/\W=yM/\∀j:Nat,j<k->∀W' n',dj g (j:Int) W' n'->n'=bh) \/
  (n≠bh/\(∃i:Nat,i<k/\dj g (i:Int) W n)/\∀j:Nat,j<k->∀W' n',dj g (j:Int) W' n'->n'=bh\/n<n'\/(n=n'/\(W.k<W'.k\/(W.k=W'.k/\W.r<=(j:Int)))))
theorem mM.ZW{g:Gl}(hV:ah g){k:Nat}{W:WS}{n:Int}(h:mM g k W n):acq g k W n:=by
 induction h with
 | zero=>exact .inl ⟨rfl,rfl,fun j hj=>by omega⟩
 | @take i W W' n n' _ hP hc ih=>
  have oG:=hP.len hV;have EX:n'≠bh:=by
   rcases ih with ⟨h1,_⟩ | ⟨h1,⟨i2,_,h2⟩,_⟩
   .unfold bh at *;omega
   .have h3:=h2.len hV;unfold bh at *;omega
  have hWr:W'.r=(i:Int):=by
   rcases oG with ⟨h9,_⟩ | ⟨_,_,_,_,h9⟩
   .exact absurd h9 EX
   .exact h9
  refine .inr ⟨EX,⟨i,by omega,hP⟩,fun j hj W2 n2 h2=>?_⟩;by_cases e:j=i
  .subst e;obtain⟨rfl,rfl⟩:=hP.uniq hV h2;exact .inr (.inr ⟨rfl,.inr ⟨rfl,by omega⟩⟩)
  .rcases ih with ⟨h1,_,h3⟩ | ⟨h1,_,h3⟩
   .exact .inl (h3 j (by omega) W2 n2 h2)
   .rcases h3 j (by omega) W2 n2 h2 with h4 | h4 | ⟨h4,h5⟩
    .exact .inl h4
    .exact .inr (.inl (by omega))
    .rcases hc with h6 | ⟨h6,_,h7⟩
     .exact .inr (.inl (by omega))
     .refine .inr (.inr ⟨by omega,.inl ?_⟩);rcases h5 with h5 | ⟨h5,_⟩<;>omega
 | @cr i W W' n n' _ hP hc ih=>
  have oG:=hP.len hV;rcases ih with ⟨h1,h2,h3⟩ | ⟨h1,⟨i2,hi2,h2⟩,h3⟩
  .refine .inl ⟨h1,h2,fun j hj W2 n2 h4=>?_⟩;by_cases e:j=i
   .subst e;obtain⟨rfl,rfl⟩:=hP.uniq hV h4;unfold bh at *;omega
   .exact h3 j (by omega) W2 n2 h4
  .have h5:=h2.len hV;refine .inr ⟨h1,⟨i2,by omega,h2⟩,fun j hj W2 n2 h4=>?_⟩;by_cases e:j=i
   .subst e;obtain⟨rfl,rfl⟩:=hP.uniq hV h4;have hr:W.r=(i2:Int):=by
     rcases h5 with ⟨h9,_⟩ | ⟨_,_,_,_,h9⟩
     .exact absurd h9 h1
     .exact h9
    by_cases e1:n'=bh
    .exact .inl e1
    .by_cases e2:n<n'
     .exact .inr (.inl e2)
     .have e3:n=n':=by
       have:¬n'<n:=fun h9=>hc (.inl h9);omega
      refine .inr (.inr ⟨e3,?_⟩);have:¬W'.k<W.k:=fun h9=>hc (.inr ⟨e3.symm,by unfold bh at *;omega,h9⟩);rcases Int.lt_or_le W.k W'.k with h9 | h9
      .exact .inl h9
      .exact .inr ⟨by omega,by omega⟩
   .exact h3 j (by omega) W2 n2 h4
/-! ### certificates -/
theorem eR.sub{g:Gl}{role:Int}{PL:List Pr}(h0:jk g∈PL)(dU:∀p∈PL,∀m∈bP g.es role p.1 p.2,bD m∈PL){p:Pr}(h:eR g role p):p∈PL:=by
 induction h with
 | start=>exact h0
 | step _ hm ih=>exact dU _ ih _ hm
theorem Dn.a7{g:Gl}{role:Int}{a7:Pr->Option Nat}{p:Pr}{n:Nat}(hd:Dn (dc g role) a7 p n):eR g role p->∃q,eR g role q/\a7 q≠none:=by
 induction hd with
 | base h=>exact fun hp=>⟨_,hp,by rw[h];simp⟩
 | step hm _ ih=>exact fun hp=>ih (.step hp hm)
theorem oY.none{g:Gl}{role kind:Int}{PL:List Pr}(h0:jk g∈PL)(dU:∀p∈PL,∀m∈bP g.es role p.1 p.2,bD m∈PL)(hc:∀p∈PL,cP g role kind p=Option.none){W:WS}{n:Int}(h:oY g role kind W n):n=bh:=by
 cases h with
 | kR=>rfl
 | hit hl=>
  obtain⟨q,hq,bI⟩:=hl.1.a7 .start;exact absurd (by unfold kc;rw[hc q (hq.sub h0 dU)];rfl) bI
theorem rR.mx{es:List Ed}{MX:Nat->Prop}{s n:Nat}(h:rR es MX s n):∃t,MX t:=by
 induction h with
 | base h=>exact⟨_,h⟩
 | step _ _ _ ih=>exact ih
theorem y5.none{g:Gl}{role:Int}(hc:∀s:Nat,s<g.n.toNat->¬uF g role s){W:WS}{n:Int}(h:y5 g role W n):n=bh:=by
 cases h with
 | kR=>rfl
 | hit hl=>
  obtain⟨t,ht⟩:=hl.1.mx;exact absurd ht (hc t ht.1)
theorem cQ.none{g:Gl}{role:Int}{PL:List Pr}(h0:jk g∈PL)(dU:∀p∈PL,∀m∈bP g.es role p.1 p.2,bD m∈PL)(hc:∀p∈PL,cP g role 1 p=Option.none/\cP g role 3 p=Option.none/\cP g role 4 p=Option.none)(hm:∀s:Nat,s<g.n.toNat->¬uF g role s):∀ {i:Nat} {W:WS} {n:Int},cQ g role i W n->n=bh:=by
 intro i W n h
 induction h with
 | zero=>rfl
 | @take i W W' n n' _ hk hl ih=>
  have:n'=bh:=by
   match i with
   | 0=>exact oY.none h0 dU (fun p hp=>(hc p hp).1) hk
   | 1=>exact y5.none hm hk
   | 2=>exact oY.none h0 dU (fun p hp=>(hc p hp).2.1) hk
   | i+3=>exact oY.none h0 dU (fun p hp=>(hc p hp).2.2) hk
  exact this
 | cr _ _ _ ih=>exact ih
/-! ### two roles: nothing is found -/
def Gs(g:Gl)(role:Int)(l:List Nat):Prop:=∀s∈l,¬uF g role s/\∀t∈l,(a8 (ai g role (s:Nat)) 0=true->aV g role (s:Nat)=aV g role (t:Nat)/\ai g role (s:Nat)=ai g role (t:Nat))/\¬FF g role s t/\cC (ai g role (t:Nat)) (dq g role s)=none
def FV(g:Gl)(role:Int)(l:List Nat):Prop:=∀s∈l,((∃u∈l,a8 (ai g role (u:Nat)) 0=true)->aV g role (s:Nat)=false/\(∃z,l[0]?=some z/\ai g role (s:Nat)=ai g role (z:Nat))/\ai g role (s:Nat)≠[]/\a8 (ai g role (s:Nat)) ((ai g role (s:Nat)).length-1)=true) /\
 ∀t∈l,¬yJ g role (s:Nat) (t:Nat)/\cC (ai g role (t:Nat)) (dq g role s)=none
theorem jF{α:Type}{n:Nat}(f:Nat->α){s:Nat}(hs:s<n):((List.range n).map f)[s]?=some (f s):=by rw[Yd,vk hs];rfl
theorem uq{g:Gl}(hV:ah g){role:Int}{s:Nat}(h:oU g role (s:Nat)):(D8 g.es g.ts role g.n.toNat)[s]?=some ⟨eG g.es s,(cG g role g.ts s).k,(cG g role g.ts s).x⟩:=by
 obtain⟨x,hx,hf,ha⟩:=h;obtain⟨_,t,ht,hT⟩:=qA hV hx ha;rw[hf,Ys] at ht;rw[ht,GK hV hT (MB hV hx ha hf)]
theorem lR{es:List Ed}{role:Int}{s:Nat}{g:Gl}(he:es=g.es):eE es role s=true ↔ oU g role (s:Nat):=by
 subst he;unfold eE oU;rw[List.any_eq_true];constructor
 .rintro⟨x,hx,h⟩;rw[Yt,decide_eq_true_eq,decide_eq_true_eq] at h;exact⟨x,hx,h⟩
 .rintro⟨x,hx,h1,h2⟩;exact⟨x,hx,by rw[Yt,decide_eq_true_eq,decide_eq_true_eq];exact⟨h1,h2⟩⟩
theorem Jp{g:Gl}(hV:ah g){role:Int}{s t:Nat}(hs:s<g.n.toNat)(ht:t<g.n.toNat):FF g role s t ↔ yJ g role (s:Nat) (t:Nat):=by
 unfold FF KO yJ;rw[jF _ hs,jF _ ht,jF _ hs,jF _ ht,jF _ hs,jF _ ht,Ys,Ys];constructor
 .rintro⟨h1,h2,h3⟩;have o1:=(lR (g:=g) rfl).1 (eP h1);have o2:=(lR (g:=g) rfl).1 (eP h2);refine⟨o1,o2,?_⟩;rw[uq hV o1,uq hV o2];intro e;have e:=eP e;simp only[Ti.mk.injEq] at e;rcases h3 with h3 | h3
  .refine h3 (congrArg some ?_);cases hl:cG g role g.ts s;cases oG:cG g role g.ts t;rw[hl,oG] at e;simp only at e;rw[e.2.1,e.2.2]
  .exact h3 (congrArg some e.1)
 .rintro⟨o1,o2,h3⟩;refine⟨congrArg some ((lR (g:=g) rfl).2 o1),congrArg some ((lR (g:=g) rfl).2 o2),?_⟩;rw[uq hV o1,uq hV o2] at h3;by_cases e1:cG g role g.ts s=cG g role g.ts t
  .refine .inr fun e2=>h3 ?_;rw[eP e2,e1]
  .exact .inl fun e2=>e1 (eP e2)
theorem Nq{g:Gl}(hV:ah g){role:Int}{l:List Nat}(hl:∀s∈l,s<g.n.toNat):Gs g role l ↔ FV g role l:=by
 have nm:∀ {s:Nat},s∈l->a8 (ai g role (s:Nat)) 0=true->¬uF g role s->aV g role (s:Nat)=false/\a8 (ai g role (s:Nat)) ((ai g role (s:Nat)).length-1)=true:=fun {s} hs h0 hm=>by
  unfold uF at hm;rw[h0,Bool.true_and] at hm;have h1:(aV g role (s:Nat) || !a8 (ai g role (s:Nat)) ((ai g role (s:Nat)).length-1))=false:=by
   cases h:(aV g role (s:Nat) || !a8 (ai g role (s:Nat)) ((ai g role (s:Nat)).length-1)) with
   | false=>rfl
   | true=>exact absurd ⟨hl s hs,h⟩ hm
  rw[Bool.or_eq_false_iff] at h1;exact⟨h1.1,by simpa using h1.2⟩
 constructor
 .intro h s hs;refine⟨?_,fun t ht=>⟨fun hc=>((h s hs).2 t ht).2.1 ((Jp hV (hl s hs) (hl t ht)).2 hc),((h s hs).2 t ht).2.2⟩⟩;rintro⟨u,hu,T6⟩;obtain⟨n1,n2⟩:=nm hu T6 (h u hu).1;obtain⟨e1,e2⟩:=((h u hu).2 s hs).1 T6;obtain⟨z,hz⟩:∃z,l[0]?=some z:=get_some (List.length_pos_of_mem hs);obtain⟨f1,f2⟩:=((h u hu).2 z (Yb hz)).1 T6;refine⟨by rw[<-e1];exact n1,⟨z,hz,by rw[<-e2];exact f2⟩,fun e=>?_,by rw[<-e2];exact n2⟩;rw[e2,e] at T6;cases T6
 .intro h s hs;have key:a8 (ai g role (s:Nat)) 0=true->∀t∈l,aV g role (t:Nat)=false/\(∃z,l[0]?=some z/\ai g role (t:Nat)=ai g role (z:Nat))/\ai g role (t:Nat)≠[]/\a8 (ai g role (t:Nat)) ((ai g role (t:Nat)).length-1)=true:=fun h0 t ht=>(h t ht).1 ⟨s,hs,h0⟩;refine⟨fun hm=>?_,fun t ht=>⟨fun h0=>?_,fun hc=>((h s hs).2 t ht).1 ((Jp hV (hl s hs) (hl t ht)).1 hc),((h s hs).2 t ht).2⟩⟩
  .have ik:=hm.2;rw[Yt] at ik;obtain⟨k1,_,_,k4⟩:=key ik.1 s hs;have:=ik.2;rw[k1,k4] at this;cases this
  .obtain⟨k1,⟨z,hz,k2⟩,_⟩:=key h0 s hs;obtain⟨j1,⟨z',lp,j2⟩,_⟩:=key h0 t ht;rw[hz] at lp;cases lp;exact⟨by rw[k1,j1],by rw[k2,j2]⟩
/-! ### views are what histories lead to -/
theorem acn(role:Int)(e:Ev):(EM role e).ev=e:=rfl
theorem JC{g:Gl}{role:Int}{S:List aX}{M:List Mv}(h:views g role=some (S,M)):∀(l:List Ev) {j:Nat},nR g role (l.map (EM role)) j=true->nR g role (l.map (EM role))∈S:=by
 obtain⟨hR,h0⟩:=Gy h
 suffices hs:∀(n:Nat) (l:List Ev),l.length=n->∀ {j:Nat},nR g role (l.map (EM role)) j=true->nR g role (l.map (EM role))∈S from fun l=>hs _ l rfl
 intro n
 induction n with
 | zero=>
  intro l hl j hj;have:l=[]:=List.length_eq_zero_iff.1 hl;subst this;exact Yb h0
 | succ n ih=>
  intro l hl j hj;obtain⟨l',x,rfl⟩:∃l' x,l=l'++[x]:=⟨l.dropLast,l.getLast (fun e=>by rw[e] at hl;cases hl),(List.dropLast_concat_getLast _).symm⟩;rw[Yh,Yv] at hl;rw[Ym,iM,List.map_nil,tQ] at hj ⊢;unfold sJ at hj ⊢;rw[if_pos (show (EM role x).role=role from rfl)] at hj ⊢;rw[acn] at hj ⊢;have bI:∃a,a∈jZ g.es role (nR g role (l'.map (EM role))) x:=by
   have h1:=bK.1 hj;clear hj;have:∀a,Qr g.es role (jZ g.es role (nR g role (l'.map (EM role))) x) a->∃b,b∈jZ g.es role (nR g role (l'.map (EM role))) x:=fun a ha=>by
    induction ha with
    | base hm=>exact⟨_,hm⟩
    | step _ _ ih=>exact ih
   exact this _ h1
  obtain⟨a,ha⟩:=bI;obtain⟨y,hy,T4,_,m,hm,hp⟩:=ly ha;obtain⟨r,hr⟩:=Yf.1 (ih l' (by omega) hp);have nD:=(Ya.1 hr).1;have hev:x∈j8 g.es role (nR g role (l'.map (EM role))):=by
   unfold jZ at ha;obtain⟨n',EX,ha⟩:=List.mem_flatMap.1 ha;obtain⟨z,hz,xl⟩:=vT.1 ha;unfold j8;rw[fq];unfold Pq;refine List.mem_flatMap.2 ⟨n',EX,Yp.2 ⟨z,hz,?_⟩⟩;split at xl
   .rename_i e;exact e
   .cases xl
  obtain⟨mv,X4,hmf,hme⟩:=hR.b r _ nD hr x hev;obtain⟨r',p',e1,_,e3,e4,t,e5,e6⟩:=hR.a mv X4;have:r'=r:=by omega
  subst this;rw[hr] at e3;cases e3;rw[hme] at e6;exact Yb e6
theorem DJ{g:Gl}(hV:ah g){role:Int}{S:List aX}{M:List Mv}(h:views g role=some (S,M)){W:WS}{n:Int}(hF:dj g role W n):(∀p∈S,Gs g role (elems p)) ↔ n=bh:=by
 have hN:=hV.num.n;constructor
 .intro hS;have pr:∀ {s t:Nat},eR g role (s,t)->∃p∈S,s∈elems p/\t∈elems p:=fun {s t} hp=>by
   obtain⟨a,b,s',t',ha,hb,he,e⟩:=hp.words hV;cases e;have h1:=Hk hV role ha;have h2:=Hk hV role hb;rw[<-he] at h2;have r1:=jG hV ha;have r2:=jG hV hb;exact⟨_,JC h _ h1,br.2 ⟨by omega,h1⟩,br.2 ⟨by omega,h2⟩⟩
  have a7:∀ {p:Pr},eR g role p->cP g role 1 p=none/\cP g role 3 p=none/\cP g role 4 p=none:=fun {p} hp=>by
   obtain⟨q,hq,hs,ht⟩:=pr (s:=p.1) (t:=p.2) hp;have hf:=hS q hq p.1 hs;obtain⟨f1,f2,f3⟩:=hf.2 p.2 ht;refine⟨?_,?_,?_⟩
   .unfold cP;rw[if_pos rfl];split
    .rw[if_neg];rw[List.find?_isSome];rintro⟨e,he,hd⟩;unfold fQ at hd;rw[Yt] at hd;have h0:=sL (dm _:(ai g role (p.1:Nat)).Pairwise cy) he hd.1;have:=(f1 h0).2;rw[<-this] at hd;rw[decide_eq_true he] at hd;exact absurd hd.2 (by decide)
    .rfl
   .unfold cP;rw[if_neg (by decide),if_pos rfl,if_neg f2]
   .unfold cP;rw[if_neg (by decide),if_neg (by decide)];split
    .rw[f3];rfl
    .rfl
  have bp:∀ {kind:Int} {W:WS} {k:Int},(∀p,eR g role p->cP g role kind p=none)->oY g role kind W k->k=bh:=fun {kind W k} hc hb=>by
   cases hb with
   | kR=>rfl
   | hit _ _ hG xE=>rw[hc _ hG.prr] at xE;cases xE
  have mx:∀ {W:WS} {k:Int},y5 g role W k->k=bh:=fun {W k} hb=>by
   cases hb with
   | kR=>rfl
   | @hit k ks s e0 hl hn hG h0 hm pF=>
    have:∀ {ks:List Nat} {s:Nat},GQ g.es (dS g.es (uF g role)) g.s.toNat ks s->∃p,yE g.es g.s p (s:Nat):=fun {ks s} hG=>by
     induction hG with
     | nil=>exact⟨[],by rw[Int.toNat_of_nonneg (by omega)];exact .nil⟩
     | @snoc ks s j i _ _ _ hi ih=>
      obtain⟨p,hp⟩:=ih;obtain⟨y,hy,QL⟩:=ay.1 (Yb hi);have hye:=hV.num.e y (Yb hy);unfold fp at hye;refine⟨p++[y],?_⟩;rw[aI hy,Int.toNat_of_nonneg (by omega)];exact .snoc hp (Yb hy) QL
    obtain⟨p,hp⟩:=this hG;have Il:=(way hV _ rfl hp hp (role:=role) rfl).1;rw[Ys] at Il;obtain⟨q,hq,hs,_⟩:=pr Il;exact absurd hm (hS q hq s hs).1
  have cA:∀ {i:Nat} {W:WS} {n:Int},cQ g role i W n->n=bh:=fun {i W n} hq=>by
   induction hq with
   | zero=>rfl
   | @take i W W' n n' _ hk hl ih=>
    have:n'=bh:=by
     match i with
     | 0=>exact bp (fun p hp=>(a7 hp).1) hk
     | 1=>exact mx hk
     | 2=>exact bp (fun p hp=>(a7 hp).2.1) hk
     | i+3=>exact bp (fun p hp=>(a7 hp).2.2) hk
    exact this
   | cr _ _ _ ih=>exact ih
  exact cA (hF.q hV)
 .rintro rfl p hp s hs;obtain⟨X,hX⟩:=Fp hV hF;have xu:=sF hV h p hp;have xv:∀ {s:Nat},s∈elems p->p s=true:=fun hs=>(br.1 hs).2;have bt:∀ {s:Nat},s∈elems p->(s:Int)<g.n:=fun hs=>sG hV h p hp xu _ (xv hs);refine⟨fun hm=>hX.m (s,s) (xu s s (xv hs) (xv hs)) ((hX.x.mx s).2 hm),fun t ht=>⟨fun h0=>?_,fun hc=>?_,?_⟩⟩
  .obtain⟨e1,e2,e3⟩:=hX.same (n:=t) (a:=s) (bt ht) (bt hs) (xu s t (xv hs) (xv ht)) (xu t s (xv ht) (xv hs)) h0;exact⟨by rw[e1,e2],e3⟩
  .refine hX.c (s,t) (xu s t (xv hs) (xv ht)) ?_;unfold FF at hc;rw[hX.x.li,hX.x.ag,hX.x.ow];exact hc
  .have h9:=hX.a (s,t) (xu s t (xv hs) (xv ht));rw[hX.x.a7] at h9;unfold cP at h9;have h1:=bt hs;have h2:=bt ht;rw[if_neg (by decide),if_neg (by decide),if_pos ⟨by simp only;omega,by simp only;omega⟩] at h9;simp only[Option.map_eq_none_iff] at h9;exact h9
theorem Nu(x y:Ev):((x.send==y.send)&&((x.peer==y.peer)&&((x.label==y.label)&&true)))=decide (x=y):=by
 obtain⟨a,b,c⟩:=x;obtain⟨a',b',c'⟩:=y;rw[Bool.eq_iff_iff];simp only[Yt,beq_iff_eq,and_true,decide_eq_true_eq,Ev.mk.injEq]
theorem ZD(A B:List Ev)(s t:Sl)(h:Heap)(hA:Rw h 3 s (A.map Ev.cs))(hB:Rw h 3 t (B.map Ev.cs))(hl:A.length<=1048576):Fn Pz 150 #[.slice s.a s.n s.c,.slice t.a t.n t.c] h fun v h'=>v=.bool (decide (A=B))/\h'=h:=by
 apply Wm s t;unfold abD;have hn:=hA.ln;have hm:=hB.ln;refine dY (fun c=>?_) (fun c=>?_)
 .exact⟨by rw[decide_eq_false (fun e=>c (by rw[hn,hm,e]))],rfl⟩
 .have hAB:A.length=B.length:=by omega
  refine bU (n:=s.n) (fun i h'=>h'=h/\A.take i=B.take i) ⟨rfl,by rw[iY,iY]⟩ ?_;rintro-i h5 hi ⟨rfl,he⟩;refine aQ (fun c2=>?_) (fun c2=>?_)
  .refine hA.ax (by omega) (by omega) fun b o x gx u=>?_;replace gx:A[i]?=some x:=gx;refine⟨_,_,_,u,?_⟩;refine hB.ax (by omega) (by omega) fun b o y gy u2=>?_;replace gy:B[i]?=some y:=gy;refine⟨_,_,_,u2,?_⟩;have e1:=Nu x y;refine aa (fun c3=>?_) (fun c3=>?_)
   .refine⟨?_,rfl⟩;rw[decide_eq_false];intro e;subst e;rw[gx] at gy;cases gy;rw[e1,decide_eq_true rfl] at c3;cases c3
   .have exy:x=y:=by
     rw[e1] at c3;simpa using c3
    refine Up.next (by omega) (by omega) ⟨rfl,?_⟩;rw[ae gx,ae gy,he,exy]
  .rw[Yj (by omega),Yj (by omega)] at he;exact⟨by rw[decide_eq_true he],rfl⟩
def Lj(g:Gl)(role:Int)(s t:Nat):Prop:=(a8 (ai g role (s:Nat)) 0=true->aV g role (s:Nat)=aV g role (t:Nat)/\ai g role (s:Nat)=ai g role (t:Nat))/\¬FF g role s t/\cC (ai g role (t:Nat)) (dq g role s)=none
theorem jX.clp{g:Gl}{role:Int}{X:An}(hX:jX g role X)(s t:Nat):KO X.li X.ag X.ow s t ↔ FF g role s t:=by unfold FF;rw[hX.li,hX.ag,hX.ow]
theorem CF{b:Nat}{g:Gl}{role:Int}{X:An}{l:List Nat}{s t m:Nat}{h vM:Heap}{I:Int->Heap->Nat->Prop}{x:Int}(hA:sC h b g role X)(hX:jX g role X)(hs:s∈l)(ht:t∈l)(dA:s<g.n.toNat)(uP:t<g.n.toNat)(E:Ext h vM)
  (h1:a8 (ai g role (s:Nat)) 0=true->aV g role (s:Nat)=aV g role (t:Nat)/\ai g role (s:Nat)=ai g role (t:Nat)) (hI:Lj g role s t->∀h',Ext vM h'->∃m2,m2<m/\I (IntKind.wrap .i64 (x+1)) h' m2) :
  NX ⟨b,0,none⟩ (s:Nat) (t:Nat) vM (RP (Gs g role l) h) m I x:=by
 unfold NX;have no:¬Lj g role s t->∀h',Ext vM h'->RP (Gs g role l) h (.bool false) h':=fun bM h' E'=>RP.f (fun hf=>bM ((hf s hs).2 t ht)) (E.trans E');have Pg:=hA.ext E;refine (tN ⟨b,0,none⟩ role _ _ _ _ _ _ _ _ s t vM Pg.r ⟨by rw[hA.nw];exact dA,by rw[hA.nw];exact uP⟩ ⟨by rw[hA.nl];exact dA,by rw[hA.nl];exact uP⟩ ⟨by rw[hA.na];exact dA,by rw[hA.na];exact uP⟩).mono ?_;rintro _ Pj ⟨⟨bv,rfl,hbv⟩,E2⟩;refine⟨bv,rfl,aa (fun c=>no (fun hf=>hf.2.1 ((hX.clp s t).1 (hbv.1 c))) Pj E2) (fun c=>?_)⟩;have dU:¬FF g role s t:=fun hc=>cM hbv c ((hX.clp s t).2 hc);obtain⟨f',sj,Gj,_⟩:=hX.Gp uP;obtain⟨q,hq,ij⟩:=hX.ara dA;refine (kX b g role X s t f' q Pj (Pg.ext E2) sj hq (fun y hy=>(hX.an q (Yb hq) y hy).1)).mono ?_;rintro _ Cz ⟨E3,rfl⟩;rw[Gj,ij];refine⟨_,_,_,_,_,rfl,?_⟩;refine (St.refl Cz).aj (vs:=((cC (ai g role (t:Nat)) (dq g role s)).getD cV).cs) rfl rfl fun tw gN=>?_;have E4:=(E2.trans E3).trans gN.ext;refine aa (fun c2=>no (fun hf=>?_) tw E4) (fun c2=>hI ⟨h1,dU,?_⟩ tw E4)
 .rw[hf.2.2] at c2;cases c2
 .cases hv:cC (ai g role (t:Nat)) (dq g role s) with
  | none=>rfl
  | some y=>rw[hv] at c2;cases c2
theorem CG{b:Nat}{g:Gl}{role:Int}{X:An}{l:List Nat}{sl:Sl}{s m:Nat}{h lu h5:Heap}{I:Int->Heap->Nat->Prop}{x:Int}{f:Fs}(hA:sC h b g role X)(hX:jX g role X)(hl:Rw h 1 sl ((aJ l).map aM))(O4:l.length<=4096)(bt:∀z∈l,z<g.n.toNat)(hs:s∈l)(hf:X.fi[s]?=some f)
  (dB:St h lu [.af h5.size f.cs 195]) (hI:(∀t∈l,Lj g role s t)->∀h',Ext h h'->∃m2,m2<m/\I (IntKind.wrap .i64 (x+1)) h' m2):NY lu sl ⟨b,0,none⟩ h5 (RP (Gs g role l) h) (s:Nat) m I x:=by
 unfold NY;have hn:=hl.ln;rw[show (aJ l).length=l.length from Yc _] at hn;have dA:=bt s hs;obtain⟨f0,pF,fl,fb⟩:=hX.Gp dA;rw[hf] at pF;cases pF;refine aD (n:=sl.n) dB (fun k=>∀t∈l.take k,Lj g role s t) (fun t ht=>by rw[iY] at ht;cases ht) ?_;clear dB;rintro-k y3 hk ⟨dB,hq⟩;refine aQ (fun c=>?_) (fun c=>?_)
 .obtain⟨t,gt⟩:=get_some (l:=l) (i:=k) (by omega);have ht:=Yb gt;have uP:=bt t ht;have gI:(aJ l)[k]?=some (t:Int):=by unfold aJ;rw[Yd,gt];rfl
  refine (hl.ext dB.ext).ax (by omega) (by omega) fun b31 o32 d gd u=>?_;replace gd:(aJ l)[k]?=some d:=gd;rw[gI] at gd;cases gd;obtain⟨f',sj,Gj,fb'⟩:=hX.Gp uP;have RG:=hA.ext dB.ext;have nf:=hA.nf;have rl:=hA.r.rf.ln;refine⟨_,u.nth 0 rfl,X.bZ,RG.r.f,?_⟩;refine RG.r.rf.rw.ax (by omega) (by omega) fun UB TJ d gd u2=>?_;replace gd:X.fi[t]?=some d:=gd;rw[sj] at gd;cases gd;refine⟨f'.s,f'.b,u2,?_⟩;refine dB.aj (vs:=f'.cs) rfl rfl fun km dB=>?_;have om:Lj g role s t->∀h',Ext km h'->∃m2,m2<sl.n-k/\Up sl.n (fun k h'=>St h h' [.af h5.size f.cs 195]/\∀t∈l.take k,Lj g role s t) (IntKind.wrap .i64 ((k:Int)+1)) h' m2:=fun hc h' E=>by
   refine Up.next (by omega) (by omega) ⟨(dB.step E).drop 1,fun z hz=>?_⟩;rw[ae gt,Yk,Ye] at hz;rcases hz with hz | rfl
   .exact hq z hz
   .exact hc
  have no:¬Lj g role s t->∀h',Ext km h'->RP (Gs g role l) h (.bool false) h':=fun bM h' E'=>RP.f (fun hf=>bM ((hf s hs).2 t ht)) (dB.ext.trans E');refine⟨f.s,f.b,dB.at 1 rfl (o:=0) (n:=2) rfl,?_⟩;refine (qh f.l f.b f.s km ((hA.ext dB.ext).r.re f (Yb hf)).rw).mono ?_;rintro _ CA ⟨rfl,E5⟩;have l6:=dB.step E5;refine⟨_,rfl,aa (fun c2=>?_) (fun c2=>?_)⟩
  .refine⟨f.b,l6.rd 1 rfl (i:=1) rfl,f'.b,l6.rd 0 rfl (i:=1) rfl,aa (fun c3=>?_) (fun c3=>?_)⟩
   .refine no (fun hc=>?_) CA E5;have:=(hc.1 (by rw[<-fl];exact c2)).1;rw[fb,fb',this] at c3;simp at c3
   .have hb:f.b=f'.b:=by simpa using c3
    refine⟨f.s,l6.rd 1 rfl (i:=0) rfl,f'.s,l6.rd 0 rfl (i:=0) rfl,?_⟩;have hA5:=hA.ext l6.ext;refine (ZD f.l f'.l f.s f'.s CA (hA5.r.re f (Yb hf)).rw (hA5.r.re f' (Yb sj)).rw (hA5.r.re f (Yb hf)).sm).mono ?_;rintro _ _ ⟨rfl,rfl⟩;refine⟨_,rfl,aa (fun c4=>?_) (fun c4=>?_)⟩
    .refine no (fun hc=>?_) _ E5;have:=(hc.1 (by rw[<-fl];exact c2)).2;rw[fl,Gj,decide_eq_true this] at c4;cases c4
    .have he:f.l=f'.l:=by simpa using c4
     exact CF hA hX hs ht dA uP l6.ext (fun _=>⟨by rw[<-fb,<-fb',hb],by rw[<-fl,<-Gj,he]⟩) fun hc h' E'=>om hc h' (E5.trans E')
  .exact CF hA hX hs ht dA uP l6.ext (fun h0=>by rw[fl,h0] at c2;cases c2) fun hc h' E'=>om hc h' (E5.trans E')
 .rw[Yj (by omega)] at hq;exact hI hq y3 dB.ext
theorem RY(b:Nat)(g:Gl)(role:Int)(X:An)(l:List Nat)(sl:Sl)(h:Heap)(hA:sC h b g role X)(hX:jX g role X)(hl:Rw h 1 sl ((aJ l).map aM))(O4:l.length<=4096)(bt:∀z∈l,z<g.n.toNat):
  Fn Pz 83 #[.pointer (some ⟨b,0,none⟩),.slice sl.a sl.n sl.c] h (RP (Gs g role l) h):=by
 apply acP ⟨b,0,none⟩ sl;unfold W83;have hn:=hl.ln;rw[show (aJ l).length=l.length from Yc _] at hn;refine aD (n:=sl.n) (St.refl h) (fun k=>∀s∈l.take k,¬uF g role s/\∀t∈l,Lj g role s t) (fun t ht=>by rw[iY] at ht;cases ht) ?_;rintro-k h5 hk ⟨dB,hq⟩;refine aQ (fun c=>?_) (fun c=>?_)
 .obtain⟨s,gs⟩:=get_some (l:=l) (i:=k) (by omega);have hs:=Yb gs;have dA:=bt s hs;have gI:(aJ l)[k]?=some (s:Int):=by unfold aJ;rw[Yd,gs];rfl
  refine (hl.ext dB.ext).ax (by omega) (by omega) fun b6 o7 d gd u=>?_;replace gd:(aJ l)[k]?=some d:=gd;rw[gI] at gd;cases gd;obtain⟨f,hf,fl,fb⟩:=hX.Gp dA;have RG:=hA.ext dB.ext;have nf:=hA.nf;have rl:=hA.r.rf.ln;refine⟨_,u.nth 0 rfl,X.bZ,RG.r.f,?_⟩;refine RG.r.rf.rw.ax (by omega) (by omega) fun UB TJ d gd u2=>?_;replace gd:X.fi[s]?=some d:=gd;rw[hf] at gd;cases gd;refine⟨f.s,f.b,u2,?_⟩;refine dB.aj (vs:=f.cs) rfl rfl fun tD dB=>?_;refine⟨f.s,f.b,dB.at 0 rfl (o:=0) (n:=2) rfl,?_⟩;refine (qh f.l f.b f.s tD ((hA.ext dB.ext).r.re f (Yb hf)).rw).mono ?_;rintro _ az ⟨rfl,E5⟩;have l6:=dB.step E5;have om:¬uF g role s->(∀t∈l,Lj g role s t)->∀h',Ext h h'->∃m2,m2<sl.n-k/\Up sl.n (fun k h'=>St h h' []/\∀s∈l.take k,¬uF g role s/\∀t∈l,Lj g role s t) (IntKind.wrap .i64 ((k:Int)+1)) h' m2:=fun hm hc h' E=>by
   refine Up.next (by omega) (by omega) ⟨(St.refl h).step E,fun z hz=>?_⟩;rw[ae gs,Yk,Ye] at hz;rcases hz with hz | rfl
   .exact hq z hz
   .exact⟨hm,hc⟩
  refine⟨_,rfl,aa (fun c2=>?_) (fun c2=>?_)⟩
  .refine⟨f.s,f.b,l6.at 0 rfl (o:=0) (n:=2) rfl,?_⟩;refine (w7 f.l f.b f.s az ((hA.ext l6.ext).r.re f (Yb hf)).rw ((hA.ext l6.ext).r.re f (Yb hf)).sm).mono ?_;rintro _ lu ⟨rfl,E6⟩;rw[fl,fb];refine⟨_,rfl,aa (fun c3=>?_) (fun c3=>?_)⟩
   .exact RP.f (fun hf=>(hf s hs).1 ⟨dA,c3⟩) (l6.step E6).ext
   .refine CG hA hX hl O4 bt hs hf (l6.step E6) (om fun hm=>?_);rw[hm.2] at c3;cases c3
  .refine CG hA hX hl O4 bt hs hf l6 (om fun hm=>?_);have ik:=hm.2;rw[<-fl,c2] at ik;cases ik
 .rw[Yj (by omega)] at hq;exact RP.t (fun s hs=>hq s hs) dB.ext
inductive UI (g:Gl) (role:Int) (P:List Nat->Prop) (h h':Heap):Value->Prop
 | bad (hG:¬rQ g role) (E:Ext h h'):UI g role P h h' (.tuple ⟨[.bool false,.int .i64 1]⟩)
 | lim (hG:rQ g role) (hv:views g role=none) (E:Ext h h'):UI g role P h h' (.tuple ⟨[.bool false,.int .i64 6]⟩)
 | ok {S:List aX} {M:List Mv} {bv:Bool} (hG:rQ g role) (hv:views g role=some (S,M)) (hb:bv=true ↔ ∀p∈S,P (elems p)) (E:Ext h h'):UI g role P h h' (.tuple ⟨[.bool bv,.int .i64 0]⟩)
theorem xY(p:aX):(elems p).length<=4096:=by unfold elems;exact iX (List.length_filter_le _ _) (by rw[kv];exact bu _)
theorem FH(g:Gl)(role:Int)(h:Heap)(hg:GI h g)(hx:Gx h):Fn Pz 36 #[g.v,.int .i64 role] h fun v h'=>UI g role (Gs g role) h h' v:=by
 apply ady (bs g.nm) g.hr g.hd g.n g.s g.e g.he g.ht role;unfold W36;refine (St.refl h).ao fun h9 hs=>?_;refine⟨_,_,_,_,_,_,_,_,hs.at 0 rfl (o:=0) (n:=8) rfl,?_⟩;refine (k6 g role h9 (hg.ext hs.ext) (hx.ext hs.ext)).mono ?_;rintro _ ko (⟨bM,rfl,E⟩ | ⟨Rk,ab,ho,bZ,bV,bx,cm,cz,OU,FI,LI,AG,OW,rfl,xr,hSp⟩)
 .exact⟨none,1,rfl,dY (fun _=>.bad bM (hs.step E).ext) (fun c=>absurd c (by decide))⟩
 have hG:rQ g role:=Rk;obtain⟨hV,hr⟩:=Rk;have hN:=hV.num.n;refine⟨some ⟨ab,0,none⟩,0,rfl,dY (fun c=>absurd rfl c) (fun _=>?_)⟩;have hs:=hs.join xr;refine⟨_,_,_,_,_,_,_,_,hs.at 0 rfl (o:=0) (n:=8) rfl,?_⟩;refine (Lu g role ko (hg.ext hs.ext) (hx.ext hs.ext)).mono ?_;rintro _ bA ⟨E35,Ih⟩;cases Ih with
 | bad hn=>exact absurd hG hn
 | OK _ hn=>
  refine⟨⟨none,0,0⟩,⟨none,0,0⟩,⟨none,0,0⟩,6,rfl,?_⟩;refine (hs.step E35).aj (vs:=P5) rfl rfl fun oK hs=>?_;exact dY (fun _=>.lim hG hn hs.ext) (fun c=>absurd c (by decide))
 | @Zk _ ss fs cD E M hn hsV hE hl hp hm=>
 refine⟨ss,fs,cD,0,rfl,?_⟩;have hs:=hs.join hsV;refine hs.aj (vs:=[.slice ss.a ss.n ss.c,.slice fs.a fs.n fs.c,.slice cD.a cD.n cD.c]) rfl rfl fun oK hs=>?_;refine dY (fun c=>absurd rfl c) (fun _=>?_);have mN:St h oK (rN ab h9.size g role ho bZ bV bx cm cz OU FI LI AG OW (List.replicate g.n.toNat (aH,[])) ([.af bA.size [.slice ss.a ss.n ss.c,.slice fs.a fs.n fs.c,.slice cD.a cD.n cD.c] 154,.af h.size g.cs 27]++TR g.e.toNat ss fs cD E M)):=by
  rw[A4];refine hs.perm ?_;show List.Perm ([It.af bA.size [.slice ss.a ss.n ss.c,.slice fs.a fs.n fs.c,.slice cD.a cD.n cD.c] 154,.af h.size g.cs 27]++rz ab h9.size g role ho bZ bV bx cm cz OU FI LI AG OW (List.replicate g.n.toNat (aH,[]))++TR g.e.toNat ss fs cD E M) _;rw[Yz];exact List.perm_append_comm_assoc _ _ _
 refine (xZ mN hg hx hV hSp.1).mono ?_;rintro _ sw ⟨rfl,AR,dA,mg,nK⟩;refine⟨rfl,?_⟩;obtain⟨hA,hX⟩:=JM dA hg hV hSp mg nK;generalize anX ho bZ bV bx cm cz OU FI LI AG OW AR=X at hA hX;have hsR:St h sw ([.af bA.size [.slice ss.a ss.n ss.c,.slice fs.a fs.n fs.c,.slice cD.a cD.n cD.c] 154,.af h.size g.cs 27]++TR g.e.toNat ss fs cD E M):=dA.mT (by unfold rN;exact List.perm_append_comm);refine⟨ss,hsR.rd 0 rfl (i:=0) rfl,?_⟩;have bL:Rw sw 1 ss (E.map SE.hd):=hsR.rows 2 rfl (by decide);have ahD:=bL.ln;have E39:=hsR.ext;have aed:=hx.ext E39;have cN:∀e∈E,ie sw e.s e.p:=fun e he=>by
  have dh:SE.it e∈[It.af bA.size [.slice ss.a ss.n ss.c,.slice fs.a fs.n fs.c,.slice cD.a cD.n cD.c] 154,.af h.size g.cs 27]++TR g.e.toNat ss fs cD E M:=by
   unfold TR;exact List.mem_append_right _ (List.mem_append_right _ (Yp.2 ⟨e,he,rfl⟩))
  exact (hE e he).v (show Own sw e.b (e.ws.map wC).flatten 144 from (hsR.ok _ dh).1) e.k
 refine aD (n:=ss.n) (St.refl sw) (fun i=>∀e∈E.take i,Gs g role (elems e.p)) (fun e he=>by rw[iY] at he;cases he) ?_;rintro-i CA hi ⟨dB,hq⟩;refine aQ (fun c=>?_) (fun c=>?_)
 .refine (bL.ext dB.ext).ax (by omega) (by omega) fun b46 o47 e ge t=>?_;replace ge:E[i]?=some e:=ge;have Iy:=Yb ge;refine⟨e.s,t.nth 0 rfl,?_⟩;refine (Ae e.p e.s CA (aed.ext dB.ext) ((cN e Iy).ext dB.ext)).mono ?_;rintro _ uU ⟨E51,r,rfl,hr⟩;refine⟨r,rfl,?_⟩;have ff:=dB.xK E51 hr (bX _);have aej:Rw uU 1 r ((aJ (elems e.p)).map aM):=ff.rows 0 rfl (by decide);refine (RY ab g role X (elems e.p) r uU (hA.ext ff.ext) hX aej (xY _) (fun z hz=>by
   have:=hp e.p (Yp.2 ⟨e,Iy,rfl⟩) z (br.1 hz).2;omega)).mono ?_
  rintro _ Uq ⟨⟨bv,rfl,hbv⟩,E54⟩;have H7:=ff.step E54;refine⟨bv,rfl,aa (fun c2=>?_) (fun c2=>?_)⟩
  .refine .ok hG hn ⟨fun h9=>(by cases h9),fun cA=>?_⟩ (E39.trans H7.ext);have:=hbv.2 (cA e.p (Yp.2 ⟨e,Iy,rfl⟩));rw[this] at c2;cases c2
  .refine Up.next (by omega) (by omega) ⟨H7.drop 1,fun z hz=>?_⟩;rw[ae ge,Yk,Ye] at hz;rcases hz with hz | rfl
   .exact hq z hz
   .exact hbv.1 (by simpa using c2)
 .rw[Yj (by omega)] at hq;exact .ok hG hn ⟨fun _ p hp2=>by obtain⟨e,he,rfl⟩:=Yp.1 hp2;exact hq e he,fun _=>rfl⟩ (E39.trans dB.ext)

instance:DecidableEq Lm:=fun a b=>decidable_of_iff (a.k=b.k/\a.x=b.x) ⟨fun ⟨h1,h2⟩=>by cases a;cases b;simp_all,fun h=>by rw[h];exact⟨rfl,rfl⟩⟩
def Lb(g:Gl)(role:Int)(s:Nat):Option (List Ev × Bool):=(Sk g.es role g.n.toNat [(s:Int)]).map fun L=>(Sb g.es role L,decide (g.e.toNat∈L))
theorem oM{g:Gl}(hV:ah g){role:Int}{s:Nat}(hs:(s:Int)<g.n){q:List Ev × Bool}(h:Lb g role s=some q):ai g role (s:Nat)=q.1/\aV g role (s:Nat)=q.2:=by
 have hN:=hV.num.n;unfold Lb at h;obtain⟨L,hL,rfl⟩:=rP.1 h;obtain⟨hc,he⟩:=NM (fun x hx=>by have:=hV.num.e x hx;unfold fp at this;omega) (fun j hj=>by have:=rj (l:=[(s:Int)]) hV (fun x hx=>by rw[Ye] at hx;omega) j hj;omega) hL;constructor
 .unfold ai;rw[he,Fv hc (by omega)]
 .unfold aV;rw[he];rfl
def clB(g:Gl)(role:Int)(s t:Nat):Bool:=eE g.es role s&&(eE g.es role t&&(!decide (cG g role g.ts s=cG g role g.ts t) || !decide (eG g.es s=eG g.es t)))
theorem Jq{g:Gl}{role:Int}{s t:Nat}(hs:s<g.n.toNat)(ht:t<g.n.toNat)(h:clB g role s t=false):¬FF g role s t:=by
 unfold FF KO;rw[dZ _ hs,dZ _ ht,dZ _ hs,dZ _ ht,dZ _ hs,dZ _ ht];rintro⟨h1,h2,h3⟩;have e1:=eP h1;have e2:=eP h2;unfold clB at h;rw[e1,e2,Bool.true_and,Bool.true_and,Bool.or_eq_false_iff] at h;rcases h3 with h3 | h3
 .have:=h.1;simp at this;exact h3 (by rw[this])
 .have:=h.2;simp at this;exact h3 (by rw[this])
def sU(g:Gl)(role:Int)(PL:List Pr)(p:Pr):Bool:=
 decide (p.1<g.n.toNat)&&(decide (p.2<g.n.toNat)&&((bP g.es role p.1 p.2).all fun m=>decide (bD m∈PL)))
def NH(g:Gl)(role:Int)(p:Pr):Bool:=
 match Lb g role p.1,Lb g role p.2 with
 | some a,some b=>(a.1.find? (fQ b.1)).isNone&&(!clB g role p.1 p.2&&(cC b.1 (dq g role p.1)).isNone)
 | _,_=>false
def Mt(g:Gl)(role:Int)(s:Nat):Bool:=
 match Lb g role s with
 | some a=>!(a8 a.1 0&&(a.2 || !a8 a.1 (a.1.length-1)))
 | none=>false
def qF(g:Gl)(role:Int)(PL:List Pr):Bool:=
 decide (jk g∈PL)&&((PL.all fun p=>sU g role PL p&&NH g role p)&&((List.range g.n.toNat).all fun s=>Mt g role s))
theorem lQ{g:Gl}{role:Int}{PL:List Pr}{p:Pr}(h:sU g role PL p=true):p.1<g.n.toNat/\p.2<g.n.toNat/\∀m∈bP g.es role p.1 p.2,bD m∈PL:=by
 unfold sU at h;rw[Yt,Yt,decide_eq_true_eq,decide_eq_true_eq,List.all_eq_true] at h;exact⟨h.1,h.2.1,fun m hm=>cd (h.2.2 m hm)⟩
theorem NG{g:Gl}(hV:ah g){role:Int}{p:Pr}(h1:p.1<g.n.toNat)(h2:p.2<g.n.toNat)(h:NH g role p=true):cP g role 1 p=none/\cP g role 3 p=none/\cP g role 4 p=none:=by
 unfold NH at h;split at h
 .rename_i a b ha hb;obtain⟨ea,_⟩:=oM hV (by omega) ha;obtain⟨eb,_⟩:=oM hV (by omega) hb;rw[Yt,Yt] at h;obtain⟨k1,k2,k3⟩:=h;rw[Option.isNone_iff_eq_none] at k1 k3;refine⟨?_,?_,?_⟩
  .unfold cP;rw[if_pos rfl,if_pos ⟨h1,h2⟩,ea,eb,k1];rfl
  .unfold cP;rw[if_neg (by decide),if_pos rfl,if_neg (Jq h1 h2 (by simpa using k2))]
  .unfold cP;rw[if_neg (by decide),if_neg (by decide),if_pos ⟨h1,h2⟩,eb,k3];rfl
 .cases h
theorem Cb{g:Gl}(hV:ah g){role:Int}{s:Nat}(hs:s<g.n.toNat)(h:Mt g role s=true):¬uF g role s:=by
 unfold Mt at h;split at h
 .rename_i a ha;obtain⟨e1,e2⟩:=oM hV (by omega) ha;unfold uF;rw[e1,e2];rintro⟨_,h9⟩;rw[h9] at h;cases h
 .cases h
theorem jm{g:Gl}(hV:ah g){role:Int}{PL:List Pr}(h:qF g role PL=true){i:Nat}{W:WS}{n:Int}(hF:cQ g role i W n):n=bh:=by
 unfold qF at h;rw[Yt,Yt,decide_eq_true_eq,List.all_eq_true,List.all_eq_true] at h;obtain⟨h0,h1,h2⟩:=h;have hp:∀p∈PL,sU g role PL p=true/\NH g role p=true:=fun p hp=>by have:=h1 p hp;rwa [Yt] at this
 refine cQ.none h0 (fun p oz m hm=>(lQ (hp p oz).1).2.2 m hm) (fun p oz=>?_) (fun s hs=>Cb hV hs (h2 s (List.mem_range.2 hs))) hF;have:=lQ (hp p oz).1;exact NG hV this.1 this.2.1 (hp p oz).2
theorem Zw(hr hd he ht:Sl):qF (dx true hr hd he ht) 0 [(0,0),(1,1),(2,2),(1,3),(3,1),(3,3),(2,4),(4,2),(4,4),(1,5),(5,1),(3,5),(5,3),(5,5),(2,5),(5,2),(4,5),(5,4)]=true:=by kernel_rfl
theorem Zv(hr hd he ht:Sl):qF (dx true hr hd he ht) 1 [(0,0),(1,1),(2,2),(3,3),(4,4),(5,5)]=true:=by kernel_rfl
theorem Zu(hr hd he ht:Sl):qF (dx true hr hd he ht) 2 [(0,0),(0,1),(1,0),(0,2),(2,0),(1,1),(1,2),(2,1),(2,2),(3,3),(4,4),(5,5)]=true:=by kernel_rfl
theorem ZA(hr hd he ht:Sl):qF (dx false hr hd he ht) 0 [(0,0),(1,1),(2,2),(1,3),(3,1),(3,3),(2,3),(3,2)]=true:=by kernel_rfl
theorem Zz(hr hd he ht:Sl):qF (dx false hr hd he ht) 1 [(0,0),(1,1),(2,2),(3,3)]=true:=by kernel_rfl
theorem cQ.le{g:Gl}{role:Int}{i:Nat}{W:WS}{n:Int}(h:cQ g role i W n):n<=bh:=by
 rcases h.len with ⟨h1,_⟩ | ⟨_,h1,_⟩<;>unfold bh at *<;>omega
theorem cQ.drop{g:Gl}{role:Int}{i:Nat}{W:WS}{n:Int}(h:cQ g role (i+1) W n)(hn:∀W' n',qM g role i W' n'->n'=bh):cQ g role i W n:=by
 cases h with
 | take h1 hk hl=>
  have h2:=hn _ _ hk;have h3:=h1.le;omega
 | cr h1 _ _=>exact h1
def tM(g:Gl)(role:Int)(p:Pr):Option Bool:=
 match Lb g role p.1,Lb g role p.2 with
 | some a,some b=>some (a.1.find? (fQ b.1)).isSome
 | _,_=>none
theorem pU{g:Gl}(hV:ah g){role:Int}{p:Pr}(h1:p.1<g.n.toNat)(h2:p.2<g.n.toNat){b:Bool}(h:tM g role p=some b):cP g role 1 p=if b then some 0 else none:=by
 unfold tM at h;split at h
 .rename_i a c ha hb;obtain⟨ea,_⟩:=oM hV (by omega) ha;obtain⟨eb,_⟩:=oM hV (by omega) hb;cases h;unfold cP;rw[if_pos rfl,if_pos ⟨h1,h2⟩,ea,eb]
 .cases h
def Hd(g:Gl)(role:Int)(PL:List Pr):Bool:=
 decide (jk g∈PL)&&((PL.all fun p=>sU g role PL p&&(match Lb g role p.2 with | some b=>!clB g role p.1 p.2&&(cC b.1 (dq g role p.1)).isNone | none=>false))&&((List.range g.n.toNat).all fun s=>Mt g role s))
theorem Hc{g:Gl}(hV:ah g){role:Int}{PL:List Pr}(h:Hd g role PL=true){W:WS}{n:Int}(hF:cQ g role 4 W n):cQ g role 1 W n:=by
 unfold Hd at h;rw[Yt,Yt,decide_eq_true_eq,List.all_eq_true,List.all_eq_true] at h;obtain⟨h0,h1,h2⟩:=h;have hp:∀p∈PL,sU g role PL p=true/\cP g role 3 p=none/\cP g role 4 p=none:=fun p hp=>by
  have h3:=h1 p hp;rw[Yt] at h3;obtain⟨k1,k2,_⟩:=lQ h3.1;have h4:=h3.2;split at h4
  .rename_i b hb;obtain⟨eb,_⟩:=oM hV (by omega) hb;rw[Yt,Option.isNone_iff_eq_none] at h4;refine⟨h3.1,?_,?_⟩
   .unfold cP;rw[if_neg (by decide),if_pos rfl,if_neg (Jq k1 k2 (by simpa using h4.1))]
   .unfold cP;rw[if_neg (by decide),if_neg (by decide),if_pos ⟨k1,k2⟩,eb,h4.2];rfl
  .cases h4
 have dU:∀p∈PL,∀m∈bP g.es role p.1 p.2,bD m∈PL:=fun p oz m hm=>(lQ (hp p oz).1).2.2 m hm;refine ((hF.drop (i:=3) fun W' n' hk=>?_).drop (i:=2) fun W' n' hk=>?_).drop (i:=1) fun W' n' hk=>?_
 .exact oY.none h0 dU (fun p oz=>(hp p oz).2.2) hk
 .exact oY.none h0 dU (fun p oz=>(hp p oz).2.1) hk
 .exact y5.none (fun s hs=>Cb hV hs (h2 s (List.mem_range.2 hs))) hk
theorem oV.zero{mv:Pr->List bj}{a7:Pr->Option Nat}{p:Pr}(h:a7 p=some 0):oV mv a7 p 0:=⟨.base h,fun k _=>Nat.zero_le k⟩
theorem oV.Gt{mv:Pr->List bj}{a7:Pr->Option Nat}{p:Pr}(h:oV mv a7 p 0):a7 p=some 0:=by
 have h1:=h.1;generalize e:(0:Nat)=z at h1;cases h1 with
 | base h=>rw[h,<-e]
 | @step _ m n _ _=>have:=ee m;omega
theorem NF{mv:Pr->List bj}{a7:Pr->Option Nat}{p:Pr}(h:dL mv a7 p=0):a7 p=some 0:=by
 by_cases h9:∃n,oV mv a7 p n
 .obtain⟨n,hn⟩:=h9;have h1:=ya hn;have:n=0:=by omega
  subst this;exact hn.Gt
 .have h1:=Pt (mv:=mv) (a7:=a7) (p:=p) fun n hn=>h9 ⟨n,hn⟩;unfold bh at h1;omega
theorem LA{ms:List bj}(h:(ms.map cq).sum=1):∃m,ms=[m]:=by
 cases ms with
 | nil=>cases h
 | cons m r=>
  cases r with
  | nil=>exact⟨m,rfl⟩
  | cons m2 r=>
   have h1:=ee m;have h2:=ee m2;rw[iM,iM,List.sum_cons,List.sum_cons] at h;omega
theorem pJ.Mg{mv:Pr->List bj}{a7:Pr->Option Int}{D:Pr->Int}{p0 p:Pr}(h:pJ mv a7 D p0 [] p):p=p0:=by
 generalize EY:([]:List bj)=ms at h;cases h with
 | nil=>rfl
 | snoc=>exact absurd EY (by simp)
theorem Zx(hr hd he ht:Sl):dc (dx false hr hd he ht) 2 (jk (dx false hr hd he ht))=[⟨0,-1,1,0⟩,⟨1,-1,2,0⟩,⟨-1,0,0,1⟩,⟨-1,1,0,2⟩]:=by kernel_rfl
theorem R8(hr hd he ht:Sl):tM (dx false hr hd he ht) 2 (0,0)=some false:=by kernel_rfl
theorem R6(hr hd he ht:Sl):tM (dx false hr hd he ht) 2 (1,0)=some false:=by kernel_rfl
theorem R5(hr hd he ht:Sl):tM (dx false hr hd he ht) 2 (2,0)=some false:=by kernel_rfl
theorem R7(hr hd he ht:Sl):tM (dx false hr hd he ht) 2 (0,1)=some true:=by kernel_rfl
theorem Zy(hr hd he ht:Sl):Hd (dx false hr hd he ht) 2 [(0,0),(0,1),(1,0),(0,2),(2,0),(1,1),(1,2),(2,1),(2,2),(3,3)]=true:=by kernel_rfl
theorem R4(hr hd he ht:Sl):Lb (dx false hr hd he ht) 2 0=some ([⟨true,1,2⟩,⟨true,1,3⟩],false):=by kernel_rfl
theorem R3(hr hd he ht:Sl):Lb (dx false hr hd he ht) 2 1=some ([⟨true,1,2⟩],false):=by kernel_rfl
theorem xS{hr hd he ht:Sl}{W:WS}{n:Int}(hF:cQ (dx false hr hd he ht) 2 4 W n):n=1/\W.k=1/\W.F=[]/\W.S.length=1/\W.e.l=3:=by
 have hV:=q8 false hr hd he ht;have h1:=Hc hV (Zy hr hd he ht) hF;generalize hg:dx false hr hd he ht=g at *;have UA:kc g 2 1 (jk g)=none:=by subst hg;show (cP (dx false hr hd he ht) 2 1 (0,0)).map Int.toNat=none;rw[pU hV (p:=(0,0)) (by show 0<4;decide) (by show 0<4;decide) (R8 hr hd he ht)];rfl
 have FG:kc g 2 1 (1,0)=none:=by subst hg;show (cP (dx false hr hd he ht) 2 1 (1,0)).map Int.toNat=none;rw[pU hV (p:=(1,0)) (by show 1<4;decide) (by show 0<4;decide) (R6 hr hd he ht)];rfl
 have c20:kc g 2 1 (2,0)=none:=by subst hg;show (cP (dx false hr hd he ht) 2 1 (2,0)).map Int.toNat=none;rw[pU hV (p:=(2,0)) (by show 2<4;decide) (by show 0<4;decide) (R5 hr hd he ht)];rfl
 have c01:kc g 2 1 (0,1)=some 0:=by subst hg;show (cP (dx false hr hd he ht) 2 1 (0,1)).map Int.toNat=some 0;rw[pU hV (p:=(0,1)) (by show 0<4;decide) (by show 1<4;decide) (R7 hr hd he ht)];rfl
 have X4:dc g 2 (jk g)=[⟨0,-1,1,0⟩,⟨1,-1,2,0⟩,⟨-1,0,0,1⟩,⟨-1,1,0,2⟩]:=by subst hg;exact Zx hr hd he ht
 have hL:oV (dc g 2) (kc g 2 1) (jk g) 1:=by
  refine⟨.step (m:=⟨-1,0,0,1⟩) (n:=0) (by rw[X4];simp) (.base c01),fun k hk=>?_⟩;cases hk with
  | base h=>rw[UA] at h;cases h
  | @step _ m _ _ _=>have:=ee m;omega
 have Ct:=ya hL;have hB:oY g 2 1 W n:=by
  cases h1 with
  | take h0 hk hl=>exact hk
  | @cr _ _ W' _ n' h0 hk hl=>
   cases h0;exfalso;apply hl;cases hk with
   | kR hn=>exact absurd hL (hn 1)
   | hit oG EX=>unfold bh;omega
 cases hB with
 | kR hn=>exact absurd hL (hn 1)
 | @hit n ms p hl hn hG hc=>
  have en:n=1:=hl.uniq hL;subst en;have hlen:=hG.len;have vK:dL (dc g 2) (kc g 2 1) p=0:=by
   unfold cP at hc;rw[if_pos rfl] at hc;split at hc
   .split at hc
    .exact (eP hc).symm
    .cases hc
   .cases hc
  obtain⟨m,rfl⟩:=LA (ms:=ms) (by omega);have hm:m=⟨-1,0,0,1⟩/\p=(0,1):=by
   generalize EY:[m]=ms at hG;cases hG with
   | nil=>cases EY
   | @snoc ms1 p1 m1 k hg1 bI ja hk=>
    cases ms1 with
    | cons a b=>simp at EY
    | nil=>
     have e0:=hg1.Mg;subst e0
     .have e1:m=m1:=by simpa using EY
      subst e1;obtain⟨k1,k2,k3⟩:=List.findIdx?_eq_some_iff_getElem.1 ja;rw[(Ya.1 hk).2] at k2;have hz:=NF vK;rw[X4] at hk
      match k,hk with
      | 0,hk=>cases hk;rw[show bD (⟨0,-1,1,0⟩:bj)=(1,0) from rfl,FG] at hz;cases hz
      | 1,hk=>cases hk;rw[show bD (⟨1,-1,2,0⟩:bj)=(2,0) from rfl,c20] at hz;cases hz
      | 2,hk=>cases hk;exact⟨rfl,rfl⟩
      | 3,hk=>
       exfalso;have h9:=k3 2 (by decide);simp only[X4] at h9;apply h9;unfold Ep;refine decide_eq_true ?_;have e2:=ya (oV.zero (mv:=dc g 2) c01);show (cq (⟨-1,0,0,1⟩:bj):Int)+dL (dc g 2) (kc g 2 1) (0,1)=_;rw[e2,Ct];rfl
      | k+4,hk=>simp at hk
  obtain⟨rfl,rfl⟩:=hm;refine⟨rfl,rfl,?_,?_,?_⟩
  .unfold Lc;rw[if_pos rfl];rfl
  .rfl
  .subst hg;unfold Lc;rw[if_pos rfl,(oM hV (s:=0) (by show (0:Int)<4;decide) (R4 hr hd he ht)).1,(oM hV (s:=1) (by show (1:Int)<4;decide) (R3 hr hd he ht)).1];rfl
inductive RlR (g:Gl) (role:Int) (h h':Heap):Value->Prop
 | ok {W:WS} (hF:dj g role W bh) (E:Ext h h'):RlR g role h h' (.tuple ⟨[.agg ⟨fc.cs⟩,.int .i64 0]⟩)
 | err {v:Value} {W:WS} {n:Int} (hF:dj g role W n) (hn:n≠bh) (hw:mJ h h' W 18 v):RlR g role h h' v
theorem Qb(g:Gl)(role:Int)(h:Heap)(hg:GI h g)(hx:Gm h)(hV:ah g)(hr:0<=role/\role<g.rs.length):Fn Pz 19 #[g.v,.int .i64 role] h fun v h'=>RlR g role h h' v:=by
 apply VJ (bs g.nm) g.hr g.hd g.n g.s g.e g.he g.ht role;unfold W19;refine (St.refl h).ao fun h9 hs=>?_;refine hs.ao fun cw hs=>?_;refine⟨_,_,_,_,_,_,_,_,hs.at 1 rfl (o:=0) (n:=8) rfl,?_⟩;refine (I3 g role cw (hg.ext hs.ext) (hx.ext hs.ext) hV hr).mono ?_;rintro _ fO ⟨W,n,hF,w,e1,e2,e3,e4,rfl,L,cj⟩;refine⟨w.k,w.r,w.f,w.s,w.e.r,w.e.s,w.e.p,w.e.l,aH,w.o.r,w.o.s,w.o.p,w.o.l,aH,n,0,rfl,?_⟩;replace hs:=hs.join cj;refine hs.aj (vs:=w.cs) rfl rfl fun tB hs=>?_;refine dY (fun c=>absurd rfl c) (fun _=>?_);refine eS (fun c=>?_) (fun c=>?_)
 .subst c;refine hs.put 1 rfl (o:=0) (vs:=fc.cs) rfl (bu 14) fun Uq hs=>?_;refine vG (w:=fc) (Q:=fun cs=>RlR g role h Uq (.tuple ⟨[.agg ⟨cs⟩,.int .i64 0]⟩)) (hs.at 1 rfl (o:=0) (n:=14) rfl) ?_;exact .ok hF hs.ext
 .refine Jm hs 0 1 (w:=w) (w0:=fc) rfl rfl fun h83 hs=>?_;refine vG (w:=w) (Q:=fun cs=>RlR g role h h83 (.tuple ⟨[.agg ⟨cs⟩,.int .i64 18]⟩)) (hs.at 1 rfl (o:=0) (n:=14) rfl) ?_;exact .err hF c ⟨w,e1,e2,e3,e4,rfl,L,hs.drop 3⟩
def Wt.len(w:Wt):Int:=if w.k=2 then 2*(w.f.n:Int) else (w.f.n:Int)+(w.s.n:Int)
theorem Gv{h h':Heap}{W:WS}{w:Wt}{L:List It}(hs:St h h' (.sl w.f 65 3 (W.F.map Ac.cs) :: .sl w.s 65 3 (W.S.map Ac.cs)::L))(hk:w.k=W.k):w.len=(W.len:Int)/\w.f.n=W.F.length/\w.s.n=W.S.length:=by
 have h1:=(hs.len 0 (s:=w.f) rfl (by decide)).1;have h2:=(hs.len 1 (s:=w.s) rfl (by decide)).1;rw[Yc] at h1 h2;refine⟨?_,h1,h2⟩;unfold Wt.len WS.len;rw[hk];split<;>omega
theorem vd{hr hd he ht:Sl}{h h':Heap}{v:Value}(hc:vz (dx false hr hd he ht) h h' v):∃W,mJ h h' W 18 v/\W.k=1/\W.r=2/\W.F=[]/\W.S.length=1/\W.e.l=3:=by
 have hV:=q8 false hr hd he ht;have h0:∀ {W n},dj (dx false hr hd he ht) ((0:Nat):Int) W n->n=bh:=fun h=>jm hV (role:=0) (ZA hr hd he ht) (h.q hV);have h1:∀ {W n},dj (dx false hr hd he ht) ((1:Nat):Int) W n->n=bh:=fun h=>jm hV (role:=1) (Zz hr hd he ht) (h.q hV);cases hc with
 | bad hV'=>exact absurd hV hV'
 | ok _ hC _=>
  obtain⟨W',n',hF,hn⟩:=hC.all 2 (by show 2<3;decide);have:=(xS (hF.q hV)).1;unfold bh at hn;omega
 | @err v W n _ hC hn hw=>
  rcases hC.ZW hV with ⟨h9,_⟩ | ⟨_,⟨i,hi,hF⟩,_⟩
  .exact absurd h9 hn
  .have hi3:i<3:=hi;have hi9:i=0\/i=1\/i=2:=by omega
   rcases hi9 with rfl | rfl | rfl
   .exact absurd (h0 hF) hn
   .exact absurd (h1 hF) hn
   .obtain⟨_,k1,k2,k3,k4⟩:=xS (hF.q hV);rcases hF.len hV with ⟨h9,_⟩ | ⟨_,_,_,_,h9⟩
    .exact absurd h9 hn
    .exact⟨W,hw,k1,h9,k2,k3,k4⟩
theorem xT{hr hd he ht:Sl}{h h':Heap}{v:Value}(hc:vz (dx true hr hd he ht) h h' v):v=.tuple ⟨[.agg ⟨fc.cs⟩,.int .i64 0]⟩/\Ext h h':=by
 have hV:=q8 true hr hd he ht;have hn:∀ {i:Nat} {W n},i<3->dj (dx true hr hd he ht) (i:Int) W n->n=bh:=fun {i W n} hi hF=>by
  have hi9:i=0\/i=1\/i=2:=by omega
  rcases hi9 with rfl | rfl | rfl
  .exact jm hV (role:=0) (Zw hr hd he ht) (hF.q hV)
  .exact jm hV (role:=1) (Zv hr hd he ht) (hF.q hV)
  .exact jm hV (role:=2) (Zu hr hd he ht) (hF.q hV)
 cases hc with
 | bad hV'=>exact absurd hV hV'
 | ok _ _ E=>exact⟨rfl,E⟩
 | err _ hC h9 _=>
  rcases hC.ZW hV with ⟨h8,_⟩ | ⟨_,⟨i,hi,hF⟩,_⟩
  .exact absurd h8 h9
  .exact absurd (hn hi hF) h9
theorem NP(h:Heap)(hx:Gm h):Fn Pz 12 #[] h fun v h'=>v=.bool true/\Ext h h':=by
 apply adG;unfold W12;refine (tH false h).mono ?_;rintro _ cw ⟨E1,hr,hd,he,rfl,hg⟩;refine⟨_,_,_,_,_,_,_,_,rfl,?_⟩;refine (CR _ cw hg (hx.ext E1)).mono ?_;intro v rM hc;obtain⟨W,⟨w,e1,e2,e3,e4,rfl,L,cj⟩,k1,k2,k3,k4,k5⟩:=vd hc;obtain⟨_,l1,l2⟩:=Gv cj e1;refine⟨w.k,w.r,w.f,w.s,w.e.r,w.e.s,w.e.p,w.e.l,aH,w.o.r,w.o.s,w.o.p,w.o.l,aH,18,rfl,?_⟩;have hs:=((St.refl h).step E1).join cj;refine hs.aj (vs:=w.cs) rfl rfl fun K8 hs=>?_;refine (tH true K8).mono ?_;rintro _ sw ⟨E2,hr',Rr,xD,rfl,hg'⟩;replace hs:=hs.step E2;refine⟨_,_,_,_,_,_,_,_,rfl,?_⟩;refine (CR _ sw hg' (hx.ext hs.ext)).mono ?_;intro v jO hc;obtain⟨rfl,E3⟩:=xT hc;replace hs:=hs.step E3;refine⟨0,0,aH,aH,0,false,0,0,aH,0,false,0,0,aH,0,rfl,?_⟩;refine hs.aj (vs:=fc.cs) rfl rfl fun h58 hs=>?_;refine gR rfl (gR rfl ?_);refine⟨w.k,hs.rd 1 rfl (i:=0) rfl,eS (fun _=>?_) (fun c=>absurd (by rw[e1,k1]) c)⟩;refine⟨w.r,hs.rd 1 rfl (i:=1) rfl,eS (fun _=>?_) (fun c=>absurd (by rw[e2,k2]) c)⟩;refine⟨w.f,hs.rd 1 rfl (i:=2) rfl,eS (fun _=>?_) (fun c=>absurd (by rw[l1,k3];rfl) c)⟩;refine⟨w.s,hs.rd 1 rfl (i:=3) rfl,eS (fun _=>?_) (fun c=>absurd (by rw[l2,k4];rfl) c)⟩;refine⟨w.e.l,hs.rd 1 rfl (i:=7) rfl,eS (fun _=>?_) (fun c=>absurd (by rw[e3,k5]) c)⟩;exact⟨0,hs.rd 0 rfl (i:=0) rfl,rfl,hs.ext⟩
theorem YW(r:Int)(E:List Ev)(y:Ev)(s:Sl)(h:Heap)(hr:Rw h 5 s (E.map (aC r)))(hl:E.length<=1048576):Fn Pz 30 #[.slice s.a s.n s.c,.agg ⟨aC r y⟩] h fun v h'=>v=.bool (decide (y∈E))/\Ext h h':=by
 apply adB s r y.send y.peer y.label ⟨none,0,0⟩;unfold W30;have hn:=hr.ln;refine (St.refl h).ao fun h6 hs=>?_;refine aD (n:=s.n) hs (fun i=>y∉E.take i) (by rw[iY];exact List.not_mem_nil) ?_;clear hs;rintro-i jP hi ⟨hs,bM⟩;refine aQ (fun c=>?_) (fun c=>?_)
 .refine (hr.ext hs.ext).ax (by omega) (by omega) fun b o x gx t=>?_;replace gx:E[i]?=some x:=gx;refine⟨_,_,_,_,⟨none,0,0⟩,t,_,_,_,_,⟨none,0,0⟩,hs.at 0 rfl (o:=0) (n:=5) rfl,?_⟩;refine (lI r x y jP).mono ?_;rintro _ Fl ⟨rfl,E2⟩;have hs:=hs.step E2;refine⟨_,rfl,aa (fun c2=>?_) (fun c2=>?_)⟩
  .have e:=cd c2;subst e;exact⟨by rw[decide_eq_true (Yb gx)],hs.ext⟩
  .have e:=eI c2;refine Up.next (by omega) (by omega) ⟨hs,?_⟩;rw[ae gx,Yk,Ye];exact fun h9=>h9.elim bM fun e9=>e e9.symm
 .rw[Yj (by omega)] at bM;exact⟨by rw[decide_eq_false bM],hs.ext⟩
theorem bB{h0 h1 h2:Heap}{PJ tV:List It}{al:List Addr}(RU:St h0 h1 PJ)(RQ:St h0 h2 tV)(ha:∀a∈al,a.block<h0.size):Sm al h1 h2:=fun a hm k v hv=>by
 have hb:(fT a k).block<h0.size:=by rw[eZ];exact ha a hm
 rw[dQ (RQ.ext.2 _ hb)];rw[dQ (RU.ext.2 _ hb)] at hv;exact hv
theorem DN{s:Sl}{i n:Nat}(Gg:s.a=none->s.n=0/\s.c=0)(h:aN s.a i s.c n=none):s.n-i=0/\s.c-i=0:=by
 unfold aN at h;split at h
 .have:=Gg h;omega
 .cases ha:s.a with
  | none=>have:=Gg ha;omega
  | some a=>rw[ha] at h;cases h
theorem JN{O:List (List Value)}(h:O.flatten.all eF=true)(k:Nat):(O.take k).flatten.all eF=true/\(O.drop k).flatten.all eF=true:=by
 rw[<-List.take_append_drop k O,List.flatten_append,List.all_append,Yt] at h;exact h
theorem Rw.pre{h:Heap}{k:Nat}{s:Sl}{rows:List (List Value)}(hr:Rw h k s rows){i c:Nat}(hi:i<=s.n):Rw h k ⟨s.a,i,c⟩ (rows.take i):=by
 have hn:=hr.1;refine⟨by rw[Yu];show i=_;omega,fun hp=>?_⟩;rw[Yu] at hp;obtain⟨b,o,ha,Fj⟩:=hr.2 (by omega);refine⟨b,o,ha,fun j x hj=>Fj j x ?_⟩;rw[rO] at hj;split at hj
 .exact hj
 .cases hj
theorem ML{P:Program}{t e:TypeId}{n bytes:Nat}(hT:cu P t e n bytes=true){h0 h:Heap}{L:List It}{out:Sl}{O:List (List Value)}{x:List Value}(hs:St h0 h (.sl out e n O::L)){k:Nat}(hk:k<=O.length)(hx:x.length=n)
  (K7:O.flatten.all eF=true) (MN:x.all eF=true) (hn:0<n) (hb:bytes<=128) (Pe:O.length<=16777216) {al:List Addr} (ha:∀a∈al,a.block<h0.size) {K:Sl->Heap->Prop}
  (hK:∀r h',St h0 h' (.sl r e n (O.take k++[x]++O.drop k)::L)->K r h') :
  ((∀sn:Heap,sn=h.push (.cells ⟨[]⟩ e)->(Sm al h sn /\
   ((App P t t (.slice (some ⟨h.size,0,none⟩) 0 0) (.slice (aN out.a (Int.toNat 0) out.c n) (Int.toNat (k:Int)-Int.toNat 0) (out.c-Int.toNat 0)) sn fun KR uT=>(Sm al sn uT /\
    (∀II:Heap,II=uT.push (.cells ⟨x⟩ e)->(App P t t (.slice KR.a KR.n KR.c) (.slice (some ⟨uT.size,0,none⟩) 1 1) II fun F9 Cz=>(App P t t (.slice F9.a F9.n F9.c) (.slice (aN out.a (Int.toNat (k:Int)) out.c n) (Int.toNat (out.n:Nat)-Int.toNat (k:Int)) (out.c-Int.toNat (k:Int))) Cz fun s63 tw=>K s63 tw))))) /\
   (∀Cy:Heap,Cy=sn.push (.cells ⟨x⟩ e)->(App P t t (.slice (some ⟨h.size,0,none⟩) 0 0) (.slice (aN out.a (Int.toNat 0) out.c n) (Int.toNat (k:Int)-Int.toNat 0) (out.c-Int.toNat 0)) Cy fun s67 Zc=>(Sm al Cy Zc /\
    (App P t t (.slice s67.a s67.n s67.c) (.slice (some ⟨sn.size,0,none⟩) 1 1) Zc fun s69 nL=>(App P t t (.slice s69.a s69.n s69.c) (.slice (aN out.a (Int.toNat (k:Int)) out.c n) (Int.toNat (out.n:Nat)-Int.toNat (k:Int)) (out.c-Int.toNat (k:Int))) nL fun s71 Gi=>K s71 Gi)))))))) /\
   (∀IG:Heap,IG=h.push (.cells ⟨x⟩ e)->(∀js:Heap,js=IG.push (.cells ⟨[]⟩ e)->(Sm al IG js /\
   (App P t t (.slice (some ⟨IG.size,0,none⟩) 0 0) (.slice (aN out.a (Int.toNat 0) out.c n) (Int.toNat (k:Int)-Int.toNat 0) (out.c-Int.toNat 0)) js fun s76 h77=>(Sm al js h77 /\
    (App P t t (.slice s76.a s76.n s76.c) (.slice (some ⟨h.size,0,none⟩) 1 1) h77 fun s78 RH=>(App P t t (.slice s78.a s78.n s78.c) (.slice (aN out.a (Int.toNat (k:Int)) out.c n) (Int.toNat (out.n:Nat)-Int.toNat (k:Int)) (out.c-Int.toNat (k:Int))) RH fun s80 h81=>K s80 h81)))))))):=by
 have hlen:=hs.len 0 (s:=out) rfl hn;have OX:∀r∈O,r.length=n:=(hs.get (k:=0) rfl).2;have e0:aN out.a (Int.toNat 0) out.c n=out.a:=cp _ _ _;have Av:∀ {h':Heap},Rw h' n out O->Rw h' n (⟨aN out.a (Int.toNat 0) out.c n,Int.toNat (k:Int)-Int.toNat 0,out.c-Int.toNat 0⟩:Sl) (O.take k):=fun {h'} hr=>by
  rw[e0];exact hr.pre (i:=k) (c:=out.c-Int.toNat 0) (by omega)
 have QU:∀ {h':Heap},Rw h' n out O->Rw h' n (⟨aN out.a (Int.toNat (k:Int)) out.c n,Int.toNat (out.n:Nat)-Int.toNat (k:Int),out.c-Int.toNat (k:Int)⟩:Sl) (O.drop k):=fun {h'} hr=>by
  by_cases h0:k=out.n
  .rw[List.drop_eq_nil_of_le (by omega)];exact Rw.empty (by show Int.toNat (out.n:Nat)-Int.toNat (k:Int)=0;omega)
  .exact hr.from (i:=k) hlen.2.1 (by omega)
 have XV:(⟨aN out.a (Int.toNat 0) out.c n,Int.toNat (k:Int)-Int.toNat 0,out.c-Int.toNat 0⟩:Sl).a=none->(⟨aN out.a (Int.toNat 0) out.c n,Int.toNat (k:Int)-Int.toNat 0,out.c-Int.toNat 0⟩:Sl).n=0/\(⟨aN out.a (Int.toNat 0) out.c n,Int.toNat (k:Int)-Int.toNat 0,out.c-Int.toNat 0⟩:Sl).c=0:=fun hq=>by
  have hq:aN out.a (Int.toNat 0) out.c n=none:=hq;rw[e0] at hq;have:=hlen.2.2 hq;exact⟨by show Int.toNat (k:Int)-Int.toNat 0=0;omega,by show out.c-Int.toNat 0=0;omega⟩
 have hns:(⟨aN out.a (Int.toNat (k:Int)) out.c n,Int.toNat (out.n:Nat)-Int.toNat (k:Int),out.c-Int.toNat (k:Int)⟩:Sl).a=none->(⟨aN out.a (Int.toNat (k:Int)) out.c n,Int.toNat (out.n:Nat)-Int.toNat (k:Int),out.c-Int.toNat (k:Int)⟩:Sl).n=0/\(⟨aN out.a (Int.toNat (k:Int)) out.c n,Int.toNat (out.n:Nat)-Int.toNat (k:Int),out.c-Int.toNat (k:Int)⟩:Sl).c=0:=fun hq=>DN hlen.2.2 hq;obtain⟨o1,o2⟩:=JN K7 k;have hmul:∀m,m<=16777217->m*bytes<=140737488355328:=fun m hm=>iX (Nat.mul_le_mul hm hb) (by decide);have r1:∀r∈O.take k,r.length=n:=fun r hr=>OX r (List.mem_of_mem_take hr);have r2:∀r∈O.drop k,r.length=n:=fun r hr=>OX r (List.mem_of_mem_drop hr);have r3:∀r∈[x],r.length=n:=fun r hr=>by rw[Ye.1 hr];exact hx
 have h1x:([x]:List (List Value)).flatten.all eF=true:=by rw[List.flatten_singleton];exact MN
 refine⟨fun sn e57=>?_,fun IG e74=>?_⟩
 .have dA:=hs.ao (K:=fun h2=>St h0 h2 (.af h.size [] e :: .sl out e n O::L)) (fun _ hs=>hs) sn e57;have bQ:=dA.dz 0 n [] rfl (by simp) rfl (by decide);refine⟨bB hs dA ha,?_,?_⟩
  .refine bQ.gB 0 (rows:=[]) (news:=O.take k) rfl hT (y:=⟨aN out.a (Int.toNat 0) out.c n,Int.toNat (k:Int)-Int.toNat 0,out.c-Int.toNat 0⟩) (Av (bQ.rw 1 rfl hn)) r1 XV o1 (hmul _ (by show 0+(Int.toNat (k:Int)-Int.toNat 0)<=_;omega)) (by show 0+(Int.toNat (k:Int)-Int.toNat 0)<=_;simp only[maxLen];omega) fun KR uT n58 eO=>⟨bB dA eO ha,?_⟩;replace n58:KR.n=k:=by rw[n58];show 0+(Int.toNat (k:Int)-Int.toNat 0)=k;omega
   refine eO.app 0 rfl hT (m:=1) [x] (by simp) rfl r3 h1x (hmul _ (by omega)) (by simp only[maxLen];omega) fun F9 Cz n61 gN=>?_;refine gN.gB 0 (rows:=[]++O.take k++[x]) (news:=O.drop k) rfl hT (y:=⟨aN out.a (Int.toNat (k:Int)) out.c n,Int.toNat (out.n:Nat)-Int.toNat (k:Int),out.c-Int.toNat (k:Int)⟩) (QU (gN.rw 1 rfl hn)) r2 hns o2 (hmul _ (by show F9.n+(Int.toNat (out.n:Nat)-Int.toNat (k:Int))<=_;omega)) (by show F9.n+(Int.toNat (out.n:Nat)-Int.toNat (k:Int))<=_;simp only[maxLen];omega) fun s63 tw n63 Aq=>hK _ _ ?_;exact Aq.sub (.cons_cons _ (.cons _ (List.Sublist.refl _)))
  .intro Cy e66;have eO:=bQ.ao (K:=fun h2=>St h0 h2 (.af sn.size x e :: .sl ⟨some ⟨h.size,0,none⟩,0,0⟩ e n [] :: .sl out e n O::L)) (fun _ hs=>hs) Cy e66;refine eO.gB 1 (rows:=[]) (news:=O.take k) rfl hT (y:=⟨aN out.a (Int.toNat 0) out.c n,Int.toNat (k:Int)-Int.toNat 0,out.c-Int.toNat 0⟩) (Av (eO.rw 2 rfl hn)) r1 XV o1 (hmul _ (by show 0+(Int.toNat (k:Int)-Int.toNat 0)<=_;omega)) (by show 0+(Int.toNat (k:Int)-Int.toNat 0)<=_;simp only[maxLen];omega) fun KR uT n58 gN=>⟨bB eO gN ha,?_⟩;replace n58:KR.n=k:=by rw[n58];show 0+(Int.toNat (k:Int)-Int.toNat 0)=k;omega
   refine gN.appended 1 (rows:=[]++O.take k) rfl hT (m:=1) (news:=[x]) (by rw[List.flatten_singleton];exact gN.at 0 rfl (o:=0) (n:=x.length) (by simp)) rfl r3 h1x (hmul _ (by omega)) (by simp only[maxLen];omega) fun F9 Cz n61 Aq=>?_;refine Aq.gB 1 (rows:=[]++O.take k++[x]) (news:=O.drop k) rfl hT (y:=⟨aN out.a (Int.toNat (k:Int)) out.c n,Int.toNat (out.n:Nat)-Int.toNat (k:Int),out.c-Int.toNat (k:Int)⟩) (QU (Aq.rw 2 rfl hn)) r2 hns o2 (hmul _ (by show F9.n+(Int.toNat (out.n:Nat)-Int.toNat (k:Int))<=_;omega)) (by show F9.n+(Int.toNat (out.n:Nat)-Int.toNat (k:Int))<=_;simp only[maxLen];omega) fun s63 tw n63 hs6=>hK _ _ ?_;exact hs6.sub (.cons _ (.cons_cons _ (.cons _ (List.Sublist.refl _))))
 .intro js e75;have dA:=hs.ao (K:=fun h2=>St h0 h2 (.af h.size x e :: .sl out e n O::L)) (fun _ hs=>hs) IG e74;have bQ:=dA.ao (K:=fun h2=>St h0 h2 (.af IG.size [] e :: .af h.size x e :: .sl out e n O::L)) (fun _ hs=>hs) js e75;have eO:=bQ.dz 0 n [] rfl (by simp) rfl (by decide);refine⟨bB dA bQ ha,?_⟩;refine eO.gB 0 (rows:=[]) (news:=O.take k) rfl hT (y:=⟨aN out.a (Int.toNat 0) out.c n,Int.toNat (k:Int)-Int.toNat 0,out.c-Int.toNat 0⟩) (Av (eO.rw 2 rfl hn)) r1 XV o1 (hmul _ (by show 0+(Int.toNat (k:Int)-Int.toNat 0)<=_;omega)) (by show 0+(Int.toNat (k:Int)-Int.toNat 0)<=_;simp only[maxLen];omega) fun KR uT n58 gN=>⟨bB bQ gN ha,?_⟩;replace n58:KR.n=k:=by rw[n58];show 0+(Int.toNat (k:Int)-Int.toNat 0)=k;omega
  refine gN.appended 0 (rows:=[]++O.take k) rfl hT (m:=1) (news:=[x]) (by rw[List.flatten_singleton];exact gN.at 1 rfl (o:=0) (n:=x.length) (by simp)) rfl r3 h1x (hmul _ (by omega)) (by simp only[maxLen];omega) fun F9 Cz n61 Aq=>?_;refine Aq.gB 0 (rows:=[]++O.take k++[x]) (news:=O.drop k) rfl hT (y:=⟨aN out.a (Int.toNat (k:Int)) out.c n,Int.toNat (out.n:Nat)-Int.toNat (k:Int),out.c-Int.toNat (k:Int)⟩) (QU (Aq.rw 2 rfl hn)) r2 hns o2 (hmul _ (by show F9.n+(Int.toNat (out.n:Nat)-Int.toNat (k:Int))<=_;omega)) (by show F9.n+(Int.toNat (out.n:Nat)-Int.toNat (k:Int))<=_;simp only[maxLen];omega) fun s63 tw n63 hs6=>hK _ _ ?_;exact hs6.sub (.cons_cons _ (.cons _ (.cons _ (List.Sublist.refl _))))
theorem MC(x y:Ac)(h:Heap):Fn Pz 286 #[.agg ⟨x.cs⟩,.agg ⟨y.cs⟩] h fun v h'=>v=.bool (decide (acLt x y))/\Ext h h':=by
 apply U2 x.a x.b x.l y.a y.b y.l;unfold aah;refine (St.refl h).ao fun h7 hs=>?_;refine hs.ao fun h8 hs=>?_;refine⟨_,hs.rd 1 rfl (i:=0) rfl,_,hs.rd 0 rfl (i:=0) rfl,dY (fun c=>?_) (fun c=>?_)⟩
 .refine⟨_,hs.rd 1 rfl (i:=0) rfl,_,hs.rd 0 rfl (i:=0) rfl,?_,hs.ext⟩;congr 1;rw[decide_eq_decide];unfold acLt;omega
 .refine⟨_,hs.rd 1 rfl (i:=1) rfl,_,hs.rd 0 rfl (i:=1) rfl,dY (fun c2=>?_) (fun c2=>?_)⟩
  .refine⟨_,hs.rd 1 rfl (i:=1) rfl,_,hs.rd 0 rfl (i:=1) rfl,?_,hs.ext⟩;congr 1;rw[decide_eq_decide];unfold acLt;omega
  .refine⟨_,hs.rd 1 rfl (i:=2) rfl,_,hs.rd 0 rfl (i:=2) rfl,?_,hs.ext⟩;congr 1;rw[decide_eq_decide];unfold acLt;omega
theorem Hg{α:Type}{R:α->α->Prop}(tr:∀a b c,R a b->R b c->R a c){O:List α}{x:α}{k:Nat}(hO:O.Pairwise R)(h1:∀j a,j<k->O[j]?=some a->R a x)(h2:∀a,O[k]?=some a->R x a):(O.take k++[x]++O.drop k).Pairwise R:=by
 have ht:∀a∈O.take k,R a x:=fun a ha=>by
  obtain⟨j,hj⟩:=Yf.1 ha;rw[rO] at hj;split at hj
  .rename_i YA;exact h1 j a YA hj
  .cases hj
 have hd:∀a∈O.drop k,R x a:=fun a ha=>by
  obtain⟨j,hj⟩:=Yf.1 ha;rw[List.getElem?_drop] at hj;cases j with
  | zero=>exact h2 a hj
  | succ j=>
   have hl:=(Ya.1 hj).1;obtain⟨b,hb⟩:=get_some (l:=O) (i:=k) (by omega);have h3:=List.pairwise_iff_getElem.1 hO k (k+(j+1)) (by omega) hl (by omega);rw[(Ya.1 hj).2,(Ya.1 hb).2] at h3;exact tr _ _ _ (h2 b hb) h3
 have hs:(O.take k++O.drop k).Pairwise R:=by rw[List.take_append_drop];exact hO
 obtain⟨s1,s2,s3⟩:=List.pairwise_append.1 hs;refine List.pairwise_append.2 ⟨List.pairwise_append.2 ⟨s1,List.pairwise_singleton _ _,fun a ha b hb=>?_⟩,s2,fun a ha b hb=>?_⟩
 .rw[Ye] at hb;rw[hb];exact ht a ha
 .rcases Yk.1 ha with ha | ha
  .exact s3 a ha b hb
  .rw[Ye] at ha;rw[ha];exact hd b hb
theorem Mu{α:Type}{O:List α}{x z:α}{k:Nat}:z∈O.take k++[x]++O.drop k ↔ z=x\/z∈O:=by
 rw[Yk,Yk,Ye];have:z∈O ↔ z∈O.take k\/z∈O.drop k:=by rw[<-Yk,List.take_append_drop]
 rw[this];constructor
 .rintro ((h | h) | h)
  .exact .inr (.inl h)
  .exact .inl h
  .exact .inr (.inr h)
 .rintro (h | h | h)
  .exact .inl (.inr h)
  .exact .inl (.inl h)
  .exact .inr h
structure SrO (es:List Ed) (s:Int) (i:Nat) (O:List Nat):Prop where
 p:(O.map (eA es)).Pairwise fun a b=>acLt a.act b.act
 m:∀j,j∈O ↔ j∈(av es s).take i
 l:O.length=i
theorem HD(O:List Nat)(x k:Nat):(aJ (O.take k++[x]++O.drop k)).map aM=((aJ O).map aM).take k++[[.int .i64 (x:Int)]]++((aJ O).map aM).drop k:=by
 unfold aJ;rw[Ym,Ym,Ym,Ym,List.map_take,List.map_take,List.map_drop,List.map_drop];rfl
theorem DS(g:Gl)(s:Nat)(h:Heap)(hg:GI h g)(hV:ah g):Fn Pz 240 #[g.v,.int .i64 (s:Nat)] h fun v h'=>∃(r:Sl) (O:List Nat),v=.slice r.a r.n r.c/\St h h' [.sl r 3 1 ((aJ O).map aM)]/\O.map (eA g.es)=gE g.es s/\(∀j∈O,j<g.es.length):=by
 apply Vi (bs g.nm) g.hr g.hd g.n g.s g.e g.he g.ht (s:Nat);unfold aax Kq Dv;have hM:=hV.num.m;have nI:=hg.e.ln;refine (St.refl h).ao fun h9 hs=>?_;refine⟨_,_,_,_,_,_,_,_,hs.at 0 rfl (o:=0) (n:=8) rfl,?_⟩;refine (Bx g s h9 (hg.ext hs.ext)).mono ?_;rintro _ az ⟨E,r,rfl,hr⟩;have mN:=hs.step E;have h6:hc az ⟨h.size,6,none⟩=some (.slice g.he.a g.he.n g.he.c):=mN.rd 0 rfl (i:=6) rfl;have M6:=hg.ext mN.ext;have l8:=hr.ln;have xy:=ef g.es s;have EW:(av g.es (s:Nat)).Nodup:=by unfold av;exact List.Nodup.sublist List.filter_sublist List.nodup_range
 rw[show (aJ (av g.es s)).length=(av g.es s).length from Yc _] at l8;refine⟨r,rfl,?_⟩;have hs:=(St.refl az).cn 3 1;refine⟨fun out x h' μ=>∃(i:Nat) (O:List Nat),x=i/\μ=r.n-i/\i<=r.n/\St az h' [.sl out 3 1 ((aJ O).map aM)]/\SrO g.es s i O,⟨_,0,[],rfl,rfl,Nat.zero_le _,hs,.nil,fun j=>by rw[iY],rfl⟩,?_⟩;clear hs;rintro-out _ Fl μ ⟨i,O,rfl,rfl,hi,hs,hO⟩;have MZ:=hs.len 0 (s:=out) (e:=3) (n:=1) rfl (by decide);have Pe:=hO.l;rw[Yc,show (aJ O).length=O.length from Yc _] at MZ;refine aQ (fun c=>?_) (fun c=>?_)
 .obtain⟨a,ga⟩:=get_some (l:=av g.es s) (i:=i) (by omega);have gI:(aJ (av g.es s))[i]?=some (a:Int):=by unfold aJ;rw[Yd,ga];rfl
  obtain⟨ea,YQ,YN⟩:=ay.1 (Yb ga);have hal:=(Ya.1 YQ).1;refine aD (n:=out.n) hs (fun k=>∀j b,j<k->O[j]?=some b->acLt (eA g.es b).act ea.act) (fun j b hj=>by omega) ?_;rintro-k xH hk ⟨hs,bt⟩;have fin:∀ {h':Heap},St az h' [.sl out 3 1 ((aJ O).map aM)]->(∀b,O[k]?=some b->acLt ea.act (eA g.es b).act) ->
    ∀r' Nk,St az Nk [.sl r' 3 1 (((aJ O).map aM).take k++[[.int .i64 (a:Int)]]++((aJ O).map aM).drop k)]->∃m',m'<r.n-i/\∃(i':Nat) (O:List Nat),IntKind.wrap .i64 ((i:Int)+1)=i'/\m'=r.n-i'/\i'<=r.n/\St az Nk [.sl r' 3 1 ((aJ O).map aM)]/\SrO g.es s i' O:=fun {h'} _ Iu r' Nk Q3=>by
   refine⟨_,(show r.n-(i+1)<r.n-i by omega),i+1,O.take k++[a]++O.drop k,by rw[bd (by omega) (by omega)];omega,rfl,by omega,by rw[HD];exact Q3,?_,fun j=>?_,?_⟩
   .rw[Ym,Ym,List.map_take,List.map_drop];refine Hg (R:=fun a b:Ed=>acLt a.act b.act) (fun a b c=>pZ) hO.p (fun j b hj hb=>?_) fun b hb=>?_
    .rw[Yd] at hb;obtain⟨c,rL,rfl⟩:=rP.1 hb;rw[aI YQ];exact bt j c hj rL
    .rw[Yd] at hb;obtain⟨c,rL,rfl⟩:=rP.1 hb;rw[aI YQ];exact Iu c rL
   .rw[Mu,hO.m,ae ga,Yk,Ye];exact Or.comm
   .rw[Yh,Yh,Yu,List.length_drop,Yv];omega
  have Fi:∀ {b o:Nat},aY az ⟨b,o+Int.toNat (i:Int)*1,none⟩ (aM (a:Int))->b<az.size:=fun {b o} t=>iz (t.nth 0 rfl);have load:∀ {h':Heap} {K:Nat->Nat->Prop},Ext az h'->(∀b o,b<az.size->aY h' ⟨b,o+Int.toNat (i:Int)*1,none⟩ (aM (a:Int))->K b o)->NB r.a fun b o=>(0<=(i:Int)/\(i:Int)<(r.n:Nat))/\K b o:=fun {h' K} E' hK=>by
   refine hr.ax (by omega) (by omega) fun b o d gd t=>?_;replace gd:(aJ (av g.es s))[i]?=some d:=gd;rw[gI] at gd;cases gd;exact hK b o (Fi t) (mF E' t)
  have K7:((aJ O).map aM).flatten.all eF=true:=gY (fun _=>rfl) _;have Nd:((aJ O).map aM).length=O.length:=by rw[Yc];exact Yc _
  refine aQ (fun c2=>?_) (fun c2=>?_)
  .obtain⟨b,gb⟩:=get_some (l:=O) (i:=k) (by omega);have hbm:=List.mem_of_mem_take ((hO.m b).1 (Yb gb));obtain⟨eb,YP,hbf⟩:=ay.1 hbm;have yW:=(Ya.1 YP).1;refine⟨g.he,aw hs.ext h6,?_⟩;refine (hs.rows 0 (s:=out) (cs:=aM) (l:=aJ O) rfl (by decide)).ax (by omega) (by omega) fun b33 o34 d gd t=>?_;have gbI:(aJ O)[k]?=some (b:Int):=by unfold aJ;rw[Yd,gb];rfl
   replace gd:(aJ O)[k]?=some d:=gd;rw[gbI] at gd;cases gd;refine⟨_,t.nth 0 rfl,?_⟩;refine ((M6.ext hs.ext).e.rw).ax (by omega) (by omega) fun b36 o37 d gd t=>?_;replace gd:g.es[b]?=some d:=gd;rw[YP] at gd;cases gd;refine⟨eb.a,eb.b,eb.l,t.sub 1 3 rfl,g.he,aw hs.ext h6,?_⟩;refine load hs.ext fun b42 o43 ahW t2=>⟨_,t2.nth 0 rfl,?_⟩;refine ((M6.ext hs.ext).e.rw).ax (by omega) (by omega) fun b45 o46 d gd t=>?_;replace gd:g.es[a]?=some d:=gd;rw[YQ] at gd;cases gd;refine⟨ea.a,ea.b,ea.l,t.sub 1 3 rfl,?_⟩;refine (MC eb.act ea.act xH).mono ?_;rintro _ vM ⟨rfl,E3⟩;refine⟨_,rfl,aa (fun c3=>?_) (fun c3=>?_)⟩
   .refine Up.next (by omega) (by omega) ⟨hs.step E3,fun j z hj hz=>?_⟩;by_cases e:j=k
    .subst e;rw[gb] at hz;cases hz;rw[aI YP];exact cd c3
    .exact bt j z (by omega) hz
   .have hs:=hs.step E3;refine⟨⟨by omega,by omega,by omega⟩,load hs.ext fun ZY Xj Ry t3=>⟨_,t3.nth 0 rfl,⟨by omega,by omega,by omega⟩,?_⟩⟩;refine ML dt hs (by rw[Nd];omega) rfl K7 rfl (by decide) (by decide) (by rw[Nd];omega) (fun z hz=>by rw[Ye] at hz;rw[hz];exact Ry) (fin hs fun z hz=>?_);rw[gb] at hz;cases hz;rw[aI YP];refine rD (fun e9=>?_) (eI c3);unfold Ed.act at e9;simp only[Ac.mk.injEq] at e9;have kj:a=b:=G8 hV YQ YP (by rw[YN,hbf]) e9.2.1 e9.2.2;subst kj;obtain⟨j,hj⟩:=Yf.1 ((hO.m a).1 (Yb gb));rw[rO] at hj;split at hj
    .have:=fH EW hj ga;omega
    .cases hj
  .have hs:=hs;refine⟨⟨by omega,by omega,by omega⟩,load hs.ext fun ZY Xj Ry t3=>⟨_,t3.nth 0 rfl,⟨by omega,by omega,by omega⟩,?_⟩⟩;refine ML dt hs (by rw[Nd];omega) rfl K7 rfl (by decide) (by decide) (by rw[Nd];omega) (fun z hz=>by rw[Ye] at hz;rw[hz];exact Ry) (fin hs fun z hz=>?_);have:=(Ya.1 hz).1;omega
 .have mc:i=(av g.es s).length:=by omega
  subst mc;have hOm:∀j,j∈O ↔ j∈av g.es (s:Nat):=fun j=>by rw[hO.m,vV]
  refine⟨out,O,rfl,(mN.drop 1).join hs,?_,fun j hj=>?_⟩
  .refine fY (R:=fun a b:Ed=>acLt a.act b.act) (fun a=>yy _) (fun a b c=>pZ) _ _ hO.p (jc (rA hV s)) fun x=>?_;unfold gE;rw[lB,Yp,List.mem_filter,decide_eq_true_eq];constructor
   .rintro⟨j,hj,rfl⟩;exact Ji ((hOm j).1 hj)
   .rintro⟨h1,h2⟩;obtain⟨j,hj⟩:=Yf.1 h1;exact⟨j,(hOm j).2 (ay.2 ⟨x,hj,h2⟩),aI hj⟩
  .obtain⟨x,hx,_⟩:=ay.1 ((hOm j).1 hj);exact (Ya.1 hx).1
theorem SV:cu Pz 327 330 3 40=true:=by kernel_rfl
theorem SS:cu Pz 366 365 4 48=true:=by kernel_rfl
theorem AU:∀b:Fin 64,∀x:Fin 8,((mH .i64 (lF .i64 (b.val:Int) (x.val:Int)) 1==1)=b.val.testBit x.val)/\((mH .i64 (lF .i64 (b.val:Int) (x.val:Int)) 1==0)=!b.val.testBit x.val)/\zy .i64 (b.val:Int) (dW .i64 1 (x.val:Int))=((b.val|||2^x.val:Nat):Int)/\(b.val.testBit x.val=true->b.val|||2^x.val=b.val):=by
 decide +kernel
theorem Xb:∀x:Fin 8,dW .i64 1 (x.val:Int)=((2^x.val:Nat):Int):=by decide +kernel
theorem Ht{a b:Nat}(ha:a<2^62)(hb:b<2^62):zy .i64 (a:Int) (b:Int)=((a|||b:Nat):Int):=by
 unfold zy;have e:(BitVec.ofInt (IntKind.bits .i64) (a:Int)|||BitVec.ofInt (IntKind.bits .i64) (b:Int)).toNat=a|||b:=by
  show (BitVec.ofInt 64 (a:Int)|||BitVec.ofInt 64 (b:Int)).toNat=_;rw[BitVec.ofInt_natCast,BitVec.ofInt_natCast,BitVec.toNat_or,BitVec.toNat_ofNat,BitVec.toNat_ofNat,Nat.mod_eq_of_lt (Nat.lt_trans ha (by decide)),Nat.mod_eq_of_lt (Nat.lt_trans hb (by decide))]
 rw[e];have:=Nat.or_lt_two_pow ha hb;exact bd (by omega) (by omega)
theorem Xc{a:Nat}(ha:a<1099511627776):dW .i64 (a:Int) 6=((64*a:Nat):Int):=by
 show IntKind.wrap .i64 ((a:Int)*2^6)=_;rw[show ((2:Int)^6)=64 from rfl,bd (by omega) (by omega)];omega
theorem Oq{a:Nat}(ha:a<1099511627):dW .i64 (a:Int) 12=((a*4096:Nat):Int):=by
 show IntKind.wrap .i64 ((a:Int)*2^12)=_;rw[show ((2:Int)^12)=4096 from rfl,bd (by omega) (by omega)];omega
def iQ(p:eH):Nat:=64*(64*p.s+p.b)+p.d
theorem Ho{p q:eH}(h1:p.b<64)(h2:p.d<64)(h3:q.b<64)(h4:q.d<64)(e:iQ p=iQ q):p=q:=by
 obtain⟨a,b,c⟩:=p;obtain⟨a',b',c'⟩:=q;unfold iQ at e;simp only at *;congr 1<;>omega
theorem xg(p:eH)(s:Sl)(h:Heap)(h1:p.s<1048576)(h2:p.b<64)(h3:p.d<64):Fn Pz 239 #[.agg ⟨[.int .i64 (p.s:Nat),.int .i64 (p.b:Nat),.int .i64 (p.d:Nat),.slice s.a s.n s.c]⟩] h fun v h'=>v=.int .i64 (iQ p:Nat)/\Ext h h':=by
 apply Vj (p.s:Nat) (p.b:Nat) (p.d:Nat) s;unfold aay;refine (St.refl h).ao fun h5 hs=>?_;refine⟨_,hs.rd 0 rfl (i:=0) rfl,by decide,_,hs.rd 0 rfl (i:=1) rfl,by decide,_,hs.rd 0 rfl (i:=2) rfl,?_,hs.ext⟩;have e1:64*p.s|||p.b=64*p.s+p.b:=(Nat.two_pow_add_eq_or_of_lt (i:=6) h2 p.s).symm
 have e2:64*(64*p.s+p.b)|||p.d=64*(64*p.s+p.b)+p.d:=(Nat.two_pow_add_eq_or_of_lt (i:=6) h3 (64*p.s+p.b)).symm
 rw[Xc (by omega),Ht (by omega) (by omega),e1,Xc (by omega),Ht (by omega) (by omega),e2];rfl
theorem St.sS{h0 h h2:Heap}{L:List It}{xs:List Value}{e:TypeId}(hs:St h0 h L)(e2:h2=h.push (.cells ⟨xs⟩ e)):St h0 h2 (.af h.size xs e::L):=hs.ao (K:=fun h2=>St h0 h2 (.af h.size xs e::L)) (fun _ h=>h) h2 e2
theorem St.Hl{h0 h h2:Heap}{L:List It}{e:TypeId}(hs:St h0 h L)(n:Nat)(e2:h2=h.push (.cells ⟨[]⟩ e)):St h0 h2 (.sl ⟨some ⟨h.size,0,none⟩,0,0⟩ e n []::L):=(hs.sS e2).dz 0 n [] rfl (by simp) rfl (by decide)
theorem bc{n:Nat}:∀a∈([]:List Addr),a.block<n:=fun _ h=>by cases h
theorem aK{n b o:Nat}{l:List Addr}(h:b<n)(hl:∀a∈l,a.block<n):∀a∈(⟨b,o,none⟩:Addr)::l,a.block<n:=fun a ha=>by
 rcases Yr.1 ha with rfl | ha
 .exact h
 .exact hl a ha
theorem Me{h0 h:Heap}{L:List It}(hs:St h0 h L)(k:Nat){out:Sl}{F:List FS}(hk:L[k]?=some (.sl out 330 3 (F.map dK)))(m:Ms)(s:Sl)(path:List Ac)(hF:F.length<=1048576):
  Fn Pz 241 #[.slice out.a out.n out.c,.agg ⟨[.int .i64 m.p,.int .i64 m.l,.slice s.a s.n s.c]⟩] h fun v h'=>∃(r:Sl) (F':List FS),v=.slice r.a r.n r.c/\St h0 h' (L.set k (.sl r 330 3 (F'.map dK)))/\((∃y∈F,y.1.m=m)/\F'=F\/(¬∃y∈F,y.1.m=m)/\F'=F++[(⟨m,path⟩,s)]):=by
 apply Vh out m.p m.l s;unfold aaw;refine hs.ao fun h4 gN=>?_;have hk4:(It.af h.size [.int .i64 m.p,.int .i64 m.l,.slice s.a s.n s.c] 330::L)[k+1]?=some (.sl out 330 3 (F.map dK)):=by rw[List.getElem?_cons_succ];exact hk
 have iy:Rw h4 3 out (F.map dK):=gN.rows (k+1) hk4 (by decide);have hn:=iy.ln;have cN:(It.af h.size [.int .i64 m.p,.int .i64 m.l,.slice s.a s.n s.c] 330::L).set (k+1) (.sl out 330 3 (F.map dK))=It.af h.size [.int .i64 m.p,.int .i64 m.l,.slice s.a s.n s.c] 330::L.set k (.sl out 330 3 (F.map dK)):=rfl;have hLk:L.set k (.sl out 330 3 (F.map dK))=L:=by
  apply y4;intro i;by_cases e:k=i
  .subst e;rw[Yq (Ya.1 hk).1,hk]
  .rw[Yy e]
 refine aD (n:=out.n) gN (fun i=>∀(j:Nat) y,j<i->F[j]?=some y->y.1.m≠m) (fun j y hj=>by omega) ?_;clear gN;rintro-i h9 hi ⟨gN,bM⟩;refine aQ (fun c=>?_) (fun c=>?_)
 .have iy:Rw h9 3 out (F.map dK):=gN.rows (k+1) hk4 (by decide);refine iy.ax (by omega) (by omega) fun b o f gf t=>?_;replace gf:F[i]?=some f:=gf;refine⟨_,_,t.DP 2 rfl,_,_,gN.at 0 rfl (o:=0) (n:=2) rfl,?_⟩;have e1:=Aa f.1.m m;refine aa (fun c2=>?_) (fun c2=>?_)
  .have e2:f.1.m=m:=cd (e1.symm.trans c2);exact⟨out,F,rfl,by rw[hLk];exact gN.drop 1,.inl ⟨⟨f,Yb gf,e2⟩,rfl⟩⟩
  .have e2:f.1.m≠m:=eI (e1.symm.trans c2);refine Up.next (by omega) (by omega) ⟨gN,fun j y hj hy=>?_⟩;by_cases e:j=i
   .subst e;rw[gf] at hy;cases hy;exact e2
   .exact bM j y (by omega) hy
 .have aet:¬∃y∈F,y.1.m=m:=fun ⟨y,hy,e⟩=>by
   obtain⟨j,hj⟩:=Yf.1 hy;have:=(Ya.1 hj).1;exact bM j y (by omega) hj e
  refine⟨_,_,s,gN.at 0 rfl (o:=0) (n:=3) rfl,?_⟩;refine gN.app (k+1) hk4 SV (m:=1) [dK ((⟨m,path⟩,s):FS)] rfl rfl (fun r hr=>by rw[Ye] at hr;rw[hr];rfl) rfl (by omega) (by simp only[maxLen];omega) fun r cR nr Aq=>?_;refine⟨r,F++[(⟨m,path⟩,s)],rfl,?_,.inr ⟨aet,rfl⟩⟩;rw[Ym];exact Aq.drop 1
abbrev vW:=eH × (Sl × List Ac)
def qC(q:vW):List Value:=[.int .i64 (q.1.s:Nat),.int .i64 (q.1.b:Nat),.int .i64 (q.1.d:Nat),.slice q.2.1.a q.2.1.n q.2.1.c]
def vZ(q:vW):nT:=(q.1,q.2.2)
def PQ:List Value:=[.int .i64 0,.int .i64 0,.int .i64 0,.slice none 0 0]
theorem WX{nL jO gJ:Heap}{NO OC:Nat}{i:Int}{Py Qh PA Qi:Nat}{ps:Sl}{act:Ac}{path:List Ac}{PR nW yL:Int}{out l:Sl}{tX PS:Int}{KS:Nat}{I:Sl->Sl->Int->Heap->Nat->Prop}{k:Int}
  (Fj:aY nL ⟨jO.size,1,none⟩ act.cs) (hp:RL nL 3 ps Ac.cs path) (h1:jO.size<nL.size) (h2:NO<nL.size) (h3:Py<nL.size) (h4:PA<nL.size)
  (ka:∀ {hX hB:Heap} {s:Sl} {R:List It},St nL hX (.sl s 65 3 ((path++[act]).map Ac.cs) :: .af hB.size PQ 365::R)->yC hX hB PR nW yL s jO out tX PS gJ l KS I k) :
  Kv nL jO NO OC i Py Qh PA Qi ps PR nW yL out tX PS gJ l KS I k:=by
 have rK:=hp.sm;have xv:=hp.ln;have D:∀ {Bs:Sl} {jN hP nb:Heap} {R:List It},St nL hP (.sl Bs 65 3 (path.map Ac.cs) :: .af jN.size act.cs 65 :: .af nb.size PQ 365::R)->tU Bs jN hP Py Qh i PA Qi jO nb PR nW yL out tX PS gJ l KS I k:=fun {Bs jN hP nb R} hs=>by
  unfold tU;have hl:=(hs.len 0 (s:=Bs) rfl (by decide)).1;rw[Yc] at hl;refine hs.appended 0 (rows:=path.map Ac.cs) rfl mG (m:=1) (news:=[act.cs]) (by rw[List.flatten_singleton];exact hs.at 1 rfl (o:=0) (n:=3) rfl) rfl (fun r hr=>by rw[Ye.1 hr];rfl) rfl (by omega) (by simp only[maxLen];omega) fun ahg afq n cj=>⟨bB hs cj (by repeat (first | exact bc | refine aK (by assumption) ?_)),ka (R:=.af jN.size act.cs 65::R) ?_⟩;rw[Ym];exact cj.perm (.cons _ (List.Perm.swap _ _ _))
 have E:∀ {Bs:Sl} {jN hP:Heap} {R:List It},St nL hP (.sl Bs 65 3 (path.map Ac.cs) :: .af jN.size act.cs 65::R)->Dy Bs jN hP Py Qh i PA Qi jO NO OC PR nW yL out tX PS gJ l KS I k:=fun {Bs jN hP R} hs=>by
  unfold Dy;have hl:=(hs.len 0 (s:=Bs) rfl (by decide)).1;rw[Yc] at hl;refine hs.appended 0 (rows:=path.map Ac.cs) rfl mG (m:=1) (news:=[act.cs]) (by rw[List.flatten_singleton];exact hs.at 1 rfl (o:=0) (n:=3) rfl) rfl (fun r hr=>by rw[Ye.1 hr];rfl) rfl (by omega) (by simp only[maxLen];omega) fun s88 h89 n cj=>⟨bB hs cj (by repeat (first | exact bc | refine aK (by assumption) ?_)),fun vL e90=>?_⟩;have bQ:=cj.sS e90;refine⟨bB cj bQ (by repeat (first | exact bc | refine aK (by assumption) ?_)),ka (R:=.af jN.size act.cs 65::R) ?_⟩;rw[Ym];exact bQ.perm (List.Perm.swap _ _ _)
 have F:∀ {Bs:Sl} {jN hP:Heap} {R:List It},St nL hP (.sl Bs 65 3 (path.map Ac.cs) :: .af jN.size PQ 365::R)->yB hP act.a act.b act.l NO OC i Py Qh PA Qi jO Bs jN PR nW yL out tX PS gJ l KS I k:=fun {Bs jN hP R} hs=>by
  unfold yB;intro aiG afW;have bQ:=hs.sS afW;exact⟨bB hs bQ (by repeat (first | exact bc | refine aK (by assumption) ?_)),D (bQ.perm (List.Perm.swap _ _ _))⟩
 have Il:∀r∈path.map Ac.cs,r.length=3:=fun r hr=>by obtain⟨x,_,rfl⟩:=Yp.1 hr;rfl
 have N:∀ {hn hP:Heap} {R:List It} {K:Sl->Heap->Prop},St nL hP (.sl ⟨some ⟨hn.size,0,none⟩,0,0⟩ 65 3 []::R)->(∀(s:Sl) (h':Heap),St nL h' (.sl s 65 3 (path.map Ac.cs)::R)->K s h')->App Pz 30 30 (.slice (some ⟨hn.size,0,none⟩) 0 0) (.slice ps.a ps.n ps.c) hP K:=fun {hn hP R K} hs hK=>
  hs.gB 0 (rows:=[]) (news:=path.map Ac.cs) rfl mG (y:=ps) (hp.rw.ext hs.ext) Il hp.nil (gY (fun _=>rfl) _) (by show (0+ps.n)*24<=_;omega) (by show 0+ps.n<=_;simp only[maxLen];omega) fun r h' _ cj=>hK r h' cj
 have B:∀ {hn hP hx EV:Heap} {R:List It},St nL hP (.sl ⟨some ⟨hn.size,0,none⟩,0,0⟩ 65 3 [] :: .af hx.size act.cs 65 :: .af EV.size PQ 365::R)->oT hn ps hP jO Py Qh i PA Qi hx EV PR nW yL out tX PS gJ l KS I k:=fun {hn hP hx EV R} hs=>by
  unfold oT;exact N hs fun s h' cj=>⟨bB hs cj (by repeat (first | exact bc | refine aK (by assumption) ?_)),D cj⟩
 have C:∀ {hn hP hx:Heap} {R:List It},St nL hP (.sl ⟨some ⟨hn.size,0,none⟩,0,0⟩ 65 3 [] :: .af hx.size act.cs 65::R)->Dz hn ps hP jO Py Qh i PA Qi hx NO OC PR nW yL out tX PS gJ l KS I k:=fun {hn hP hx R} hs=>by
  unfold Dz;refine N hs fun s h' cj=>⟨bB hs cj (by repeat (first | exact bc | refine aK (by assumption) ?_)),E cj,fun aiu afU=>?_⟩;have bQ:=cj.sS afU;refine⟨bB cj bQ (by repeat (first | exact bc | refine aK (by assumption) ?_)),D (R:=R) (bQ.perm ?_)⟩;exact (List.Perm.swap _ _ _).trans (.cons _ (List.Perm.swap _ _ _))
 have s0:=St.refl nL;unfold Kv;refine⟨act.a,act.b,act.l,Fj,fun Zb e84=>?_,fun aio afQ=>?_,fun aih afL=>?_⟩
 .have s1:=s0.Hl 3 e84;refine⟨bB s0 s1 (by repeat (first | exact bc | refine aK (by assumption) ?_)),?_,fun aiA afV=>?_,fun air afS=>?_⟩
  .refine N s1 fun Bs jN s2=>⟨bB s1 s2 (by repeat (first | exact bc | refine aK (by assumption) ?_)),fun yZ e87=>?_,fun aiH afX=>?_⟩
   .have s3:=s2.sS e87;refine⟨bB s2 s3 (by repeat (first | exact bc | refine aK (by assumption) ?_)),E (R:=[]) (s3.perm (List.Perm.swap _ _ _)),fun sx afY=>?_⟩;have s4:=s3.sS afY;refine⟨bB s3 s4 (by repeat (first | exact bc | refine aK (by assumption) ?_)),D (R:=[]) (s4.perm ?_)⟩;exact ((List.Perm.swap _ _ _).cons _).trans ((List.Perm.swap _ _ _).trans (.cons _ (List.Perm.swap _ _ _)))
   .have s3:=s2.sS afX;exact⟨bB s2 s3 (by repeat (first | exact bc | refine aK (by assumption) ?_)),F (R:=[]) (s3.perm (List.Perm.swap _ _ _))⟩
  .have s2:=s1.sS afV;refine⟨bB s1 s2 (by repeat (first | exact bc | refine aK (by assumption) ?_)),C (R:=[]) (s2.perm (List.Perm.swap _ _ _)),fun ais afT=>?_⟩;have s3:=s2.sS afT;refine⟨bB s2 s3 (by repeat (first | exact bc | refine aK (by assumption) ?_)),B (R:=[]) (s3.perm ?_)⟩;exact ((List.Perm.swap _ _ _).cons _).trans ((List.Perm.swap _ _ _).trans (.cons _ (List.Perm.swap _ _ _)))
  .have s2:=s1.sS afS;refine⟨bB s1 s2 (by repeat (first | exact bc | refine aK (by assumption) ?_)),?_,fun aiq afR=>?_⟩
   .exact N (s2.perm (List.Perm.swap _ _ _)) fun s h' s3=>⟨bB s2 s3 (by repeat (first | exact bc | refine aK (by assumption) ?_)),F (R:=[]) s3⟩
   .have s3:=s2.sS afR;refine⟨bB s2 s3 (by repeat (first | exact bc | refine aK (by assumption) ?_)),B (R:=[]) (s3.perm ?_)⟩;exact ((List.Perm.swap _ _ _).cons _).trans (List.Perm.swap _ _ _)
 .have s1:=s0.sS afQ;refine⟨bB s0 s1 (by repeat (first | exact bc | refine aK (by assumption) ?_)),fun ain afP=>?_,fun aik afN=>?_⟩
  .have s2:=s1.Hl 3 afP;refine⟨bB s1 s2 (by repeat (first | exact bc | refine aK (by assumption) ?_)),C (R:=[]) s2,fun aim afO=>?_⟩;have s3:=s2.sS afO;refine⟨bB s2 s3 (by repeat (first | exact bc | refine aK (by assumption) ?_)),B (R:=[]) (s3.perm ?_)⟩;exact (List.Perm.swap _ _ _).trans (.cons _ (List.Perm.swap _ _ _))
  .have s2:=s1.sS afN;refine⟨bB s1 s2 (by repeat (first | exact bc | refine aK (by assumption) ?_)),fun aij afM=>?_⟩;have s3:=s2.Hl 3 afM;exact⟨bB s2 s3 (by repeat (first | exact bc | refine aK (by assumption) ?_)),B (R:=[]) (s3.perm ((List.Perm.swap _ _ _).cons _))⟩
 .have s1:=s0.sS afL;refine⟨bB s0 s1 (by repeat (first | exact bc | refine aK (by assumption) ?_)),fun aif afK=>?_,fun aic afI=>?_⟩
  .have s2:=s1.Hl 3 afK;refine⟨bB s1 s2 (by repeat (first | exact bc | refine aK (by assumption) ?_)),?_,fun aie afJ=>?_⟩
   .exact N s2 fun s h' s3=>⟨bB s2 s3 (by repeat (first | exact bc | refine aK (by assumption) ?_)),F (R:=[]) s3⟩
   .have s3:=s2.sS afJ;exact⟨bB s2 s3 (by repeat (first | exact bc | refine aK (by assumption) ?_)),B (R:=[]) (s3.perm (List.Perm.swap _ _ _))⟩
  .have s2:=s1.sS afI;refine⟨bB s1 s2 (by repeat (first | exact bc | refine aK (by assumption) ?_)),fun aib afH=>?_⟩;have s3:=s2.Hl 3 afH;exact⟨bB s2 s3 (by repeat (first | exact bc | refine aK (by assumption) ?_)),B (R:=[]) s3⟩
structure Ba (g:Gl) (Q:List vW) (F:List FS) (BL:List Bool) (P:List (Sl × List Ac)):Prop where
 nd:(Q.map Prod.fst).Nodup
 ok:∀q∈Q,q.1.ok g.n.toNat
 pl:∀(i:Nat) (q:vW),Q[i]?=some q->q.2.2.length<=i
 ar:∀q∈Q,q.2∈P
 fr:∀f∈F,(f.2,f.1.path)∈P
 bl:BL=(List.range (g.n.toNat*4096)).map fun k=>decide (∃q∈Q,iQ q.1=k)
 fi:Be g (F.map Prod.fst)
theorem Ba.le{g:Gl}{Q:List vW}{F:List FS}{BL:List Bool}{P:List (Sl × List Ac)}(h:Ba g Q F BL P):Q.length<=g.n.toNat*4096:=by
 have:=Hn h.nd fun p hp=>by obtain⟨q,hq,rfl⟩:=Yp.1 hp;exact h.ok q hq
 rwa [Yc] at this
theorem pO{n:Nat}{p:eH}(h:p.ok n):iQ p<n*4096:=by
 obtain⟨h1,h2,h3⟩:=h;unfold iQ;omega
theorem Ba.seen{g:Gl}{Q:List vW}{F:List FS}{BL:List Bool}{P:List (Sl × List Ac)}(h:Ba g Q F BL P){p:eH}(hp:p.ok g.n.toNat):BL[iQ p]?=some (decide (p∈Q.map Prod.fst)):=by
 rw[h.bl,Yd,vk (pO hp)];show some _=_;congr 1;rw[decide_eq_decide,Yp];constructor
 .rintro⟨q,hq,e⟩;obtain⟨_,h2,h3⟩:=h.ok q hq;exact⟨q,hq,Ho h2 h3 hp.2.1 hp.2.2 e⟩
 .rintro⟨q,hq,e⟩;exact⟨q,hq,by rw[e]⟩
theorem Ba.agh{g:Gl}{Q:List vW}{F:List FS}{BL:List Bool}{P:List (Sl × List Ac)}(h:Ba g Q F BL P):BL.length=g.n.toNat*4096:=by rw[h.bl];simp
def wz(l out:Sl)(sb:Nat)(G:List It)(Q:List vW)(F:List FS)(BL:List Bool)(P:List (Sl × List Ac)):List It:=
 .sl l 365 4 (Q.map qC) :: .sl out 330 3 (F.map dK) :: .af sb (BL.map Value.bool) 4::(G++P.map (nest 65 3 Ac.cs))
theorem LV{α:Type}(A P R:List α)(s n:α):(A++P++(s::n::R)).Perm (n::(A++(s::P))++R):=by
 have h1:(A++P++(s::n::R)).Perm (n::s::(R++(A++P))):=List.perm_append_comm.trans (List.Perm.swap _ _ _);refine h1.trans (List.Perm.cons _ ?_);have h2:(s::(R++(A++P))).Perm (s::(A++P++R)):=.cons _ List.perm_append_comm;refine h2.trans ?_;have h3:=(List.perm_middle (a:=s) (l₁:=A) (l₂:=P++R)).symm;simpa using h3
theorem Ba.push{g:Gl}{Q:List vW}{F:List FS}{BL:List Bool}{P:List (Sl × List Ac)}(h:Ba g Q F BL P){hd:Nat}{q:vW}(hq:Q[hd]?=some q){nx:eH}(bM:nx∉Q.map Prod.fst)(oB:nx.ok g.n.toNat){s:Sl}{a:Ac}(hm:(s,q.2.2++[a])∈P):
  Ba g (Q++[(nx,(s,q.2.2++[a]))]) F (BL.set (iQ nx) true) P:=by
 have hl:=(Ya.1 hq).1;refine⟨?_,fun p hp=>?_,fun i p hp=>?_,fun p hp=>?_,h.fr,?_,h.fi⟩
 .rw[Ym,List.nodup_append];exact⟨h.nd,by simp,fun x hx y hy e=>by simp only[iM,List.map_nil,Ye] at hy;subst hy;subst e;exact bM hx⟩
 .rcases Yk.1 hp with hp | hp
  .exact h.ok p hp
  .rw[Ye] at hp;rw[hp];exact oB
 .rcases Nat.lt_or_ge i Q.length with h1 | h1
  .rw[lg h1] at hp;exact h.pl i p hp
  .rw[sz h1] at hp;have h2:=(Ya.1 hp).1;rw[Yv] at h2;have h3:i-Q.length=0:=by omega
   rw[h3] at hp;cases hp;have:=h.pl hd q hq;simp only[Yh,Yv];omega
 .rcases Yk.1 hp with hp | hp
  .exact h.ar p hp
  .rw[Ye] at hp;rw[hp];exact hm
 .rw[h.bl];refine dP (pO oB) ?_ fun k hk=>?_
  .exact decide_eq_true ⟨_,List.mem_append_right _ (Ye.2 rfl),rfl⟩
  .rw[decide_eq_decide];constructor
   .rintro⟨p,hp,e⟩;rcases Yk.1 hp with hp | hp
    .exact⟨p,hp,e⟩
    .rw[Ye] at hp;subst hp;exact absurd e.symm hk
   .rintro⟨p,hp,e⟩;exact⟨p,List.mem_append_left _ hp,e⟩
theorem WY{h0 nL hX hB jO gJ:Heap}{G:List It}{l out s:Sl}{Q:List vW}{F:List FS}{BL:List Bool}{P:List (Sl × List Ac)}{R:List It}{g:Gl}{q:vW}{x:Ed}{role:Int}{hd KS:Nat}{I:Sl->Sl->Int->Heap->Nat->Prop}{k:Int}
  (hV:ah g) (mN:St h0 nL (.af jO.size x.cs 67::wz l out gJ.size G Q F BL P)) (hs:St nL hX (.sl s 65 3 ((q.2.2++[x.act]).map Ac.cs) :: .af hB.size PQ 365::R)) (hQ:Ba g Q F BL P) (hq:Q[hd]?=some q) (hx:x∈g.es)
  (hI:∀(l' iv:Sl) (Q':List vW) (F':List FS) (PO:List Bool) (P':List (Sl × List Ac)) (h':Heap),St h0 h' (wz l' iv gJ.size G Q' F' PO P')->Ba g Q' F' PO P'->(Q'.map vZ,F'.map Prod.fst)=je role q.1 q.2.2 (Q.map vZ,F.map Prod.fst) x->(∀(j:Nat) z,Q[j]?=some z->Q'[j]?=some z)->∃m,m<KS/\I l' iv (IntKind.wrap .i64 (k+1)) h' m) :
  yC hX hB x.t (q.1.b:Nat) (q.1.d:Nat) s jO out role g.n gJ l KS I k:=by
 unfold yC;have hN:=hV.num.n;have hM:=hV.num.m;have h6:=hV.OE.n6;have tn:=hV.num.e x hx;unfold fp at tn;obtain⟨Uc,ho2,ho3⟩:=hQ.ok q (Yb hq);have EV:=Br hV (hQ.ok q (Yb hq)) hx role;have KU:x.a=((x.a.toNat:Nat):Int):=by omega
 have H4:x.b=((x.b.toNat:Nat):Int):=by omega
 have yP:x.t=((x.t.toNat:Nat):Int):=by omega
 have fV:=hQ.fi.len;rw[Yc] at fV;have ahE:=hQ.le;have ael:=hQ.pl hd q hq;have hqd:=(Ya.1 hq).1;have hnn:g.n.toNat*4096<=200*4096:=Nat.mul_le_mul_right _ (by omega);have b1:=AU ⟨q.1.b,by omega⟩ ⟨x.a.toNat,by omega⟩;have b2:=AU ⟨q.1.d,by omega⟩ ⟨x.a.toNat,by omega⟩;have b3:=AU ⟨q.1.b,by omega⟩ ⟨x.b.toNat,by omega⟩;simp only[<-KU,<-H4] at b1 b2 b3;have hs:=(mN.join hs).mT (L':=.af hB.size PQ 365::(.af jO.size x.cs 67::wz l out gJ.size G Q F BL ((s,q.2.2++[x.act])::P))) (R:=R) (by
  have:=LV (.af jO.size x.cs 67 :: .sl l 365 4 (Q.map qC) :: .sl out 330 3 (F.map dK) :: .af gJ.size (BL.map Value.bool) 4::G) (P.map (nest 65 3 Ac.cs)) R (.sl s 65 3 ((q.2.2++[x.act]).map Ac.cs)) (.af hB.size PQ 365);simpa [wz,nest] using this)
 refine hs.put 0 rfl (o:=0) (vs:=[.int .i64 x.t,.int .i64 (q.1.b:Nat),.int .i64 (q.1.d:Nat),.slice s.a s.n s.c]) rfl (show 4<=4 by decide) fun h91 hs=>?_;replace hs:St h0 h91 (.af hB.size (qC (⟨x.t.toNat,q.1.b,q.1.d⟩,(s,q.2.2++[x.act]))) 365::(.af jO.size x.cs 67::wz l out gJ.size G Q F BL ((s,q.2.2++[x.act])::P))):=by
  unfold qC;simp only;rw[<-yP];exact hs
 have mv:∀ {p p':eH} {h':Heap} {cs:List Value} {L:List It},cs=qC (p',(s,q.2.2++[x.act]))->St h0 h' (.af hB.size cs 365::L)->St h0 h' (.af hB.size (qC (p',(s,q.2.2++[x.act]))) 365::L):=fun e h=>by rw[<-e];exact h
 refine⟨fun iv h'=>∃F':List FS,St h0 h' (.af hB.size (qC ((eK role q.1 x).1,(s,q.2.2++[x.act]))) 365::(.af jO.size x.cs 67::wz l iv gJ.size G Q F' BL ((s,q.2.2++[x.act])::P)))/\F'.map Prod.fst=(if (eK role q.1 x).2 then oo (F.map Prod.fst) ⟨⟨x.a,x.l⟩,q.2.2++[x.act]⟩ else F.map Prod.fst)/\∀f∈F',(f.2,f.1.path)∈(s,q.2.2++[x.act])::P,?_,?_⟩
 .refine⟨(q.1.b:Nat),hs.rd 0 rfl (i:=1) rfl,x.a,hs.rd 1 rfl (i:=1) rfl,by omega,?_⟩;rw[b1.1];have RF:∀f∈F,(f.2,f.1.path)∈(s,q.2.2++[x.act])::P:=fun f hf=>Yn _ (hQ.fr f hf);refine aa (fun c=>?_) (fun c=>?_)
  .refine⟨(q.1.b:Nat),hs.rd 0 rfl (i:=1) rfl,x.b,hs.rd 1 rfl (i:=2) rfl,by omega,?_⟩;rw[b3.2.2.1];refine hs.put 0 rfl (o:=1) (vs:=[.int .i64 ((q.1.b|||2^x.b.toNat:Nat):Int)]) rfl (show 2<=4 by decide) fun h97 hs=>?_;have e:eK role q.1 x=(⟨x.t.toNat,q.1.b|||2^x.b.toNat,q.1.d⟩,false):=by unfold eK;rw[if_pos c]
   rw[e];exact⟨F,hs,rfl,RF⟩
  .refine⟨x.b,hs.rd 1 rfl (i:=2) rfl,?_⟩;refine eS (fun c2=>?_) (fun c2=>?_)
   .refine⟨(q.1.d:Nat),hs.rd 0 rfl (i:=2) rfl,x.a,hs.rd 1 rfl (i:=1) rfl,by omega,?_⟩;rw[b2.2.1];refine aa (fun c3=>?_) (fun c3=>?_)
    .have SJ:q.1.d.testBit x.a.toNat=false:=bF c3;have e:eK role q.1 x=(⟨x.t.toNat,q.1.b,q.1.d|||2^x.a.toNat⟩,true):=by unfold eK;rw[if_neg (by rw[c];decide),if_pos ⟨c2,SJ⟩]
     refine⟨x.a,hs.rd 1 rfl (i:=1) rfl,x.l,hs.rd 1 rfl (i:=3) rfl,s,hs.rd 0 rfl (i:=3) rfl,?_⟩;refine (Me hs 3 (out:=out) (F:=F) rfl ⟨x.a,x.l⟩ s (q.2.2++[x.act]) (by omega)).mono ?_;rintro _ sy ⟨r,F',rfl,hs,hF'⟩;refine⟨r,rfl,?_⟩;unfold Dx;refine⟨(q.1.d:Nat),hs.rd 0 rfl (i:=2) rfl,x.a,hs.rd 1 rfl (i:=1) rfl,by omega,?_⟩;rw[b2.2.2.1];refine hs.put 0 rfl (o:=2) (vs:=[.int .i64 ((q.1.d|||2^x.a.toNat:Nat):Int)]) rfl (show 3<=4 by decide) fun Zi hs=>?_;rw[e];have hex:(∃y∈F,y.1.m=(⟨x.a,x.l⟩:Ms)) ↔ ∃y∈F.map Prod.fst,y.m=(⟨x.a,x.l⟩:Ms):=⟨fun ⟨y,h1,h2⟩=>⟨y.1,Yp.2 ⟨y,h1,rfl⟩,h2⟩,fun ⟨y,h1,h2⟩=>by obtain⟨z,h3,rfl⟩:=Yp.1 h1;exact⟨z,h3,h2⟩⟩;refine⟨F',hs,?_,?_⟩
     .simp only[if_true];unfold oo;rcases hF' with ⟨h1,rfl⟩ | ⟨h1,rfl⟩
      .rw[if_pos (hex.1 h1)]
      .rw[if_neg (fun h9=>h1 (hex.2 h9)),Ym];rfl
     .rcases hF' with ⟨h1,rfl⟩ | ⟨h1,rfl⟩
      .exact RF
      .intro f hf;rcases Yk.1 hf with hf | hf
       .exact RF f hf
       .rw[Ye] at hf;subst hf;exact Yx
    .have SJ:q.1.d.testBit x.a.toNat=true:=by simpa using c3
     have e:eK role q.1 x=(⟨x.t.toNat,q.1.b,q.1.d⟩,false):=by unfold eK;rw[if_neg (by rw[c];decide),if_neg (fun h9=>by rw[h9.2] at SJ;cases SJ)]
     unfold Dx;refine⟨(q.1.d:Nat),hs.rd 0 rfl (i:=2) rfl,x.a,hs.rd 1 rfl (i:=1) rfl,by omega,?_⟩;rw[b2.2.2.1,b2.2.2.2 SJ];refine hs.put 0 rfl (o:=2) (vs:=[.int .i64 (q.1.d:Nat)]) rfl (show 3<=4 by decide) fun Zi hs=>?_;rw[e];exact⟨F,hs,rfl,RF⟩
   .have e:eK role q.1 x=(⟨x.t.toNat,q.1.b,q.1.d⟩,false):=by unfold eK;rw[if_neg (by rw[c];decide),if_neg (fun h9=>c2 h9.1)]
    rw[e];exact⟨F,hs,rfl,RF⟩
 .clear hs b1 b2 b3;rintro-iv qU ⟨F',hs,hF',RF⟩;generalize hnxt:(eK role q.1 x).1=nx at *;have dB:∀Q':List vW,Q'.map vZ=(if nx∈(Q.map vZ).map Prod.fst then Q.map vZ else Q.map vZ++[(nx,q.2.2++[x.act])])->(Q'.map vZ,F'.map Prod.fst)=je role q.1 q.2.2 (Q.map vZ,F.map Prod.fst) x:=fun Q' e=>by
   unfold je;simp only;rw[hnxt,<-e,hF']
  have T5:(Q.map vZ).map Prod.fst=Q.map Prod.fst:=by rw[List.map_map];rfl
  have bZ:Be g (F'.map Prod.fst):=by
   have:=wv (role:=role) (p:=q.1) (path:=q.2.2) (st:=(Q.map vZ,F.map Prod.fst)) (x:=x) hQ.fi hx (by omega);unfold je at this;simp only at this;rw[hF'];exact this
  have Y2:Ba g Q F' BL ((s,q.2.2++[x.act])::P):=⟨hQ.nd,hQ.ok,hQ.pl,fun p hp=>Yn _ (hQ.ar p hp),RF,hQ.bl,bZ⟩;have yT:=pO EV;have yW:=hQ.agh;refine⟨(nx.s:Nat),(nx.b:Nat),(nx.d:Nat),s,hs.at 0 rfl (o:=0) (n:=4) rfl,?_⟩;obtain⟨KZ,Ud,X3⟩:=EV;refine (xg nx s qU (by omega) Ud X3).mono ?_;rintro _ uX ⟨rfl,E⟩;have hs:=hs.step E;have e12:dW .i64 g.n 12=((g.n.toNat*4096:Nat):Int):=by
   have:=Oq (a:=g.n.toNat) (by omega)
   rwa [Int.toNat_of_nonneg (by omega)] at this
  rw[e12,Ys];have ei:0+Int.toNat ((iQ nx:Nat):Int)*1=iQ nx:=by omega
  refine⟨_,rfl,⟨by omega,by omega⟩,?_⟩;rw[ei];refine⟨decide (nx∈Q.map Prod.fst),hs.rd 4 rfl (by rw[Yd,hQ.seen ⟨KZ,Ud,X3⟩];rfl),?_⟩;refine aa (fun c=>?_) (fun c=>?_)
  .have bM:nx∉Q.map Prod.fst:=by simpa using c
   refine⟨⟨by omega,by omega⟩,?_⟩;refine hs.put 4 rfl (o:=iQ nx) (vs:=[.bool true]) rfl (by rw[Yc,Yv];omega) fun aiO hs=>?_;rw[cI Value.bool (by omega)] at hs;refine⟨(nx.s:Nat),(nx.b:Nat),(nx.d:Nat),s,hs.at 0 rfl (o:=0) (n:=4) rfl,?_⟩;have Cn:=(hs.len 2 (s:=l) (e:=365) (n:=4) rfl (by decide)).1;rw[Yc] at Cn;refine hs.app 2 rfl SS (m:=1) [qC (nx,(s,q.2.2++[x.act]))] rfl rfl (fun r hr=>by rw[Ye] at hr;rw[hr];rfl) rfl (by omega) (by simp only[maxLen];omega) fun l' aft nl hs=>?_;refine hI l' iv (Q++[(nx,(s,q.2.2++[x.act]))]) F' (BL.set (iQ nx) true) ((s,q.2.2++[x.act])::P) aft ?_ (Y2.push hq bM ⟨KZ,Ud,X3⟩ Yx) (dB _ (by rw[T5,if_neg bM,Ym];rfl)) fun j z hz=>by rw[lg (Ya.1 hz).1];exact hz
   have hs:=hs.drop 2;unfold wz;rw[Ym (f:=qC)];exact hs
  .have dC:nx∈Q.map Prod.fst:=by simpa using c
   exact hI l iv Q F' BL _ _ (hs.drop 2) Y2 (dB Q (by rw[T5,if_pos dC])) fun j z hz=>hz
theorem Qu(n:Nat):ak Pz 4 n=(List.replicate n false).map Value.bool:=by
 have e:bN Pz 4=[.bool false]:=by kernel_rfl
 unfold ak;rw[e,List.map_replicate]
 induction n with
 | zero=>rfl
 | succ n ih=>rw[List.replicate_succ,pI,ih,List.replicate_succ];rfl
theorem ui(g:Gl)(i:Nat)(x0:Ed)(h:Heap)(hg:GI h g)(hV:ah g)(hi:g.es[i]?=some x0):
  Fn Pz 199 #[g.v,.int .i64 (i:Nat)] h fun v h'=>∃(s:Sl) (F:List FS) (L:List It),v=.slice s.a s.n s.c/\F.map Prod.fst=eL g i/\St h h' (.sl s 330 3 (F.map dK)::L)/\(∀f∈F,nest 65 3 Ac.cs (f.2,f.1.path)∈L)/\Be g (eL g i):=by
 apply VH (bs g.nm) g.hr g.hd g.n g.s g.e g.he g.ht (i:Nat);unfold aaS;have hN:=hV.num.n;have hM:=hV.num.m;have h6:=hV.OE.n6;have nI:=hg.e.ln;have mc:=(Ya.1 hi).1;have tn:=hV.num.e x0 (Yb hi);unfold fp at tn;have H4:x0.b=((x0.b.toNat:Nat):Int):=by omega
 have yP:x0.t=((x0.t.toNat:Nat):Int):=by omega
 have hnn:g.n.toNat*4096<=200*4096:=Nat.mul_le_mul_right _ (by omega);refine (St.refl h).ao fun h9 hs=>?_;refine⟨g.he,hs.rd 0 rfl (i:=6) rfl,?_⟩;refine (hg.e.rw.ext hs.ext).ax (by omega) (by omega) fun b o x gx t=>?_;replace gx:g.es[i]?=some x:=gx;rw[hi] at gx;cases gx;refine⟨_,t.nth 2 rfl,g.he,hs.rd 0 rfl (i:=6) rfl,?_⟩;refine (hg.e.rw.ext hs.ext).ax (by omega) (by omega) fun b o x gx t=>?_;replace gx:g.es[i]?=some x:=gx;rw[hi] at gx;cases gx;refine⟨_,t.nth 4 rfl,by omega,?_⟩;have hsh:=Xb ⟨x0.b.toNat,by omega⟩;simp only[<-H4] at hsh;rw[hsh];refine hs.ao fun gJ hs=>?_;refine⟨g.n,hs.rd 1 rfl (i:=3) rfl,by decide,?_⟩;have e12:dW .i64 g.n 12=((g.n.toNat*4096:Nat):Int):=by
  have:=Oq (a:=g.n.toNat) (by omega)
  rwa [Int.toNat_of_nonneg (by omega)] at this
 rw[e12,Ys,Qu];refine⟨⟨by omega,by omega,by omega⟩,?_⟩;refine hs.ao fun az hs=>?_;have vK:(⟨x0.t.toNat,2^x0.b.toNat,0⟩:eH).ok g.n.toNat:=⟨by simp only;omega,W4 (by omega),show (0:Nat)<64 by decide⟩;refine⟨by decide,x0.t,((2^x0.b.toNat:Nat):Int),0,aH,hs.at 1 rfl (o:=0) (n:=4) rfl,?_⟩;have ja:=xg ⟨x0.t.toNat,2^x0.b.toNat,0⟩ aH az (by simp only;omega) vK.2.1 vK.2.2;simp only[<-yP] at ja;refine ja.mono ?_;rintro _ rM ⟨rfl,E⟩;have hs:=hs.step E;have yT:=pO vK;have ei:0+Int.toNat ((iQ ⟨x0.t.toNat,2^x0.b.toNat,0⟩:Nat):Int)*1=iQ ⟨x0.t.toNat,2^x0.b.toNat,0⟩:=by omega
 refine⟨_,rfl,⟨by omega,by omega⟩,?_⟩;rw[ei];refine hs.put 0 rfl (o:=iQ ⟨x0.t.toNat,2^x0.b.toNat,0⟩) (vs:=[.bool true]) rfl (by rw[Yc,Yg,Yv];omega) fun Ur hs=>?_;rw[cI Value.bool (by rw[Yg];exact yT)] at hs;have hs:=(hs.perm (List.Perm.swap _ _ _)).dz 1 4 ([((⟨x0.t.toNat,2^x0.b.toNat,0⟩,(aH,[])):vW)].map qC) (by unfold qC;simp only[iM,List.map_nil,pI,List.flatten_nil,Yw];rw[<-yP];rfl) (fun r hr=>by obtain⟨x,_,rfl⟩:=Yp.1 hr;rfl) rfl (by decide);have hs:=(hs.cn 65 3).cn 330 3;have hs:St h Ur (wz ⟨some ⟨h9.size,0,none⟩,1,1⟩ ⟨none,0,0⟩ gJ.size [.af h.size g.cs 27] [(⟨x0.t.toNat,2^x0.b.toNat,0⟩,(aH,[]))] [] ((List.replicate (g.n.toNat*4096) false).set (iQ ⟨x0.t.toNat,2^x0.b.toNat,0⟩) true) [(aH,[])]):=by
  refine hs.perm ?_;unfold wz;refine ((List.Perm.swap _ _ _).cons _).trans ((List.Perm.swap _ _ _).trans (.cons _ (.cons _ ?_)));exact (List.perm_append_comm (l₁:=[nest 65 3 Ac.cs (aH,[])]) (l₂:=[_,_]))
 have Y7:Ba g [(⟨x0.t.toNat,2^x0.b.toNat,0⟩,(aH,[]))] [] ((List.replicate (g.n.toNat*4096) false).set (iQ ⟨x0.t.toNat,2^x0.b.toNat,0⟩) true) [(aH,[])]:=by
  refine⟨by simp,fun q hq=>by rw[Ye] at hq;rw[hq];exact vK,fun j q hq=>?_,fun q hq=>by rw[Ye] at hq;rw[hq];exact Ye.2 rfl,fun f hf=>(by cases hf),?_,⟨by simp,fun f hf=>(by cases hf),fun f hf=>(by cases hf)⟩⟩
  .have hj:=(Ya.1 hq).1;rw[Yv] at hj;obtain rfl:j=0:=by omega
   cases hq;exact bu _
  .have e:List.replicate (g.n.toNat*4096) false=(List.range (g.n.toNat*4096)).map fun _=>false:=by
    apply y4;intro j;rw[List.getElem?_replicate,Yd];by_cases hj:j<g.n.toNat*4096
    .rw[if_pos hj,vk hj];rfl
    .rw[if_neg hj,Yl (by rw[kv];omega)];rfl
   rw[e];refine dP yT (decide_eq_true ⟨_,Ye.2 rfl,rfl⟩) fun k hk=>decide_eq_false ?_;rintro⟨q,hq,e⟩;rw[Ye] at hq;subst hq;exact hk e.symm
 have Ap:eL g i=pq g.es x0.b (g.n.toNat*65536+1) 0 ([((⟨x0.t.toNat,2^x0.b.toNat,0⟩,(aH,[])):vW)].map vZ) (([]:List FS).map Prod.fst):=by
  unfold eL;rw[hi];rfl
 refine⟨fun l out x h' μ=>∃(hd:Nat) (Q:List vW) (F:List FS) (BL:List Bool) (P:List (Sl × List Ac)),x=(hd:Int)/\μ=g.n.toNat*4096-hd/\hd<=Q.length/\St h h' (wz l out gJ.size [.af h.size g.cs 27] Q F BL P)/\Ba g Q F BL P/\eL g i=pq g.es x0.b (g.n.toNat*65536+1-hd) hd (Q.map vZ) (F.map Prod.fst),⟨_,0,_,_,_,_,rfl,rfl,Nat.zero_le _,hs,Y7,Ap⟩,?_⟩;clear hs Y7 Ap;rintro-l out _ bA μ ⟨hd,Q,F,BL,P,rfl,rfl,hhd,hs,hI,Ap⟩;have Cn:=(hs.len 0 (s:=l) (e:=365) (n:=4) rfl (by decide)).1;rw[Yc] at Cn;have aeW:=hI.le;refine aQ (fun c=>?_) (fun c=>?_)
 .refine⟨_,_,_,_,_,_,_,_,hs.at 3 rfl (o:=0) (n:=8) rfl,?_⟩;refine (hs.rows 0 (s:=l) (cs:=qC) (l:=Q) rfl (by decide)).ax (by omega) (by omega) fun b o q gq t=>?_;replace gq:Q[hd]?=some q:=gq;refine⟨_,t.nth 0 rfl,?_⟩;refine (DS g q.1.s bA (hg.ext hs.ext) hV).mono ?_;rintro _ Zd ⟨r,O,rfl,yR,hO,Pe⟩;refine⟨r,rfl,?_⟩;have l8:=(yR.len 0 (s:=r) rfl (by decide)).1;rw[Yc,show (aJ O).length=O.length from Yc _] at l8;have kM:(gE g.es q.1.s).length<=400:=by unfold gE;rw[we];exact iX (List.length_filter_le _ _) hM
  have agv:O.length=(gE g.es q.1.s).length:=by rw[<-hO,Yc]
  have bQ:St h Zd (wz l out gJ.size [.sl r 3 1 ((aJ O).map aM),.af h.size g.cs 27] Q F BL P):=by
   refine (hs.join yR).perm ?_;unfold wz;refine .cons _ (.cons _ (.cons _ ?_));exact (List.perm_append_comm (l₂:=[It.sl r 3 1 ((aJ O).map aM)]))
  have XJ:eL g i=pq g.es x0.b (g.n.toNat*65536+1-(hd+1)) (hd+1) ((gE g.es q.1.s).foldl (je x0.b q.1 q.2.2) (Q.map vZ,F.map Prod.fst)).1 ((gE g.es q.1.s).foldl (je x0.b q.1 q.2.2) (Q.map vZ,F.map Prod.fst)).2:=by
   rw[Ap,show g.n.toNat*65536+1-hd=(g.n.toNat*65536+1-(hd+1))+1 by omega];exact sN (q:=vZ q) (by rw[Yd,gq];rfl)
  refine⟨fun l' iv x h' μ'=>∃(k:Nat) (Q':List vW) (F':List FS) (PO:List Bool) (P':List (Sl × List Ac)),x=(k:Int)/\μ'=r.n-k/\k<=r.n/\St h h' (wz l' iv gJ.size [.sl r 3 1 ((aJ O).map aM),.af h.size g.cs 27] Q' F' PO P')/\Ba g Q' F' PO P'/\(Q'.map vZ,F'.map Prod.fst)=((gE g.es q.1.s).take k).foldl (je x0.b q.1 q.2.2) (Q.map vZ,F.map Prod.fst)/\∀(j:Nat) z,Q[j]?=some z->Q'[j]?=some z,⟨_,0,Q,F,BL,P,rfl,rfl,Nat.zero_le _,bQ,hI,by rw[iY];rfl,fun j z hz=>hz⟩,?_⟩;clear hs bQ hI t;rintro-l' iv _ jO μ' ⟨k,Q',F',PO,P',rfl,rfl,hk,hs,hI,hfold,hold⟩;have aeW:=hI.le;refine aQ (fun c2=>?_) (fun c2=>?_)
  .have uZ:=hold hd q gq;have Au:=(Ya.1 uZ).1;obtain⟨j,gj⟩:=get_some (l:=O) (i:=k) (by omega);have Cp:=Pe j (Yb gj);obtain⟨x,gx⟩:=get_some (l:=g.es) (i:=j) Cp;have gsx:(gE g.es q.1.s)[k]?=some x:=by rw[<-hO,Yd,gj,Option.map_some,aI gx]
   refine⟨g.he,hs.rd 4 rfl (i:=6) rfl,?_⟩;refine (hs.rows 3 (s:=r) (cs:=aM) (l:=aJ O) rfl (by decide)).ax (by omega) (by omega) fun b58 o59 d gd t58=>?_;have gI:(aJ O)[k]?=some (j:Int):=by unfold aJ;rw[Yd,gj];rfl
   replace gd:(aJ O)[k]?=some d:=gd;rw[gI] at gd;cases gd;refine⟨_,t58.nth 0 rfl,?_⟩;refine (hg.e.rw.ext hs.ext).ax (by omega) (by omega) fun b61 o62 y gy t61=>?_;replace gy:g.es[j]?=some y:=gy;rw[gx] at gy;cases gy;refine⟨_,_,_,_,_,_,t61,?_⟩;intro Uo e69;refine⟨Xa (by rw[e69];exact Ext.push _ _),?_⟩;refine hs.aj (zs:=[.int .i64 0,.int .i64 0,.int .i64 0,.int .i64 0,.int .i64 0,.bool false]) (vs:=x.cs) (n:=6) (e:=67) rfl rfl (fun nL hs=>?_) Uo e69;have aez:=(hs.len 1 (s:=l') (e:=365) (n:=4) rfl (by decide)).1;rw[Yc] at aez;have bL:Rw nL 4 l' (Q'.map qC):=hs.rows 1 rfl (by decide);refine⟨_,hs.rd 0 rfl (i:=4) rfl,?_⟩;refine bL.ax (by omega) (by omega) fun PA Qi z gz t72=>?_;replace gz:Q'[hd]?=some z:=gz;rw[uZ] at gz;cases gz;refine⟨_,t72.nth 1 rfl,?_⟩;refine bL.ax (by omega) (by omega) fun Py Qh z gz t75=>?_;replace gz:Q'[hd]?=some z:=gz;rw[uZ] at gz;cases gz;refine⟨_,t75.nth 2 rfl,?_⟩;refine bL.ax (by omega) (by omega) fun NO OC z gz t78=>?_;replace gz:Q'[hd]?=some z:=gz;rw[uZ] at gz;cases gz;refine⟨q.2.1,t78.nth 3 rfl,?_⟩;have dh:nest 65 3 Ac.cs q.2∈(.af jO.size x.cs 67::wz l' iv gJ.size [.sl r 3 1 ((aJ O).map aM),.af h.size g.cs 27] Q' F' PO P'):=by
    unfold wz;refine Yn _ (Yn _ (Yn _ (Yn _ (List.mem_append_right _ (Yp.2 ⟨q.2,hI.ar q (Yb uZ),rfl⟩)))))
   have rK:=hI.pl hd q uZ;refine WX (act:=x.act) (path:=q.2.2) (hs.at 0 rfl (o:=1) (n:=3) rfl) (hs.wB (s:=q.2.1) (e:=65) dh (by decide) (by omega)) (iz (hs.rd 0 rfl (i:=0) rfl)) (iz (t78.nth 0 rfl)) (iz (t75.nth 0 rfl)) (iz (t72.nth 0 rfl)) fun {hX hB s R} hsX=>?_;refine WY hV hs hsX hI uZ (Yb gx) fun l2 Xg Q2 F2 BL2 P2 h' bQ pQ he XT=>?_;refine⟨_,(show r.n-(k+1)<r.n-k by omega),k+1,Q2,F2,BL2,P2,by rw[bd (by omega) (by omega)];omega,rfl,by omega,bQ,pQ,?_,fun j z hz=>XT j z (hold j z hz)⟩;rw[ae gsx,List.foldl_append,<-hfold,he];rfl
  .have fg:k=(gE g.es q.1.s).length:=by omega
   subst fg;rw[vV] at hfold;refine⟨_,(show g.n.toNat*4096-(hd+1)<g.n.toNat*4096-hd by omega),hd+1,Q',F',PO,P',by rw[bd (by omega) (by omega)];omega,rfl,?_,?_,hI,?_⟩
   .have:=(Ya.1 (hold hd q gq)).1;omega
   .refine hs.mT (R:=[.sl r 3 1 ((aJ O).map aM)]) ?_;unfold wz;refine .cons _ (.cons _ (.cons _ ?_));exact (List.perm_append_comm (l₁:=[It.sl r 3 1 ((aJ O).map aM)]))
   .rw[XJ,<-hfold]
 .have:hd=Q.length:=by omega
  subst this;rw[wu (by rw[Yl (by rw[Yc];exact bu _)])] at Ap;have hs:=hs.mT (L':=.sl out 330 3 (F.map dK)::P.map (nest 65 3 Ac.cs)) (R:=[.sl l 365 4 (Q.map qC),.af gJ.size (BL.map Value.bool) 4,.af h.size g.cs 27]) (by
   unfold wz;refine (List.Perm.swap _ _ _).trans (.cons _ ?_);exact (List.perm_append_comm (l₁:=[_,_,_])))
  refine⟨out,F,_,rfl,Ap.symm,hs,fun f hf=>Yp.2 ⟨_,hI.fr f hf,rfl⟩,?_⟩;rw[Ap];exact hI.fi
theorem JG:cu Pz 206 210 3 40=true:=by kernel_rfl
structure SrA (F:List FS) (i:Nat) (A:List FS):Prop where
 p:A.Pairwise fun a b=>dd a.1.m b.1.m
 m:A.Perm (F.take i)
theorem SrA.ln{F:List FS}{i:Nat}{A:List FS}(h:SrA F i A)(hi:i<=F.length):A.length=i:=by rw[h.m.length_eq,Yu];omega
theorem MK(A:List FS)(x:FS)(k:Nat):((A.take k++[x]++A.drop k).map dK)=(A.map dK).take k++[dK x]++(A.map dK).drop k:=by
 rw[Ym,Ym,List.map_take,List.map_drop];rfl
theorem yl(g:Gl)(i:Nat)(x0:Ed)(h:Heap)(hg:GI h g)(hV:ah g)(hi:g.es[i]?=some x0):
  Fn Pz 113 #[g.v,.int .i64 (i:Nat)] h fun v h'=>∃(s:Sl) (A:List FS) (L:List It),v=.slice s.a s.n s.c/\A.map (fun a=>a.1.m)=ey g i/\(∀a∈A,a.1.path=iu g i a.1.m/\a.1.path.length<=1000000)/\St h h' (.sl s 210 3 (A.map dK)::L)/\(∀a∈A,nest 65 3 Ac.cs (a.2,a.1.path)∈L)/\A.length<=g.es.length:=by
 apply WJ (bs g.nm) g.hr g.hd g.n g.s g.e g.he g.ht (i:Nat);unfold abW DA KC KD;have hM:=hV.num.m;refine (St.refl h).ao fun h9 hs=>?_;refine⟨_,_,_,_,_,_,_,_,hs.at 0 rfl (o:=0) (n:=8) rfl,?_⟩;refine (ui g i x0 h9 (hg.ext hs.ext) hV hi).mono ?_;rintro _ az ⟨s,F,L,rfl,hF,hsF,RD,hFn⟩;have mN:=(hs.join hsF).drop 1;have fV:=hFn.len;rw[<-hF,Yc] at fV;have yR:Rw az 3 s (F.map dK):=hsF.rows 0 rfl (by decide);have ki:=yR.ln;have EW:(F.map (fun f=>f.1.m)).Nodup:=by
  have:=hFn.nd;rw[<-hF,List.map_map] at this;exact this
 refine⟨s,rfl,?_⟩;have hs:=(St.refl az).cn 210 3;refine⟨fun out x h' μ=>∃(j:Nat) (A:List FS),x=j/\μ=s.n-j/\j<=s.n/\St az h' [.sl out 210 3 (A.map dK)]/\SrA F j A,⟨_,0,[],rfl,rfl,Nat.zero_le _,hs,.nil,by rw[iY]⟩,?_⟩;clear hs;rintro-out _ Fl μ ⟨j,A,rfl,rfl,hj,hs,hA⟩;have MZ:=hs.len 0 (s:=out) (e:=210) (n:=3) rfl (by decide);have nK:=hA.ln (by omega);rw[Yc] at MZ;refine aQ (fun c=>?_) (fun c=>?_)
 .obtain⟨a,ga⟩:=get_some (l:=F) (i:=j) (by omega);have tq:∀b∈A,b.1.m≠a.1.m:=fun b hb e=>by
   have jr:=hA.m.mem_iff.1 hb;obtain⟨q,hq⟩:=Yf.1 jr;rw[rO] at hq;split at hq
   .have h5:(F.map (fun f=>f.1.m))[q]?=some a.1.m:=by rw[Yd,hq,<-e];rfl
    have h6:(F.map (fun f=>f.1.m))[j]?=some a.1.m:=by rw[Yd,ga];rfl
    have:=fH EW h5 h6;omega
   .cases hq
  refine aD (n:=out.n) hs (fun k=>∀(q:Nat) b,q<k->A[q]?=some b->dd b.1.m a.1.m) (fun q b hq=>by omega) ?_;rintro-k xH hk ⟨hs,bt⟩;have load:∀ {h':Heap} {K:Nat->Nat->Prop},Ext az h'->(∀b o,b<az.size->aY h' ⟨b,o+Int.toNat (j:Int)*3,none⟩ (dK a)->K b o)->NB s.a fun b o=>(0<=(j:Int)/\(j:Int)<(s.n:Nat))/\K b o:=fun {h' K} E' hK=>by
   refine yR.ax (by omega) (by omega) fun b o d gd t=>?_;replace gd:F[j]?=some d:=gd;rw[ga] at gd;cases gd;exact hK b o (iz (t.nth 0 rfl)) (mF E' t)
  have K7:(A.map dK).flatten.all eF=true:=gY (fun _=>rfl) _;have Nd:(A.map dK).length=A.length:=Yc _;have fin:(∀b,A[k]?=some b->dd a.1.m b.1.m)->∀r' Nk,St az Nk [.sl r' 210 3 ((A.map dK).take k++[dK a]++(A.map dK).drop k)]->∃m',m'<s.n-j/\∃(j':Nat) (A:List FS),IntKind.wrap .i64 ((j:Int)+1)=j'/\m'=s.n-j'/\j'<=s.n/\St az Nk [.sl r' 210 3 (A.map dK)]/\SrA F j' A:=fun Iu r' Nk Q3=>by
   refine⟨_,(show s.n-(j+1)<s.n-j by omega),j+1,A.take k++[a]++A.drop k,by rw[bd (by omega) (by omega)];omega,rfl,by omega,by rw[MK];exact Q3,Hg (R:=fun a b:FS=>dd a.1.m b.1.m) (fun a b c=>uG) hA.p bt Iu,?_⟩;rw[ae ga,Yz];refine (List.Perm.append_left _ List.perm_append_comm).trans ?_;rw[<-Yz,List.take_append_drop];exact List.Perm.append_right _ hA.m
  refine aQ (fun c2=>?_) (fun c2=>?_)
  .obtain⟨b,gb⟩:=get_some (l:=A) (i:=k) (by omega);have hbm:=tq b (Yb gb);have rd:∀ {K:Nat->Nat->Prop},(∀b' o,aY xH ⟨b',o+Int.toNat (k:Int)*3,none⟩ (dK b)->K b' o)->NB out.a fun b' o=>(0<=(k:Int)/\(k:Int)<(out.n:Nat))/\K b' o:=fun {K} hK=>by
    refine (hs.rows 0 (s:=out) (cs:=dK) (l:=A) rfl (by decide)).ax (by omega) (by omega) fun b' o d gd t=>?_;replace gd:A[k]?=some d:=gd;rw[gb] at gd;cases gd;exact hK b' o t
   have om:dd b.1.m a.1.m->∃m',m'<out.n-k/\Up out.n (fun k h'=>St az h' [.sl out 210 3 (A.map dK)]/\∀(q:Nat) b,q<k->A[q]?=some b->dd b.1.m a.1.m) (IntKind.wrap .i64 ((k:Int)+1)) xH m':=fun hl=>by
    refine Up.next (by omega) (by omega) ⟨hs,fun q z hq hz=>?_⟩;by_cases e:q=k
    .subst e;rw[gb] at hz;cases hz;exact hl
    .exact bt q z (by omega) hz
   have bI:¬(b.1.m.p=a.1.m.p/\b.1.m.l=a.1.m.l):=fun h9=>hbm (by
    obtain⟨h8,h7⟩:=h9;cases hm:b.1.m;cases ik:a.1.m;rw[hm,ik] at h8 h7;simp only at h8 h7;rw[h8,h7])
   refine rd fun b32 o33 t=>⟨_,t.nth 0 rfl,load hs.ext fun UB TJ _ t2=>⟨_,t2.nth 0 rfl,?_⟩⟩;refine aQ (fun c3=>om (by unfold dd;omega)) (fun c3=>?_);refine rd fun b32 o33 t=>⟨_,t.nth 0 rfl,load hs.ext fun UB TJ _ t2=>⟨_,t2.nth 0 rfl,?_⟩⟩;refine eS (fun c4=>?_) (fun c4=>?_);refine rd fun b32 o33 t=>⟨_,t.nth 1 rfl,load hs.ext fun UB TJ _ t2=>⟨_,t2.nth 1 rfl,?_⟩⟩;refine aQ (fun c5=>om (by unfold dd;omega)) (fun c5=>?_);rotate_left;all_goals
    refine⟨⟨by omega,by omega,by omega⟩,load hs.ext fun b52 o53 Rz t1=>⟨_,_,t1.DP 2 rfl,load hs.ext fun ZX Xi Rx t2=>⟨a.2,t2.nth 2 rfl,⟨by omega,by omega,by omega⟩,?_⟩⟩⟩;refine ML JG hs (by rw[Nd];omega) rfl K7 rfl (by decide) (by decide) (by rw[Nd];omega) (aK Rx (aK Rz bc)) (fin fun z gz=>?_);rw[gb] at gz;cases gz;unfold dd;omega
  .refine⟨⟨by omega,by omega,by omega⟩,load hs.ext fun b52 o53 Rz t1=>⟨_,_,t1.DP 2 rfl,load hs.ext fun ZX Xi Rx t2=>⟨a.2,t2.nth 2 rfl,⟨by omega,by omega,by omega⟩,?_⟩⟩⟩;refine ML JG hs (by rw[Nd];omega) rfl K7 rfl (by decide) (by decide) (by rw[Nd];omega) (aK Rx (aK Rz bc)) (fin fun z gz=>?_);have:=(Ya.1 gz).1;omega
 .have K5:j=F.length:=by omega
  subst K5;have Pf:=hA.m;rw[vV] at Pf;have EZ:(A.map fun a=>a.1.m)=ey g i:=by
   refine wc (l:=(eL g i).map (·.m)) ?_ ?_ hFn.nd
   .rw[<-hF,List.map_map];exact Pf.map _
   .rw[List.pairwise_map];exact hA.p.imp fun {a b} h1 h2=>by unfold dd at h1 h2;omega
  refine⟨out,A,L,rfl,EZ,fun a ha=>?_,?_,fun a ha=>RD a (Pf.mem_iff.1 ha),by rw[Pf.length_eq];exact fV⟩
  .have dh:a.1∈eL g i:=by rw[<-hF];exact Yp.2 ⟨a,Pf.mem_iff.1 ha,rfl⟩
   refine⟨?_,hFn.pl a.1 dh⟩;unfold iu;cases hq:(eL g i).find? fun f=>decide (f.m=a.1.m) with
   | none=>have:=List.find?_eq_none.1 hq a.1 dh;rw[decide_eq_true rfl] at this;exact absurd rfl this
   | some f'=>
    have h3:=List.mem_of_find?_eq_some hq;have h4:f'.m=a.1.m:=by have:=List.find?_some hq;exact cd this
    show a.1.path=f'.path;obtain⟨p,hp⟩:=Yf.1 h3;obtain⟨b,hb⟩:=Yf.1 dh;have h5:((eL g i).map (·.m))[p]?=some a.1.m:=by rw[Yd,hp,<-h4];rfl
    have h6:((eL g i).map (·.m))[b]?=some a.1.m:=by rw[Yd,hb];rfl
    have h7:=fH hFn.nd h5 h6;subst h7;rw[hp] at hb;cases hb;rfl
  .refine (mN.join hs).mT (L':=.sl out 210 3 (A.map dK)::L) (R:=[.sl s 330 3 (F.map dK)]) ?_;refine (List.perm_append_comm (l₂:=[It.sl out 210 3 (A.map dK)])).trans (.cons _ ?_);exact (List.perm_append_comm (l₁:=[It.sl s 330 3 (F.map dK)]))
theorem G5(r:Int)(E:List Ev)(s:Sl)(h:Heap)(hr:Rw h 5 s (E.map (aC r))):Fn Pz 158 #[.slice s.a s.n s.c] h fun v h'=>v=.bool (a8 E 0)/\h'=h:=by
 apply Wf;unfold abw;have hn:=hr.ln;refine aQ (fun c=>?_) (fun c=>?_)
 .refine hr.ax (by omega) (by omega) fun b o x gx t=>?_;replace gx:E[0]?=some x:=gx;refine⟨_,t.nth 1 rfl,?_,rfl⟩;unfold a8;rw[gx]
 .refine⟨?_,rfl⟩;unfold a8;rw[Yl (by omega)]
theorem zt(r:Int)(m:Ms)(h:Heap):Fn Pz 122 #[.int .i64 r,.agg ⟨m.cs⟩] h fun v h'=>v=.agg ⟨aC r m.ev⟩/\Ext h h':=by
 apply WG r m.p m.l;unfold abT;refine (St.refl h).ao fun h3 hs=>?_;refine hs.ao fun h4 hs=>?_;refine⟨_,hs.rd 1 rfl (i:=0) rfl,_,hs.rd 1 rfl (i:=1) rfl,?_⟩;refine hs.put 0 rfl (o:=0) (vs:=aC r m.ev) rfl (show 5<=5 by decide) fun h7 hs=>?_;exact⟨_,_,_,_,⟨none,0,0⟩,hs.at 0 rfl (o:=0) (n:=5) rfl,rfl,hs.ext⟩
abbrev lj:=Nat × FS
def rC(a:lj):List Value:=[.int .i64 (a.1:Nat),.int .i64 a.2.1.m.p,.int .i64 a.2.1.m.l,.slice a.2.2.a a.2.2.n a.2.2.c]
def cK(a:lj):gM:=⟨(a.1:Nat),1+(a.2.1.path.length:Int),a.2.1.m⟩
def TE(K:List Ev)(L:List lj)(out:Int):Prop:=(out=-1/\(L.map cK).foldl (fo K) none=none)\/∃(o:Nat) (y:lj),out=(o:Int)/\L[o]?=some y/\(L.map cK).foldl (fo K) none=some (cK y)
theorem HR(r:Int)(K:List Ev)(L:List lj)(s e:Sl)(h:Heap)(hr:Rw h 4 s (L.map rC))(he:Rw h 5 e (K.map (aC r)))(hL:L.length<=1048576)(hK:K.length<=1048576)(hp:∀a∈L,a.2.2.n=a.2.1.path.length):
  Fn Pz 121 #[.slice s.a s.n s.c,.int .i64 r,.slice e.a e.n e.c] h fun v h'=>(∃out,v=.int .i64 out/\TE K L out)/\Ext h h':=by
 apply WH s r e;unfold abU;have hn:=hr.ln;refine⟨fun out x h' μ=>∃i:Nat,x=(i:Int)/\s.n-i=μ/\i<=s.n/\Ext h h'/\((out=-1/\((L.take i).map cK).foldl (fo K) none=none)\/∃(o:Nat) (y:lj),out=(o:Int)/\o<i/\L[o]?=some y/\((L.take i).map cK).foldl (fo K) none=some (cK y)),⟨_,0,rfl,rfl,Nat.zero_le _,.jg,.inl ⟨rfl,by rw[iY];rfl⟩⟩,?_⟩;rintro-out _ h6 μ ⟨i,rfl,rfl,hi,E,hI⟩;refine aQ (fun c=>?_) (fun c=>?_)
 .obtain⟨x,gx⟩:=get_some (l:=L) (i:=i) (by omega);have rd:∀ {h':Heap} {K':Nat->Nat->Prop},Ext h h'->(∀b o,aY h' ⟨b,o+Int.toNat (i:Int)*4,none⟩ (rC x)->K' b o)->NB s.a fun b o=>(0<=(i:Int)/\(i:Int)<(s.n:Nat))/\K' b o:=fun {h' K'} E' hK'=>by
   refine (hr.ext E').ax (by omega) (by omega) fun b o d gd t=>?_;replace gd:L[i]?=some d:=gd;rw[gx] at gd;cases gd;exact hK' b o t
  have dB:((L.take (i+1)).map cK).foldl (fo K) none=fo K (((L.take i).map cK).foldl (fo K) none) (cK x):=by rw[ae gx,Ym,List.foldl_append];rfl
  refine rd E fun b7 o8 t=>⟨_,_,t.sub 1 2 rfl,?_⟩;refine (zt r x.2.1.m h6).mono ?_;rintro _ Pl ⟨rfl,E2⟩;refine⟨_,_,_,_,⟨none,0,0⟩,rfl,?_⟩;refine (YW r K x.2.1.m.ev e Pl (he.ext (E.trans E2)) hK).mono ?_;rintro _ az ⟨rfl,E3⟩;have E4:=(E.trans E2).trans E3;have xp:IntKind.wrap .i64 ((i:Int)+1)=((i+1:Nat):Int):=by rw[bd (by omega) (by omega)];omega
  have Rb:s.n-(i+1)<s.n-i:=by omega
  refine⟨_,rfl,aa (fun c2=>?_) (fun c2=>?_)⟩
  .have dC:(cK x).m.ev∈K:=cd c2;rcases hI with ⟨rfl,hf⟩ | ⟨o,y,rfl,ho,gy,hf⟩
   .refine aQ (fun _=>?_) (fun c3=>absurd (show (-1:Int)<0 by decide) c3);refine⟨_,Rb,i+1,xp,rfl,by omega,E4,.inr ⟨i,x,rfl,by omega,gx,?_⟩⟩;rw[dB,hf];unfold fo;rw[if_pos dC]
   .refine aQ (fun c3=>by omega) (fun c3=>?_);have px:=hp x (Yb gx);have py:=hp y (Yb gy);have ff:((L.take (i+1)).map cK).foldl (fo K) none=if (cK x).n<(cK y).n then some (cK x) else some (cK y):=by
     rw[dB,hf];unfold fo;rw[if_pos dC]
    have e1:(cK x).n=1+(x.2.1.path.length:Int):=rfl;have e2:(cK y).n=1+(y.2.1.path.length:Int):=rfl;refine rd E4 fun b22 o23 t=>⟨x.2.2,t.nth 3 rfl,?_⟩;refine (hr.ext E4).ax (by omega) (by omega) fun b o' d gd t=>?_;replace gd:L[o]?=some d:=gd;rw[gy] at gd;cases gd;refine⟨y.2.2,t.nth 3 rfl,aQ (fun c4=>?_) (fun c4=>?_)⟩
    .exact⟨_,Rb,i+1,xp,rfl,by omega,E4,.inr ⟨i,x,rfl,by omega,gx,by rw[ff,if_pos (by omega)]⟩⟩
    .exact⟨_,Rb,i+1,xp,rfl,by omega,E4,.inr ⟨o,y,rfl,by omega,gy,by rw[ff,if_neg (by omega)]⟩⟩
  .have aeu:(cK x).m.ev∉K:=eI c2;have ff:((L.take (i+1)).map cK).foldl (fo K) none=((L.take i).map cK).foldl (fo K) none:=by
    rw[dB];unfold fo;rw[if_neg aeu]
   refine⟨_,Rb,i+1,xp,rfl,by omega,E4,?_⟩;rw[ff];exact hI.imp id fun ⟨o,y,h1,h2,h3,h4⟩=>⟨o,y,h1,by omega,h3,h4⟩
 .rw[Yj (by omega)] at hI;exact⟨⟨out,rfl,hI.imp id fun ⟨o,y,h1,_,h3,h4⟩=>⟨o,y,h1,h3,h4⟩⟩,E⟩
theorem S9:cu Pz 106 57 1 24=true:=by kernel_rfl
theorem S8:cu Pz 107 4 1 1=true:=by kernel_rfl
structure AhM (g:Gl) (role:Int) (E:List (Sl × List Ev)) (B:List Bool) (n:Nat):Prop where
 e:E.map Prod.snd=(List.range n).map fun s:Nat=>ai g role (s:Nat)
 b:B=(List.range n).map fun s:Nat=>aV g role (s:Nat)
def Ld(ev en:Sl)(role:Int)(E:List (Sl × List Ev))(B:List Bool):List It:=.sl ev 57 1 ((E.map Prod.fst).map dv) :: .sl en 4 1 (B.map bC)::E.map (nest 33 5 (aC role))
theorem CW(g:Gl)(role:Int)(h:Heap)(hg:GI h g)(hM:KK g.ds)(hG:rQ g role):
  Fn Pz 58 #[g.v,.int .i64 role] h fun v h'=>∃(ev en:Sl) (E:List (Sl × List Ev)) (B:List Bool),v=.agg ⟨[.slice ev.a ev.n ev.c,.slice en.a en.n en.c]⟩/\St h h' (Ld ev en role E B)/\AhM g role E B g.n.toNat:=by
 apply adg (bs g.nm) g.hr g.hd g.n g.s g.e g.he g.ht role;unfold W58;have hN:=hG.1.num.n;refine (St.refl h).ao fun h9 hs=>?_;refine hs.ao fun cw hs=>?_;refine hs.ao fun jP hs=>?_;have hs:=(hs.cn 4 1).cn 57 1;have hs:St h jP (.af cw.size [.slice none 0 0,.slice none 0 0] 109 :: .sl ⟨none,0,0⟩ 57 1 [] :: .sl ⟨none,0,0⟩ 4 1 []::[.af h9.size [.slice none 0 0,.slice none 0 0] 109,.af h.size g.cs 27]):=hs.perm (List.perm_append_comm (l₁:=[It.sl ⟨none,0,0⟩ 57 1 [],.sl ⟨none,0,0⟩ 4 1 []]) (l₂:=[It.af cw.size [.slice none 0 0,.slice none 0 0] 109]) |>.append_right _);refine⟨fun x h' μ=>∃(i:Nat) (ev en:Sl) (E:List (Sl × List Ev)) (B:List Bool),x=(i:Int)/\g.n.toNat-i=μ/\i<=g.n.toNat/\St h h' (.af cw.size [.slice ev.a ev.n ev.c,.slice en.a en.n en.c] 109 :: .sl ev 57 1 ((E.map Prod.fst).map dv) :: .sl en 4 1 (B.map bC)::([.af h9.size [.slice none 0 0,.slice none 0 0] 109,.af h.size g.cs 27]++E.map (nest 33 5 (aC role))))/\AhM g role E B i,⟨_,0,⟨none,0,0⟩,⟨none,0,0⟩,[],[],rfl,rfl,Nat.zero_le _,by simpa using hs,⟨rfl,rfl⟩⟩,?_⟩;clear hs;rintro-_ fx μ ⟨i,ev,en,E,B,rfl,rfl,hi,hs,hA⟩;have hEl:E.length=i:=by have:=congrArg List.length hA.e;simpa using this
 have Aw:B.length=i:=by rw[hA.b];simp
 refine⟨g.n,hs.rd 4 rfl (i:=3) rfl,aQ (fun c=>?_) (fun c=>?_)⟩
 .refine⟨_,_,_,_,_,_,_,_,hs.at 4 rfl (o:=0) (n:=8) rfl,?_⟩;refine (zo g role (i:Int) fx (hg.ext hs.ext) hM hG ⟨by omega,by omega⟩).mono ?_;rintro _ y3 ⟨r,rfl,yR⟩;refine⟨r,aV g role (i:Int),0,rfl,?_⟩;have hs:=hs.join yR;refine⟨ev,hs.rd 0 rfl (i:=0) rfl,?_⟩;intro CC e32;refine hs.yp 0 1 rfl rfl S9 (x:=r) e32 rfl rfl (by rw[Yc];omega) (by decide) 0 (show 0<2 by decide) (by decide) fun ev' bA hs=>?_;refine⟨en,hs.rd 0 rfl (i:=1) rfl,?_⟩;intro oK e37;refine hs.yp 0 2 rfl rfl S8 (x:=aV g role (i:Int)) e37 rfl rfl (by omega) (by decide) 1 (show 1<2 by decide) (by decide) fun en' km hs=>?_;refine⟨_,(show g.n.toNat-(i+1)<g.n.toNat-i by omega),i+1,ev',en',E++[(r,ai g role (i:Int))],B++[aV g role (i:Int)],by rw[bd (by omega) (by omega)];omega,rfl,by omega,?_,⟨by rw[Ym,hA.e,List.range_succ,Ym];rfl,by rw[hA.b,List.range_succ,Ym];rfl⟩⟩;rw[Ym (f:=Prod.fst),Ym (f:=nest 33 5 (aC role))];have:=hs;simpa [aA,nest] using this
 .have dC:i=g.n.toNat:=by omega
  subst dC;refine⟨ev,en,hs.at 0 rfl (o:=0) (n:=2) rfl,?_⟩;refine hs.put 3 rfl (o:=0) (vs:=[.slice ev.a ev.n ev.c,.slice en.a en.n en.c]) rfl (show 2<=2 by decide) fun Az hs=>?_;refine⟨ev,en,hs.at 3 rfl (o:=0) (n:=2) rfl,ev,en,E,B,rfl,?_,hA⟩;refine hs.mT (R:=[.af cw.size [.slice ev.a ev.n ev.c,.slice en.a en.n en.c] 109,.af h9.size [.slice ev.a ev.n ev.c,.slice en.a en.n en.c] 109,.af h.size g.cs 27]) ?_;unfold Ld;refine (List.perm_append_comm (l₁:=[It.af cw.size [.slice ev.a ev.n ev.c,.slice en.a en.n en.c] 109])).trans ?_;refine .cons _ (.cons _ ?_);show List.Perm (([It.af h9.size [.slice ev.a ev.n ev.c,.slice en.a en.n en.c] 109,.af h.size g.cs 27]++E.map (nest 33 5 (aC role)))++[It.af cw.size [.slice ev.a ev.n ev.c,.slice en.a en.n en.c] 109]) _;refine (List.Perm.append_right _ List.perm_append_comm).trans ?_;rw[Yz];exact List.Perm.append_left _ (List.perm_append_comm (l₁:=[_,_]) (l₂:=[_]))
theorem S5:cu Pz 211 213 4 48=true:=by kernel_rfl
theorem Mx(n:Nat):ak Pz 211 n=(List.replicate n (⟨none,0,0⟩:Sl)).map fZ:=by
 have e:bN Pz 211=[.slice none 0 0]:=by kernel_rfl
 unfold ak;rw[e]
 induction n with
 | zero=>rfl
 | succ n ih=>rw[List.replicate_succ,pI,ih,List.replicate_succ];rfl
structure DG (g:Gl) (role:Int) (f:Nat->List gM) (R:List It) (MS:List (Sl × List lj)):Prop where
 l:MS.length=g.n.toNat
 s:∀(s:Nat) (q:Sl × List lj),MS[s]?=some q->q.2.map cK=f s
 p:∀q∈MS,∀a∈q.2,nest 65 3 Ac.cs (a.2.2,a.2.1.path)∈R/\a.2.1.path=iu g a.1 a.2.1.m/\a.2.1.path.length<=1000000/\a.1<g.es.length
theorem DG.more{g:Gl}{role:Int}{f:Nat->List gM}{R R':List It}{MS:List (Sl × List lj)}(h:DG g role f R MS)(hR:∀i∈R,i∈R'):DG g role f R' MS:=⟨h.l,h.s,fun q hq a ha=>by obtain⟨h1,h2⟩:=h.p q hq a ha;exact⟨hR _ h1,h2⟩⟩
theorem DG.len{g:Gl}{role:Int}{f:Nat->List gM}{R:List It}{MS:List (Sl × List lj)}(h:DG g role f R MS){s:Nat}{q:Sl × List lj}(hq:MS[s]?=some q):q.2.length=(f s).length:=by
 have:=congrArg List.length (h.s s q hq)
 rwa [Yc] at this
theorem DG.GF{g:Gl}{role:Int}{f f':Nat->List gM}{R:List It}{MS:List (Sl × List lj)}(h:DG g role f R MS){k:Nat}{q:Sl × List lj}(hq:MS[k]?=some q)(r:Sl){a:lj}(h1:f' k=f k++[cK a])(h2:∀s,s≠k->f' s=f s)
  (hp:nest 65 3 Ac.cs (a.2.2,a.2.1.path)∈R/\a.2.1.path=iu g a.1 a.2.1.m/\a.2.1.path.length<=1000000/\a.1<g.es.length):DG g role f' R (MS.set k (r,q.2++[a])):=by
 have hk:=(Ya.1 hq).1;refine⟨by rw[lh,h.l],fun s z hz=>?_,fun z hz b hb=>?_⟩
 .by_cases e:k=s
  .subst e;rw[Yq hk] at hz;cases hz;rw[Ym,h.s k q hq,h1];rfl
  .rw[Yy e] at hz;rw[h.s s z hz,h2 s (Ne.symm e)]
 .rcases List.mem_or_eq_of_mem_set hz with hz | rfl
  .exact h.p z hz b hb
  .rcases Yk.1 hb with hb | hb
   .exact h.p q (Yb hq) b hb
   .rw[Ye] at hb;rw[hb];exact hp
def FR(ob gb:Nat)(g:Gl)(MS:List (Sl × List lj))(R:List It):List It:=[.af ob ((MS.map Prod.fst).map fZ) 211,.af gb g.cs 27]++MS.map (nest 213 4 rC)++R
def PB(g:Gl)(role:Int)(j s:Nat):List gM:=(pA g.es j s).flatMap (iU g role)
theorem yn{g:Gl}{role:Int}{j:Nat}{x:Ed}(hx:g.es[j]?=some x)(s:Nat):PB g role (j+1) s=PB g role j s++(if x.f=(s:Int) then iU g role j else []):=by
 unfold PB;rw[nv hx,List.flatMap_append];congr 1;split
 .simp
 .rfl
theorem kY(g:Gl)(role:Int)(h:Heap)(hg:GI h g)(hV:ah g):
  Fn Pz 59 #[g.v,.int .i64 role] h fun v h'=>∃(ob:Nat) (MS:List (Sl × List lj)) (R:List It),v=.slice (some ⟨ob,0,none⟩) g.n.toNat g.n.toNat/\St h h' (.sl ⟨some ⟨ob,0,none⟩,g.n.toNat,g.n.toNat⟩ 211 1 ((MS.map Prod.fst).map dv)::(MS.map (nest 213 4 rC)++R))/\DG g role (dq g role) R MS/\∀q∈MS,q.2.length<=160000:=by
 apply adf (bs g.nm) g.hr g.hd g.n g.s g.e g.he g.ht role;unfold W59;have hN:=hV.num.n;have hM:=hV.num.m;have nI:=hg.e.ln;refine (St.refl h).ao fun h9 hs=>?_;refine⟨g.n,hs.rd 0 rfl (i:=3) rfl,⟨by omega,by omega,by omega⟩,?_⟩;rw[Mx];refine hs.ao fun jP hs=>?_;have hs:=hs.kh (α:=lj) (e:=213) (k:=4) (cs:=rC) (A:=[_,_]) (B:=[]) g.n.toNat;have hs:St h jP (FR h9.size h.size g (List.replicate g.n.toNat ((⟨.none,0,0⟩,[]):Sl × List lj)) []):=by
  unfold FR;rw[List.map_replicate (f:=Prod.fst)];exact hs
 have hA:DG g role (PB g role 0) [] (List.replicate g.n.toNat ((⟨.none,0,0⟩,[]):Sl × List lj)):=by
  refine⟨Yg,fun s q hq=>?_,fun q hq a ha=>?_⟩
  .have:=List.eq_of_mem_replicate (Yb hq);rw[this];rfl
  .have:=List.eq_of_mem_replicate hq;rw[this] at ha;cases ha
 refine⟨fun x h' μ=>∃(i:Nat) (MS:List (Sl × List lj)) (R:List It),x=(i:Int)/\g.es.length-i=μ/\i<=g.es.length/\St h h' (FR h9.size h.size g MS R)/\DG g role (PB g role i) R MS/\∀q∈MS,q.2.length<=400*i,⟨_,0,_,[],rfl,rfl,Nat.zero_le _,hs,hA,fun q hq=>by rw[List.eq_of_mem_replicate hq];exact Nat.zero_le _⟩,?_⟩;clear hs hA;rintro-_ fx μ ⟨i,MS,R,rfl,rfl,hi,hs,hA,hB⟩;have Y5:=hA.l;have xp:i<g.es.length->IntKind.wrap .i64 ((i:Int)+1)=((i+1:Nat):Int):=fun hi=>by rw[bd (by omega) (by omega)];omega
 refine⟨g.he,hs.rd 1 rfl (i:=6) rfl,aQ (fun c=>?_) (fun c=>?_)⟩
 .refine⟨g.he,hs.rd 1 rfl (i:=6) rfl,?_⟩;refine (hg.e.rw.ext hs.ext).ax (by omega) (by omega) fun b19 o20 x gx t=>?_;replace gx:g.es[i]?=some x:=gx;have tn:=hV.num.e x (Yb gx);unfold fp at tn;refine⟨_,_,_,_,_,_,t,?_⟩;refine hs.aj (vs:=x.cs) rfl rfl fun Ur hs=>?_;refine⟨x.b,hs.rd 0 rfl (i:=2) rfl,dY (fun cb=>?_) (fun cb=>?_)⟩
  .refine⟨_,(show g.es.length-(i+1)<g.es.length-i by omega),i+1,MS,R,xp (by omega),rfl,by omega,hs.drop 1,⟨hA.l,fun s q hq=>?_,hA.p⟩,fun q hq=>by have:=hB q hq;omega⟩;rw[hA.s s q hq,yn gx];split
   .unfold iU;rw[aI gx,if_neg cb,Yw]
   .rw[Yw]
  .refine⟨_,_,_,_,_,_,_,_,hs.at 2 rfl (o:=0) (n:=8) rfl,?_⟩;refine (yl g i x Ur (hg.ext hs.ext) hV gx).mono ?_;rintro _ Nh ⟨s,A,L,rfl,Pf,hAp,xr,hAL,nK⟩;refine⟨s,rfl,?_⟩;have ki:=(xr.len 0 (s:=s) rfl (by decide)).1;rw[Yc] at ki;have Uh:(ey g i).length=A.length:=by rw[<-Pf,Yc]
   have dA:St h Nh ([.af fx.size x.cs 67,.af h9.size ((MS.map Prod.fst).map fZ) 211,.af h.size g.cs 27]++MS.map (nest 213 4 rC)++(.sl s 210 3 (A.map dK)::(L++R))):=by
    refine (hs.join xr).perm ?_;unfold FR;show List.Perm ((.af fx.size x.cs 67::([.af h9.size ((MS.map Prod.fst).map fZ) 211,.af h.size g.cs 27]++MS.map (nest 213 4 rC)++R))++(.sl s 210 3 (A.map dK)::L)) _;rw[List.cons_append,Yz _ R];refine .cons _ (List.Perm.append_left _ ?_);refine List.perm_append_comm.trans ?_;rw[List.cons_append]
   refine⟨fun y h' μ'=>∃(k:Nat) (MS':List (Sl × List lj)),y=(k:Int)/\s.n-k=μ'/\k<=s.n/\St h h' ([.af fx.size x.cs 67,.af h9.size ((MS'.map Prod.fst).map fZ) 211,.af h.size g.cs 27]++MS'.map (nest 213 4 rC)++(.sl s 210 3 (A.map dK)::(L++R)))/\DG g role (fun z=>PB g role i z++(if x.f=(z:Int) then vg g i ((ey g i).take k) else [])) (L++R) MS'/\∀q∈MS',q.2.length<=400*i+k,⟨_,0,MS,rfl,rfl,Nat.zero_le _,dA,⟨hA.l,fun z q hq=>by
    have e0:vg g i ((ey g i).take 0)=[]:=by rw[iY];rfl
    rw[hA.s z q hq,e0,ite_self,Yw],(hA.more fun j hj=>List.mem_append_right _ hj).p⟩,fun q hq=>hB q hq⟩,?_⟩
   clear hs dA hA Y5 hB;rintro-_ oJ μ' ⟨k,MS,rfl,rfl,hk,hs,hA,hB⟩;have Y5:=hA.l;have EV:x.f.toNat<MS.length:=by omega
   obtain⟨q,hq⟩:=get_some (l:=MS) (i:=x.f.toNat) EV;have Au:=hA.len hq;have lq:=(hs.kI hq (by omega)).ln;have hq6:q.2.length<=160400:=by have:=hB q (Yb hq);omega
   refine aQ (fun c2=>?_) (fun c2=>?_)
   .obtain⟨a,ga⟩:=get_some (l:=A) (i:=k) (by omega);have gm:(ey g i)[k]?=some a.1.m:=by rw[<-Pf,Yd,ga];rfl
    have hsi:([.af fx.size x.cs 67,.af h9.size ((MS.map Prod.fst).map fZ) 211,.af h.size g.cs 27]++MS.map (nest 213 4 rC)++(.sl s 210 3 (A.map dK)::(L++R)))[3+MS.length]?=some (.sl s 210 3 (A.map dK)):=by
     rw[sz (by simp;omega)];simp only[Yh,Yc,jC,List.length_nil];rw[show 3+MS.length-(0+1+1+1+MS.length)=0 by omega];rfl
    have rd:∀ {K:Nat->Nat->Prop},(∀b o,aY oJ ⟨b,o+Int.toNat (k:Int)*3,none⟩ (dK a)->K b o)->NB s.a fun b o=>(0<=(k:Int)/\(k:Int)<(s.n:Nat))/\K b o:=fun {K} hK=>by
     refine (hs.rows (3+MS.length) (s:=s) (cs:=dK) (l:=A) hsi (by decide)).ax (by omega) (by omega) fun b o d gd t=>?_;replace gd:A[k]?=some d:=gd;rw[ga] at gd;cases gd;exact hK b o t
    have QY:∀z:Nat,PB g role i z++(if x.f=(z:Int) then vg g i ((ey g i).take (k+1)) else [])=(PB g role i z++(if x.f=(z:Int) then vg g i ((ey g i).take k) else []))++(if x.f=(z:Int) then (if a.1.m.p≠x.a then [jz g i a.1.m] else []) else []):=fun z=>by
     rw[Yz];congr 1;split
     .rw[ru gm,aI gx]
     .rfl
    have Rb:s.n-(k+1)<s.n-k:=by omega
    have XF:IntKind.wrap .i64 ((k:Int)+1)=((k+1:Nat):Int):=by rw[bd (by omega) (by omega)];omega
    refine rd fun b47 o48 t=>⟨_,t.nth 0 rfl,x.a,hs.rd 0 rfl (i:=1) rfl,dY (fun c3=>?_) (fun c3=>?_)⟩
    .refine⟨x.f,hs.rd 0 rfl (i:=0) rfl,x.f,hs.rd 0 rfl (i:=0) rfl,⟨by omega,by omega⟩,?_⟩;rw[show 0+Int.toNat x.f*1=x.f.toNat by omega];refine⟨q.1,hs.rd 1 rfl (by rw[Yd,Yd,hq];rfl),?_⟩;refine rd fun ZY Xj t2=>⟨_,_,t2.DP 2 rfl,rd fun b58 o59 t3=>⟨a.2,t3.nth 2 rfl,?_⟩⟩;refine hs.aq fun Ph E61 hs=>⟨E61.sm,?_⟩;have hs:St h Ph ((.af oJ.size (rC (i,a)) 213::[.af fx.size x.cs 67,.af h9.size ((MS.map Prod.fst).map fZ) 211,.af h.size g.cs 27])++MS.map (nest 213 4 rC)++(.sl s 210 3 (A.map dK)::(L++R))):=hs;refine hs.iw hq S5 ((i,a):lj) (hs.at 0 rfl (o:=0) (n:=4) rfl) rfl rfl (by omega) (by simp only[maxLen];omega) fun r oI hr eO=>?_;refine⟨bG (hs.same eO 1 1 rfl rfl) eJ,⟨by omega,by omega⟩,?_⟩;refine eO.put 2 rfl (o:=x.f.toNat) (vs:=[fZ r]) rfl (by rw[Yc,Yc,Yv];omega) fun tw hs=>?_;rw[cI fZ (by rw[Yc];omega)] at hs;refine⟨_,Rb,k+1,MS.set x.f.toNat (r,q.2++[((i,a):lj)]),XF,rfl,by omega,by rw[List.map_set];exact hs.drop 1,?_,fun z hz=>?_⟩;rotate_left
     .rcases List.mem_or_eq_of_mem_set hz with hz | rfl
      .have:=hB z hz;omega
      .have:=hB q (Yb hq);simp only[Yh,Yv];omega
     obtain⟨ap1,ap2⟩:=hAp a (Yb ga);refine hA.GF hq r ?_ (fun z hz=>?_) ⟨List.mem_append_left _ (hAL a (Yb ga)),ap1,ap2,(Ya.1 gx).1⟩
     .rw[QY,if_pos (show x.f=((x.f.toNat:Nat):Int) by omega),if_pos (show x.f=((x.f.toNat:Nat):Int) by omega),if_pos c3];unfold jz cK;simp only;rw[ap1]
     .rw[QY,if_neg (show ¬x.f=(z:Int) by omega),if_neg (show ¬x.f=(z:Int) by omega),Yw]
    .refine⟨_,Rb,k+1,MS,XF,rfl,by omega,hs,⟨hA.l,fun z q hq=>?_,hA.p⟩,fun z hz=>by have:=hB z hz;omega⟩;rw[hA.s z q hq,QY,if_neg (show ¬a.1.m.p≠x.a by rw[c3];simp),ite_self,Yw]
   .have hkk:k=A.length:=by omega
    refine⟨_,(show g.es.length-(i+1)<g.es.length-i by omega),i+1,MS,.sl s 210 3 (A.map dK)::(L++R),xp (by omega),rfl,by omega,?_,⟨hA.l,fun z q hq=>?_,(hA.more fun j hj=>Yn _ hj).p⟩,fun z hz=>by have:=hB z hz;omega⟩
    .unfold FR;exact hs.drop 1
    .rw[hA.s z q hq,yn gx];congr 1;split
     .unfold iU;rw[aI gx,if_pos cb,Yj (by omega)]
     .rfl
 .have dC:i=g.es.length:=by omega
  subst dC;refine⟨h9.size,MS,R,rfl,?_,⟨hA.l,fun s q hq=>hA.s s q hq,hA.p⟩,fun q hq=>by have:=hB q hq;omega⟩;have hs:=hs.mT (L':=.af h9.size ((MS.map Prod.fst).map fZ) 211::(MS.map (nest 213 4 rC)++R)) (R:=[.af h.size g.cs 27]) (by
   unfold FR;refine .cons _ ?_;show List.Perm (([It.af h.size g.cs 27]++MS.map (nest 213 4 rC))++R) _;rw[Yz];exact List.perm_append_comm)
  exact hs.dz g.n.toNat 1 ((MS.map Prod.fst).map dv) (by
   generalize MS.map Prod.fst=l
   induction l with
   | nil=>rfl
   | cons a l ih=>rw[iM,iM,pI,ih];rfl) (fun r hr=>by obtain⟨x,_,rfl⟩:=Yp.1 hr;rfl) (by rw[Yc,Yc,hA.l]) (by simp only[maxLen];omega)
end Go.VC
end
