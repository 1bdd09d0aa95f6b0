/- SxLk SxLl SxLm SxLn0 SxLn SxLo SxLp SxLq0 SxLq SxLr0 SxLr SxLt0 SxLt SxLu SxLx0. -/
import Derived.Test.YtajglkbckhgboaaGreatDoorDM07
set_option linter.all false
set_option maxRecDepth 100000
set_option maxHeartbeats 8000000

section
namespace Go.VC
open Go.Proofs Go.LexS
theorem fH{α:Type}{L:List α}(hn:L.Nodup){i j:Nat}{x:α}(hi:L[i]?=some x)(hj:L[j]?=some x):i=j:=by
 obtain⟨h1,e1⟩:=Ya.1 hi;obtain⟨h2,e2⟩:=Ya.1 hj;have hp:=List.pairwise_iff_getElem.1 hn;rcases Nat.lt_trichotomy i j with h | h | h
 .exact absurd (e1.trans e2.symm) (hp i j h1 h2 h)
 .exact h
 .exact absurd (e2.trans e1.symm) (hp j i h2 h1 h)
structure RI (g:Gl) (role:Int) (i c:Nat) (A:List (Nat × Nat)) (Q:List (Sl × List bj)) (l:List ((Nat × Nat) × Sl)):Prop where
 qn:Q.length=c
 q:∀(k:Nat) (q:Sl × List bj),Q[k]?=some q->∃p,A[k]?=some p/\aW l p=some q.1/\q.2=bP g.es role p.1 p.2
 ky:∀p,p∈l.map Prod.fst ↔ p∈A
 ln:(l.map Prod.fst).Nodup
 nd:A.Nodup
 pr:∀p∈A,eR g role p
 st:(g.s.toNat,g.s.toNat)∈A
 cl:∀(k:Nat) (p:Nat × Nat),k<i->A[k]?=some p->∀m∈bP g.es role p.1 p.2,bD m∈A
theorem RI.iT{g:Gl}{role:Int}{i c:Nat}{A:List (Nat × Nat)}{Q:List (Sl × List bj)}{l:List ((Nat × Nat) × Sl)}(h:RI g role i c A Q l)(hV:ah g):∀q∈l,eW q.1:=fun q hq=>by
 have h1:=(h.pr _ ((h.ky q.1).1 (Yp.2 ⟨q,hq,rfl⟩))).lt hV;have:=hV.num.n;exact⟨by omega,by omega⟩
theorem RI.len{g:Gl}{role:Int}{i c:Nat}{A:List (Nat × Nat)}{Q:List (Sl × List bj)}{l:List ((Nat × Nat) × Sl)}(h:RI g role i c A Q l)(hV:ah g):A.length<=g.n.toNat*g.n.toNat:=
 uY h.nd fun p hp=>by have:=(h.pr p hp).lt hV;have:=hV.num.n;exact⟨by omega,by omega⟩
theorem RI.GF{g:Gl}{role:Int}{i:Nat}{A:List (Nat × Nat)}{Q:List (Sl × List bj)}{l:List ((Nat × Nat) × Sl)}(h:RI g role i i A Q l){p:Nat × Nat}(hp:A[i]?=some p)(r:Sl):RI g role i (i+1) A (Q++[(r,bP g.es role p.1 p.2)]) (cL l p r):=by
 refine⟨by rw[Yh,h.qn];rfl,fun k q hq=>?_,fun x=>?_,fI _ _ _ h.ln,h.nd,h.pr,h.st,h.cl⟩
 .by_cases hk:k<i
  .rw[lg (by rw[h.qn];exact hk)] at hq;obtain⟨p',h1,h2,h3⟩:=h.q k q hq;refine⟨p',h1,?_,h3⟩;rw[de,if_neg (fun e=>by subst e;have:=fH h.nd h1 hp;omega)];exact h2
  .rw[sz (by rw[h.qn];omega),h.qn] at hq;have h9:=(Ya.1 hq).1;rw[Yv] at h9;obtain rfl:k=i:=by omega
   rw[Nat.sub_self] at hq;cases hq;exact⟨p,hp,by rw[de,if_pos rfl],rfl⟩
 .rw[fu,h.ky];exact⟨fun h9=>h9.elim id fun e=>by rw[e];exact Yb hp,.inl⟩
theorem RI.new{g:Gl}{role:Int}{i c:Nat}{A:List (Nat × Nat)}{Q:List (Sl × List bj)}{l:List ((Nat × Nat) × Sl)}(h:RI g role i c A Q l)(hi:i<=A.length){p:Nat × Nat}(hp:p∉A)(hr:eR g role p)(r:Sl):RI g role i c (A++[p]) Q (cL l p r):=by
 refine⟨h.qn,fun k q hq=>?_,fun x=>?_,fI _ _ _ h.ln,?_,fun x hx=>?_,List.mem_append_left _ h.st,fun k x hk hx m hm=>?_⟩
 .obtain⟨p',h1,h2,h3⟩:=h.q k q hq;refine⟨p',by rw[lg (Ya.1 h1).1];exact h1,?_,h3⟩;rw[de,if_neg (fun e=>hp (by subst e;exact Yb h1))];exact h2
 .rw[fu,h.ky,Yk,Ye]
 .rw[List.nodup_append];exact⟨h.nd,by simp,fun a ha b hb e=>by rw[Ye] at hb;subst hb;subst e;exact hp ha⟩
 .rcases Yk.1 hx with hx | hx
  .exact h.pr x hx
  .rw[Ye] at hx;rw[hx];exact hr
 .rcases Nat.lt_or_ge k A.length with h9 | h9
  .rw[lg h9] at hx;exact List.mem_append_left _ (h.cl k x hk hx m hm)
  .omega
def zv(all:Sl)(mb:Nat)(A:List (Nat × Nat))(Q:List (Sl × List bj))(l:List ((Nat × Nat) × Sl))(R:List It):List It:=
 .sl all 97 2 (A.map pC) :: .mp mb (l.map fun q=>(pV q.1,fZ q.2))::(R++Q.map (nest 200 4 bj.cs))
theorem Bu{all:Sl}{mb:Nat}{A:List (Nat × Nat)}{Q:List (Sl × List bj)}{l:List ((Nat × Nat) × Sl)}{R0:It}{i:Nat}{q:Sl × List bj}(hq:Q[i]?=some q):(zv all mb A Q l [R0])[3+i]?=some (nest 200 4 bj.cs q):=by
 unfold zv;rw[show 3+i=i+1+1+1 by omega,List.getElem?_cons_succ,List.getElem?_cons_succ,List.singleton_append,List.getElem?_cons_succ,Yd,hq];rfl
structure Lf (h:Heap) (g:Gl) (role:Int) (all:Sl) (mb:Nat) (A:List (Nat × Nat)) (l:List ((Nat × Nat) × Sl)):Prop where
 ra:RL h 2 all pC A
 mp:It.ok h (.mp mb (l.map fun q=>(pV q.1,fZ q.2)))
 lk:∀q∈l,eW q.1
 ln:(l.map Prod.fst).Nodup
 mv:∀p∈A,∃r,aW l p=some r/\RL h 4 r bj.cs (bP g.es role p.1 p.2)
 nd:A.Nodup
 pr:∀p,p∈A ↔ eR g role p
theorem Lf.ext{h h':Heap}{g:Gl}{role:Int}{all:Sl}{mb:Nat}{A:List (Nat × Nat)}{l:List ((Nat × Nat) × Sl)}(hM:Lf h g role all mb A l)(E:Ext h h'):Lf h' g role all mb A l:=
 ⟨hM.ra.ext E,hM.mp.cr fun b hb=>E.2 b (hM.mp.lt hb),hM.lk,hM.ln,fun p hp=>(hM.mv p hp).imp fun r hr=>⟨hr.1,hr.2.ext E⟩,hM.nd,hM.pr⟩
theorem JH:cu Pz 92 97 2 16=true:=by kernel_rfl
theorem zu(b:Nat)(g:Gl)(role:Int)(ho:Sl)(os:Nat->Sl)(h:Heap)(hA:Lk h b g role ho os)(hV:ah g):
  Fn Pz 50 #[.pointer (some ⟨b,0,none⟩)] h fun v h'=>Ext h h'/\∃(all:Sl) (mb:Nat) (A:List (Nat × Nat)) (l:List ((Nat × Nat) × Sl)),v=.tuple ⟨[.slice all.a all.n all.c,.map (some mb)]⟩/\Lf h' g role all mb A l:=by
 apply adk ⟨b,0,none⟩;unfold W50;have hN:=hV.num.n;have hM:=hV.num.m;have ki:((g.s.toNat:Nat):Int)=g.s:=Int.toNat_of_nonneg (by omega);have hnn:g.n.toNat*g.n.toNat<=200*200:=Nat.mul_le_mul (by omega) (by omega);refine⟨g.s,hA.at_.nth 4 rfl,g.s,hA.at_.nth 4 rfl,?_⟩;refine (St.refl h).aq fun h3 E3 hs=>⟨E3.sm,?_⟩;refine hs.put 0 rfl (o:=0) (vs:=[.int .i64 g.s,.int .i64 g.s]) rfl (bu 2) fun h4 hs=>?_;refine⟨g.s,g.s,hs.at 0 rfl (o:=0) (n:=2) rfl,?_⟩;refine hs.ao fun h7 hs=>?_;have hs:=hs.dz 1 2 ([(g.s.toNat,g.s.toNat)].map pC) (by unfold pC;simp only[iM,List.map_nil,pI,List.flatten_nil,Yw];rw[ki]) (fun r hr=>by obtain⟨x,_,rfl⟩:=Yp.1 hr;rfl) rfl (by decide);refine hs.B9 93 fun cw E10 hs=>⟨some h7.size,rfl,?_⟩;refine⟨((g.s.toNat:Nat):Int),((g.s.toNat:Nat):Int),by rw[ki];exact hs.at 2 rfl (o:=0) (n:=2) rfl,?_⟩;refine hs.Et (cv:=fZ) (l:=[]) yG 0 rfl (fun q hq=>by cases hq) .nil (a:=(g.s.toNat,g.s.toNat)) ⟨by simp only;omega,by simp only;omega⟩ ⟨none,0,0⟩ fun AB hs=>?_;have hI:RI g role 0 0 [(g.s.toNat,g.s.toNat)] [] [((g.s.toNat,g.s.toNat),⟨none,0,0⟩)]:=
  ⟨rfl,fun k q hq=>(by simp at hq),fun p=>by simp,by simp,by simp,fun p hp=>by rw[Ye] at hp;rw[hp];exact .start,by simp,fun k p hk=>by omega⟩
 refine⟨fun all x h' m=>∃(i:Nat) (A:List (Nat × Nat)) (Q:List (Sl × List bj)) (l:List ((Nat × Nat) × Sl)),x=i/\m=g.n.toNat*g.n.toNat-i/\i<=A.length/\St h h' (zv all h7.size A Q l [.af h.size [.int .i64 g.s,.int .i64 g.s] 97])/\RI g role i i A Q l,⟨_,0,_,[],_,rfl,rfl,Nat.zero_le _,hs.perm (List.Perm.swap _ _ _),hI⟩,?_⟩;clear hs hI;rintro-all _ h19 m ⟨i,A,Q,l,rfl,rfl,hi,hs,hI⟩;have nK:=hI.len hV;have hal:=hs.len 0 (s:=all) (e:=97) (n:=2) (rows:=A.map pC) rfl (by omega);rw[Yc] at hal;refine aQ (fun c=>?_) (fun c=>?_)
 .refine (hs.rows 0 rfl (by omega)).ax (by omega) (by omega) fun b20 o21 p gp t=>?_;replace gp:A[i]?=some p:=gp;have Il:=hI.pr p (Yb gp);have rK:=Il.lt hV;refine⟨((p.1:Nat):Int),((p.2:Nat):Int),t,?_⟩;refine (Eu b g role ho os p.1 p.2 h19 (hA.ext hs.ext) hV rK.1 rK.2).mono ?_;rintro _ Fl ⟨r,rfl,bQ⟩;refine⟨r,rfl,?_⟩;replace hs:=hs.join bQ;refine (hs.rows 0 (s:=all) (e:=97) (n:=2) (cs:=pC) (l:=A) rfl (by omega)).ax (by omega) (by omega) fun b27 o28 p' gp' t'=>?_;replace gp':A[i]?=some p':=gp';rw[gp] at gp';cases gp';refine⟨((p.1:Nat):Int),((p.2:Nat):Int),t',?_⟩;refine hs.Et (cv:=fZ) (l:=l) yG 1 rfl (hI.iT hV) hI.ln (a:=p) ⟨by omega,by omega⟩ r fun xH hs=>?_;have pQ:=hI.GF gp r;have hs:St h xH (zv all h7.size A (Q++[(r,bP g.es role p.1 p.2)]) (cL l p r) [.af h.size [.int .i64 g.s,.int .i64 g.s] 97]):=by
   refine hs.perm (List.Perm.of_eq ?_);unfold zv;rw[Ym];simp[nest]
  clear bQ t t';have Gh:=lS (es:=g.es) (role:=role) (s:=p.1) (t:=p.2) hM;refine⟨fun all x h' m=>∃(j:Nat) (A':List (Nat × Nat)) (l':List ((Nat × Nat) × Sl)),x=j/\m=r.n-j/\j<=r.n/\A.length<=A'.length/\St h h' (zv all h7.size A' (Q++[(r,bP g.es role p.1 p.2)]) l' [.af h.size [.int .i64 g.s,.int .i64 g.s] 97])/\Ext xH xH/\RI g role i (i+1) A' (Q++[(r,bP g.es role p.1 p.2)]) l'/\A'[i]?=some p/\∀m∈(bP g.es role p.1 p.2).take j,bD m∈A',⟨_,0,A,_,rfl,rfl,Nat.zero_le _,bu _,hs,⟨bu _,fun _ _=>rfl⟩,pQ,gp,fun m hm=>by rw[iY] at hm;cases hm⟩,?_⟩;clear hs pQ;rintro-all2 _ oK m ⟨j,A',l',rfl,rfl,hj,hAA,hs,-,pQ,gp2,dU⟩;have hgq:(Q++[(r,bP g.es role p.1 p.2)])[i]?=some (r,bP g.es role p.1 p.2):=by
   rw[sz (by rw[hI.qn];exact bu _),hI.qn,Nat.sub_self];rfl
  have Am:Rw oK 4 r ((bP g.es role p.1 p.2).map bj.cs):=hs.rw (3+i) (Bu hgq) (by omega);have l8:=Am.ln;have ahZ:=pQ.len hV;have aeR:=hs.len 0 (s:=all2) (e:=97) (n:=2) (rows:=A'.map pC) rfl (by omega);rw[Yc] at aeR;refine aQ (fun c2=>?_) (fun c2=>?_)
  .refine Am.ax (by omega) (by omega) fun b38 o39 mv gm t=>?_;replace gm:(bP g.es role p.1 p.2)[j]?=some mv:=gm;have EZ:=Yb gm;have Cj:=qv hV rK EZ;refine⟨mv.x,mv.y,mv.s,mv.t,t,?_⟩;refine hs.aj (vs:=mv.cs) rfl rfl fun CA hs=>?_;refine⟨((bD mv).1:Nat),((bD mv).2:Nat),by rw[Cj.2.2.1,Cj.2.2.2];exact hs.at 0 rfl (o:=2) (n:=2) rfl,?_⟩;refine hs.Ca (cv:=fZ) (l:=l') yG 2 rfl (pQ.iT hV) pQ.ln (a:=bD mv) ⟨by omega,by omega⟩ ?_;refine⟨(aW l' (bD mv)).getD ⟨none,0,0⟩,(aW l' (bD mv)).isSome,by cases aW l' (bD mv)<;>rfl,?_⟩;refine aa (fun c3=>?_) (fun c3=>?_)
   .have bM:bD mv∉A':=fun hm=>by
     have h9:=(df (bD mv) l').2 ((pQ.ky _).2 hm);rw[h9] at c3;cases c3
    refine⟨((bD mv).1:Nat),((bD mv).2:Nat),by rw[Cj.2.2.1,Cj.2.2.2];exact hs.at 0 rfl (o:=2) (n:=2) rfl,?_⟩;refine hs.Et (cv:=fZ) (l:=l') yG 2 rfl (pQ.iT hV) pQ.ln (a:=bD mv) ⟨by omega,by omega⟩ ⟨none,0,0⟩ fun Uq hs=>?_;refine⟨((bD mv).1:Nat),((bD mv).2:Nat),by rw[Cj.2.2.1,Cj.2.2.2];exact hs.at 0 rfl (o:=2) (n:=2) rfl,?_⟩;refine hs.app 1 rfl JH (m:=1) [pC (bD mv)] rfl rfl (fun r hr=>by rw[Ye] at hr;rw[hr];rfl) rfl (by omega) (by simp only[maxLen];omega) fun KR uT n58 hs=>?_;have hI3:=pQ.new (by omega) bM (.step Il EZ) ⟨none,0,0⟩;refine⟨_,by omega,j+1,A'++[bD mv],_,by rw[bd (by omega) (by omega)];omega,rfl,by omega,by rw[Yh];omega,?_,⟨bu _,fun _ _=>rfl⟩,hI3,by rw[lg (by omega)];exact gp2,fun m hm=>?_⟩
    .have hs:=hs.drop 1;unfold zv;rw[Ym (f:=pC)];exact hs
    .rw[ae gm,Yk,Ye] at hm;rcases hm with hm | rfl
     .exact List.mem_append_left _ (dU m hm)
     .simp
   .have dC:bD mv∈A':=(pQ.ky _).1 ((df (bD mv) l').1 (bT c3));refine⟨_,by omega,j+1,A',l',by rw[bd (by omega) (by omega)];omega,rfl,by omega,hAA,hs.drop 1,⟨bu _,fun _ _=>rfl⟩,pQ,gp2,fun m hm=>?_⟩;rw[ae gm,Yk,Ye] at hm;rcases hm with hm | rfl
    .exact dU m hm
    .exact dC
  .rw[Yj (by omega)] at dU;refine⟨_,by omega,i+1,A',_,l',by rw[bd (by omega) (by omega)];omega,rfl,by omega,hs,⟨pQ.qn,pQ.q,pQ.ky,pQ.ln,pQ.nd,pQ.pr,pQ.st,fun k x hk hx m hm=>?_⟩⟩;by_cases Rf:k=i
   .subst Rf;rw[gp2] at hx;cases hx;exact dU m hm
   .exact pQ.cl k x (by omega) hx m hm
 .refine⟨hs.ext,all,h7.size,A,l,rfl,RL.zF hs 0 rfl (by omega) (by omega),hs.get (k:=1) rfl,hI.iT hV,hI.ln,fun p hp=>?_,hI.nd,fun p=>⟨hI.pr p,fun hp=>?_⟩⟩
  .obtain⟨k,hk⟩:=Yf.1 hp;have nH:=(Ya.1 hk).1;obtain⟨q,hq⟩:=get_some (l:=Q) (i:=k) (by rw[hI.qn];omega);obtain⟨p',h1,h2,h3⟩:=hI.q k q hq;rw[hk] at h1;cases h1;have Gh:=lS (es:=g.es) (role:=role) (s:=p.1) (t:=p.2) hM;refine⟨q.1,h2,?_⟩;rw[<-h3];exact RL.zF hs (3+k) (Bu hq) (by omega) (by rw[h3];omega)
  .induction hp with
   | start=>exact hI.st
   | step _ hm ih=>
    obtain⟨k,hk⟩:=Yf.1 ih;exact hI.cl k _ (by have:=(Ya.1 hk).1;omega) hk _ hm
structure gM where
 e:Int
 n:Int
 m:Ms
def gM.cs(x:gM):List Value:=[.int .i64 x.e,.int .i64 x.n,.int .i64 x.m.p,.int .i64 x.m.l]
def Ms.ev(m:Ms):Ev:=⟨false,m.p,m.l⟩
def fo(K:List Ev)(b:Option gM)(x:gM):Option gM:=
 if x.m.ev∈K then (match b with | none=>some x | some y=>if x.n<y.n then some x else b) else b
def cC(K:List Ev)(L:List gM):Option gM:=L.foldl (fo K) none
def cV:gM:=⟨0,0,⟨0,0⟩⟩
def ArB(b:Option gM):Prop:=∀y,b=some y->0<y.n
structure An where
 ho:Sl
 os:Nat->Sl
 bZ:Sl
 fi:List Fs
 bV:Sl
 li:List Lm
 bx:Sl
 ag:List Bool
 cm:Sl
 ow:List Bool
 cz:Sl
 ar:List (Sl × List gM)
structure sC (h:Heap) (b:Nat) (g:Gl) (role:Int) (X:An):Prop where
 gg:Lk h b g role X.ho X.os
 r:UK h ⟨b,0,none⟩ role X.bZ X.bV X.bx X.cm X.fi X.li X.ag X.ow
 a:hc h ⟨b,14,none⟩=some (.slice X.cz.a X.cz.n X.cz.c)
 ra:RL h 1 X.cz dv (X.ar.map Prod.fst)
 re:∀q∈X.ar,RL h 4 q.1 gM.cs q.2
 nf:X.fi.length=g.n.toNat
 nl:X.li.length=g.n.toNat
 na:X.ag.length=g.n.toNat
 nw:X.ow.length=g.n.toNat
 nr:X.ar.length=g.n.toNat
theorem sC.ext{h h':Heap}{b:Nat}{g:Gl}{role:Int}{X:An}(hA:sC h b g role X)(E:Ext h h'):sC h' b g role X:=
 ⟨hA.gg.ext E,hA.r.ext E,aw E hA.a,hA.ra.ext E,fun q hq=>(hA.re q hq).ext E,hA.nf,hA.nl,hA.na,hA.nw,hA.nr⟩
theorem kX(b:Nat)(g:Gl)(role:Int)(X:An)(s t:Nat)(fs:Fs)(q:Sl × List gM)(h:Heap)(hA:sC h b g role X)(gt:X.fi[t]?=some fs)(gq:X.ar[s]?=some q)(hq:∀x∈q.2,0<x.n):
  Fn Pz 152 #[.pointer (some ⟨b,0,none⟩),.agg ⟨[.int .i64 (s:Nat),.int .i64 (t:Nat)]⟩] h fun v h'=>Ext h h'/\v=.tuple ⟨[.agg ⟨((cC fs.l q.2).getD cV).cs⟩,.bool (cC fs.l q.2).isSome]⟩:=by
 apply Wk ⟨b,0,none⟩ (s:Nat) (t:Nat);unfold abB Kz;have n1:=hA.ra.ln;have n2:=hA.r.rf.ln;have ls:=(Ya.1 gq).1;have lt:=(Ya.1 gt).1;have Au:=hA.re q (Yb gq);have fV:=hA.r.re fs (Yb gt);have n3:=Au.ln;have m3:=Au.sm;rw[Yc] at n1;refine (St.refl h).ao fun h3 hs=>?_;refine hs.ao fun h4 hs=>?_;refine hs.ao fun h5 hs=>?_;refine⟨X.cz,(hA.ext hs.ext).a,(s:Nat),hs.rd 2 rfl (i:=0) rfl,?_⟩;refine (hA.ra.ext hs.ext).rw.ax (by omega) (by omega) fun b8 o9 d gd u=>?_;replace gd:(X.ar.map Prod.fst)[s]?=some d:=gd;rw[Yd,gq] at gd;cases gd;refine⟨q.1,u.hd,?_⟩;refine⟨fun x h' m=>∃(i:Nat) (o:Option gM),x=i/\m=q.1.n-i/\i<=q.1.n/\St h h' [.af h4.size (o.getD cV).cs 276,.af h3.size [.int .i64 0,.int .i64 0,.int .i64 0,.int .i64 0] 276,.af h.size [.int .i64 (s:Nat),.int .i64 (t:Nat)] 97]/\o=(q.2.take i).foldl (fo fs.l) none/\ArB o,⟨_,0,none,rfl,rfl,by omega,hs,rfl,fun y hy=>by cases hy⟩,?_⟩;clear hs;rintro-_ tD m ⟨i,o,rfl,rfl,hi,hs,ho,hob⟩;have om:∀ {hZ:Heap} {x:gM} {o':Option gM} (c:i<q.1.n) (gx:q.2[i]?=some x) (e:o'=fo fs.l o x),ArB o'->St h hZ [.af h4.size (o'.getD cV).cs 276,.af h3.size [.int .i64 0,.int .i64 0,.int .i64 0,.int .i64 0] 276,.af h.size [.int .i64 (s:Nat),.int .i64 (t:Nat)] 97] ->
   ∃m,m<q.1.n-i/\∃(i':Nat) (o:Option gM),IntKind.wrap .i64 ((i:Int)+1)=i'/\m=q.1.n-i'/\i'<=q.1.n/\St h hZ [.af h4.size (o.getD cV).cs 276,.af h3.size [.int .i64 0,.int .i64 0,.int .i64 0,.int .i64 0] 276,.af h.size [.int .i64 (s:Nat),.int .i64 (t:Nat)] 97]/\o=(q.2.take i').foldl (fo fs.l) none/\ArB o:=fun {hZ x o'} c gx e hb hs=>by
  refine⟨_,?_,i+1,o',by rw[bd (by omega) (by omega)];omega,rfl,by omega,hs,?_,hb⟩
  .omega
  .rw[ae gx,List.foldl_append,<-ho,e];rfl
 refine aQ (fun c=>?_) (fun c=>?_)
 .refine (Au.ext hs.ext).rw.ax (by omega) (by omega) fun b16 o17 x gx u2=>?_;replace gx:q.2[i]?=some x:=gx;have kL:=hq x (Yb gx);refine⟨x.e,x.n,x.m.p,x.m.l,u2,?_⟩;refine hs.aj (vs:=x.cs) rfl rfl fun nM hs=>?_;refine⟨X.bZ,(hA.ext hs.ext).r.f,(t:Nat),hs.rd 3 rfl (i:=1) rfl,?_⟩;refine (hA.r.rf.ext hs.ext).rw.ax (by omega) (by omega) fun b26 o27 f gf u3=>?_;replace gf:X.fi[t]?=some f:=gf;rw[gt] at gf;cases gf;refine⟨fs.s,fs.b,u3,x.m.p,hs.rd 0 rfl (i:=2) rfl,x.m.l,hs.rd 0 rfl (i:=3) rfl,?_⟩;refine (Cx fs.l fs.b x.m.ev fs.s nM (fV.ext hs.ext).rw fV.sm).mono ?_;rintro _ kP ⟨⟨b2,rfl,jr⟩,E⟩;replace hs:=hs.step E;refine⟨b2,rfl,aa (fun c2=>?_) (fun c2=>?_)⟩
  .have dC:x.m.ev∈fs.l:=jr.1 c2;cases o with
   | none=>
    refine⟨0,hs.rd 1 rfl (i:=1) rfl,gR rfl ?_⟩;refine⟨x.e,x.n,x.m.p,x.m.l,hs.at 0 rfl (o:=0) (n:=4) rfl,?_⟩;refine hs.put 1 rfl (o:=0) (vs:=x.cs) rfl (bu 4) fun km hs=>?_;exact om (by omega) gx (o':=some x) (by unfold fo;rw[if_pos dC]) (fun y hy=>by cases hy;exact kL) (hs.drop 1)
   | some y=>
    have hy0:=hob y rfl;refine⟨y.n,hs.rd 1 rfl (i:=1) rfl,eS (fun e=>by omega) (fun _=>?_)⟩;refine⟨x.n,hs.rd 0 rfl (i:=1) rfl,y.n,hs.rd 1 rfl (i:=1) rfl,aQ (fun c3=>?_) (fun c3=>?_)⟩
    .refine⟨x.e,x.n,x.m.p,x.m.l,hs.at 0 rfl (o:=0) (n:=4) rfl,?_⟩;refine hs.put 1 rfl (o:=0) (vs:=x.cs) rfl (bu 4) fun km hs=>?_;exact om (by omega) gx (o':=some x) (by unfold fo;rw[if_pos dC];simp only;rw[if_pos c3]) (fun y hy=>by cases hy;exact kL) (hs.drop 1)
    .exact om (by omega) gx (o':=some y) (by unfold fo;rw[if_pos dC];simp only;rw[if_neg c3]) hob (hs.drop 1)
  .have bM:x.m.ev∉fs.l:=fun hm=>by rw[jr.2 hm] at c2;cases c2
   exact om (by omega) gx (o':=o) (by unfold fo;rw[if_neg bM]) hob (hs.drop 1)
 .rw[Yj (by omega)] at ho;have hoF:o=cC fs.l q.2:=ho;refine⟨(o.getD cV).e,(o.getD cV).n,(o.getD cV).m.p,(o.getD cV).m.l,hs.at 0 rfl (o:=0) (n:=4) rfl,(o.getD cV).n,hs.rd 0 rfl (i:=1) rfl,?_⟩;have Ul:=hs.get (k:=0) rfl;refine hs.put 1 rfl (o:=0) (vs:=(o.getD cV).cs) rfl (bu 4) fun sn bQ=>⟨?_,?_⟩
  .exact bG (hs.same bQ 0 0 rfl rfl) eJ
  .refine⟨(o.getD cV).e,(o.getD cV).n,(o.getD cV).m.p,(o.getD cV).m.l,bQ.at 1 rfl (o:=0) (n:=4) rfl,bQ.ext,?_⟩;rw[<-hoF];have:decide ((o.getD cV).n>0)=o.isSome:=by
    cases o with
    | none=>rfl
    | some y=>exact decide_eq_true (hob y rfl)
   rw[this];rfl
noncomputable def dR(X:An)(kind:Int)(p:Nat × Nat):Option Int:=by
 classical exact if kind=1 then (match X.fi[p.1]?,X.fi[p.2]? with | some fs,some ft=>if (fs.l.find? (fQ ft.l)).isSome then some 0 else none | _,_=>none)
 else if kind=3 then (if KO X.li X.ag X.ow p.1 p.2 then some 0 else none)
 else (match X.fi[p.2]?,X.ar[p.1]? with | some ft,some q=>(cC ft.l q.2).map (·.n) | _,_=>none)
theorem yb(b:Nat)(g:Gl)(role:Int)(X:An)(kind:Int)(p:Nat × Nat)(h:Heap)(hA:sC h b g role X)(hp:(p.1:Int)<g.n/\(p.2:Int)<g.n)(hq:∀q∈X.ar,∀x∈q.2,0<x.n):
  Fn Pz 166 #[.pointer (some ⟨b,0,none⟩),.int .i64 kind,.agg ⟨pC p⟩] h fun v h'=>Ext h h'/\v=.tuple ⟨[.int .i64 ((dR X kind p).getD 0),.bool (dR X kind p).isSome]⟩:=by
 apply V7 ⟨b,0,none⟩ kind (p.1:Nat) (p.2:Nat);unfold abn;obtain⟨fs,gs⟩:=get_some (l:=X.fi) (i:=p.1) (by rw[hA.nf];omega);obtain⟨ft,gt⟩:=get_some (l:=X.fi) (i:=p.2) (by rw[hA.nf];omega);obtain⟨q,gq⟩:=get_some (l:=X.ar) (i:=p.1) (by rw[hA.nr];omega);refine (St.refl h).ao fun h3 hs=>?_;refine eS (fun c=>?_) (fun c=>eS (fun c2=>?_) (fun c2=>?_))
 .refine⟨(p.1:Nat),(p.2:Nat),hs.at 0 rfl (o:=0) (n:=2) rfl,?_⟩;refine (q9 ⟨b,0,none⟩ role X.bZ X.bV X.bx X.cm X.fi X.li X.ag X.ow p.1 p.2 fs ft h3 (hA.ext hs.ext).r gs gt).mono ?_;rintro _ jP ⟨E,rfl⟩;replace hs:=hs.step E;have hc:dR X kind p=if (fs.l.find? (fQ ft.l)).isSome then some 0 else none:=by unfold dR;rw[if_pos c,gs,gt]
  cases hf:fs.l.find? (fQ ft.l) with
  | some x=>
   refine⟨x.send,x.peer,x.label,true,rfl,?_⟩;refine hs.aj (vs:=x.cs) rfl rfl fun AB hs=>⟨hs.ext,?_⟩;rw[hc,hf];rfl
  | none=>
   refine⟨false,0,0,false,rfl,?_⟩;refine hs.aj (vs:=[.bool false,.int .i64 0,.int .i64 0]) rfl rfl fun AB hs=>⟨hs.ext,?_⟩;rw[hc,hf];rfl
 .refine⟨(p.1:Nat),(p.2:Nat),hs.at 0 rfl (o:=0) (n:=2) rfl,?_⟩;refine (tN ⟨b,0,none⟩ role X.bZ X.bV X.bx X.cm X.fi X.li X.ag X.ow p.1 p.2 h3 (hA.ext hs.ext).r (by rw[hA.nw];omega) (by rw[hA.nl];omega) (by rw[hA.na];omega)).mono ?_;rintro _ gJ ⟨⟨b2,rfl,jr⟩,E⟩;refine⟨b2,rfl,(hs.step E).ext,?_⟩;unfold dR;rw[if_neg c,if_pos c2];by_cases hC:KO X.li X.ag X.ow p.1 p.2
  .rw[if_pos hC,jr.2 hC];rfl
  .have:b2=false:=by
    cases b2
    .rfl
    .exact absurd (jr.1 rfl) hC
   rw[if_neg hC,this];rfl
 .refine⟨(p.1:Nat),(p.2:Nat),hs.at 0 rfl (o:=0) (n:=2) rfl,?_⟩;refine (kX b g role X p.1 p.2 ft q h3 (hA.ext hs.ext) gt gq (hq q (Yb gq))).mono ?_;rintro _ rM ⟨E,rfl⟩;replace hs:=hs.step E;refine⟨_,_,_,_,_,rfl,?_⟩;refine hs.aj (vs:=((cC ft.l q.2).getD cV).cs) rfl rfl fun K8 hs=>?_;refine⟨((cC ft.l q.2).getD cV).n,hs.rd 0 rfl (i:=1) rfl,hs.ext,?_⟩;unfold dR;rw[if_neg c,if_neg c2,gt,gq];simp only;cases cC ft.l q.2<;>rfl
abbrev Pr:=Nat × Nat
def pt(B:List (List Pr))(m:Nat):List (List Pr):=B++List.replicate (m-B.length) []
def gT(B:List (List Pr))(n:Nat)(p:Pr):List (List Pr):=(pt B (n+1)).set n ((pt B (n+1)).getD n []++[p])
def jh(O:List (Pr × Nat))(p:Pr)(n:Nat):Bool:=match aW O p with | some k=>decide (k<=n) | none=>false
def r8(cb ob bb:Nat)(bk:Sl)(O:List (Pr × Nat))(BS:List (Sl × List Pr))(R:List It):List It:=
 [.af cb [.map (some ob)] 293,.mp ob (O.map fun q=>(pV q.1,pD q.2)),.af bb [.slice bk.a bk.n bk.c] 350,.sl bk 92 1 ((BS.map Prod.fst).map dv)]++BS.map (nest 97 2 pC)++R
theorem SX:cu Pz 350 92 1 24=true:=by kernel_rfl
theorem wI{h0 h cw:Heap}{cb ob bb:Nat}{bk:Sl}{O:List (Pr × Nat)}{BS:List (Sl × List Pr)}{R:List It}{p:Pr}{n:Nat}{K:Value->Heap->Prop}
  (hs:St h0 cw (.af h.size (pC p) 97::r8 cb ob bb bk O BS R)) (hO:∀q∈O,eW q.1) (Y4:(O.map Prod.fst).Nodup) (hp:eW p) (hn:n<=16777216) (hB:BS.length<=16777216) (Aw:∀q∈BS,q.2.length<=1048576)
  (hK:∀(pX:Sl) (kd:List (Sl × List Pr)) (h':Heap),St h0 h' (r8 cb ob bb pX (cL O p n) kd R)->kd.map Prod.snd=gT (BS.map Prod.snd) n p->K (.tuple ⟨[]⟩) h') :
  Dw cw ⟨cb,0,none⟩ h (n:Nat) ⟨bb,0,none⟩ K:=by
 unfold Dw;refine⟨some ob,hs.rd 1 rfl (i:=0) rfl,(p.1:Nat),(p.2:Nat),hs.at 0 rfl (o:=0) (n:=2) rfl,?_⟩;refine hs.Et (cv:=pD) (l:=O) KI 2 rfl hO Y4 (a:=p) hp n fun uW hs=>?_;refine⟨fun h' m=>∃(pX:Sl) (kd:List (Sl × List Pr)) (k:Nat),m=n+1-kd.length/\St h0 h' (.af h.size (pC p) 97::r8 cb ob bb pX (cL O p n) kd R)/\kd.map Prod.snd=BS.map Prod.snd++List.replicate k []/\(k=0\/kd.length<=n+1),⟨_,bk,BS,0,rfl,hs,by simp,.inl rfl⟩,?_⟩;clear hs;rintro-gJ m ⟨pX,kd,k,rfl,hs,hBS,hk⟩;have yW:kd.length=BS.length+k:=by have:=congrArg List.length hBS;simpa using this
 have M9:=hs.len 4 (s:=pX) (e:=92) (n:=1) (rows:=(kd.map Prod.fst).map dv) rfl (by omega);rw[Yc,Yc] at M9;refine⟨pX,hs.rd 3 rfl (i:=0) rfl,aQ (fun c=>?_) (fun c=>?_)⟩
 .refine⟨pX,hs.rd 3 rfl (i:=0) rfl,?_⟩;refine hs.app 4 rfl SX (m:=1) [dv ⟨none,0,0⟩] rfl rfl (fun r hr=>by rw[Ye] at hr;rw[hr];rfl) rfl (by omega) (by simp only[maxLen];omega) fun Ov nM n22 hs=>?_;refine hs.put 3 rfl (o:=0) (vs:=[.slice Ov.a Ov.n Ov.c]) rfl (bu 1) fun Fm hs=>?_;have hs:=hs.cn 97 2;refine⟨_,?_,Ov,kd++[(⟨none,0,0⟩,[])],k+1,rfl,hs.perm ?_,by rw[Ym,hBS,Yz,List.replicate_succ'];rfl,?_⟩
  .rw[Yh,Yv];omega
  .unfold r8;rw[Ym (f:=nest 97 2 pC),Ym (f:=Prod.fst),Ym (f:=dv)];have:(kd.map (nest 97 2 pC)++[(⟨none,0,0⟩,[])].map (nest 97 2 pC):List It)=kd.map (nest 97 2 pC)++[.sl ⟨none,0,0⟩ 97 2 []]:=rfl;rw[this];refine List.Perm.trans (l₂:=(.af h.size (pC p) 97::[.af cb [.map (some ob)] 293,.mp ob ((cL O p n).map fun q=>(pV q.1,pD q.2)),.af bb [.slice Ov.a Ov.n Ov.c] 350,.sl Ov 92 1 ((kd.map Prod.fst).map dv++[dv ⟨none,0,0⟩])]++kd.map (nest 97 2 pC)) ++ .sl ⟨none,0,0⟩ 97 2 []::R) ?_ (List.Perm.of_eq (by simp[dv]));refine List.Perm.trans ?_ List.perm_middle.symm;exact List.Perm.of_eq (by simp[aA])
  .right
   rw[Yh,Yv];omega
 .have yT:n<kd.length:=by omega
  obtain⟨q,hq⟩:=get_some yT;have aeq:pt (BS.map Prod.snd) (n+1)=kd.map Prod.snd:=by
   unfold pt;rw[hBS,Yc];congr 2;omega
  have Au:q.2.length<=1048576:=by
   have h1:(kd.map Prod.snd)[n]?=some q.2:=by rw[Yd,hq];rfl
   rw[hBS] at h1;rcases Nat.lt_or_ge n BS.length with h9 | h9
   .rw[lg (by rw[Yc];exact h9),Yd] at h1;obtain⟨q2,h2,h3⟩:=rP.1 h1;rw[<-h3];exact Aw q2 (Yb h2)
   .rw[sz (by rw[Yc];exact h9)] at h1;have:=List.eq_of_mem_replicate (Yb h1);rw[this];exact Nat.zero_le _
  refine⟨pX,hs.rd 3 rfl (i:=0) rfl,pX,hs.rd 3 rfl (i:=0) rfl,?_⟩;refine (hs.rows 4 rfl (by omega)).ax (by omega) (by omega) fun ZZ Xk d gd u=>?_;replace gd:(kd.map Prod.fst)[n]?=some d:=gd;rw[Yd,hq] at gd;cases gd;refine⟨q.1,u.hd,(p.1:Nat),(p.2:Nat),hs.at 0 rfl (o:=0) (n:=2) rfl,?_⟩;refine hs.aq fun pG E33 hs=>⟨E33.sm,?_⟩;have dA:St h0 pG ((.af gJ.size (pC p) 97 :: .af h.size (pC p) 97::[.af cb [.map (some ob)] 293,.mp ob ((cL O p n).map fun q=>(pV q.1,pD q.2)),.af bb [.slice pX.a pX.n pX.c] 350,.sl pX 92 1 ((kd.map Prod.fst).map dv)])++kd.map (nest 97 2 pC)++R):=hs;have lq:=(dA.kI hq (by omega)).ln;refine dA.iw hq JH p (dA.at 0 rfl (o:=0) (n:=2) rfl) rfl rfl (by omega) (by simp only[maxLen];omega) fun r bA rn bQ=>⟨?_,?_⟩
  .exact bG (dA.same bQ 4 4 rfl rfl) eJ
  .refine bQ.set 5 rfl (by omega) (x:=(n:Nat)) (by omega) (by omega) r rfl rfl (fun b36 o37 tB eO=>?_) rfl;refine hK pX (kd.set n (r,q.2++[p])) tB ?_ ?_
   .have:=eO.drop 2;unfold r8;rw[List.map_set (f:=Prod.fst)];exact this
   .unfold gT;rw[aeq,List.map_set,Yo,Yd,hq];rfl
theorem Hi(h0 h:Heap)(cb ob bb:Nat)(bk:Sl)(O:List (Pr × Nat))(BS:List (Sl × List Pr))(R:List It)(p:Pr)(n:Nat)(hs:St h0 h (r8 cb ob bb bk O BS R))(hO:∀q∈O,eW q.1)(Y4:(O.map Prod.fst).Nodup)(hp:eW p)(hn:n<=16777216)(hB:BS.length<=16777216)(Aw:∀q∈BS,q.2.length<=1048576):
  Fn Pz 226 #[.agg ⟨pC p⟩,.int .i64 (n:Nat),.pointer (some ⟨cb,0,none⟩),.pointer (some ⟨bb,0,none⟩)] h fun v h'=>v=.tuple ⟨[]⟩/\∃(pX:Sl) (kd:List (Sl × List Pr)),St h0 h' (r8 cb ob bb pX (if jh O p n then O else cL O p n) kd R)/\kd.map Prod.snd=if jh O p n then BS.map Prod.snd else gT (BS.map Prod.snd) n p:=by
 apply Vq (p.1:Nat) (p.2:Nat) (n:Nat) ⟨cb,0,none⟩ ⟨bb,0,none⟩;unfold aaF;refine hs.ao fun h3 hs=>?_;refine⟨some ob,hs.rd 1 rfl (i:=0) rfl,(p.1:Nat),(p.2:Nat),hs.at 0 rfl (o:=0) (n:=2) rfl,?_⟩;refine hs.Ca (cv:=pD) (l:=O) KI 2 rfl hO Y4 (a:=p) hp ?_;cases hm:aW O p with
 | none=>
  refine⟨0,false,rfl,im rfl ?_⟩;have hr:jh O p n=false:=by unfold jh;rw[hm]
  refine wI hs hO Y4 hp hn hB Aw fun pX kd h' cj hb=>⟨rfl,pX,kd,?_,?_⟩
  .rw[hr];exact cj
  .rw[hr];exact hb
 | some k=>
  refine⟨(k:Nat),true,rfl,gR rfl ?_⟩;refine aQ (fun c=>?_) (fun c=>?_)
  .have hr:jh O p n=true:=by unfold jh;rw[hm];exact decide_eq_true (by omega)
   refine⟨rfl,bk,BS,?_,?_⟩
   .rw[hr];exact hs.drop 1
   .rw[hr];rfl
  .have hr:jh O p n=false:=by unfold jh;rw[hm];exact decide_eq_false (by omega)
   refine wI hs hO Y4 hp hn hB Aw fun pX kd h' cj hb=>⟨rfl,pX,kd,?_,?_⟩
   .rw[hr];exact cj
   .rw[hr];exact hb
end Go.VC
end

section
namespace Go.VC
def cq(m:bj):Nat:=if 0<=m.x/\0<=m.y then 2 else 1
theorem ee(m:bj):1<=cq m/\cq m<=2:=by unfold cq;split<;>omega
inductive Dn (mv:Pr->List bj) (a7:Pr->Option Nat):Pr->Nat->Prop where
 | base {p:Pr} {c:Nat}:a7 p=some c->Dn mv a7 p c
 | step {p:Pr} {m:bj} {n:Nat}:m∈mv p->Dn mv a7 (bD m) n->Dn mv a7 p (n+cq m)
def oV(mv:Pr->List bj)(a7:Pr->Option Nat)(p:Pr)(n:Nat):Prop:=Dn mv a7 p n/\∀k,Dn mv a7 p k->n<=k
theorem qy{B:List (List Pr)}{m n:Nat}{l:List Pr}(h:(pt B n)[m]?=some l):B[m]?=some l\/l=[]:=by
 unfold pt at h;rcases Nat.lt_or_ge m B.length with h1 | h1
 .rw[lg h1] at h;exact .inl h
 .rw[sz h1] at h;exact .inr (List.eq_of_mem_replicate (Yb h))
theorem wN{B:List (List Pr)}{m n:Nat}{l:List Pr}(h:B[m]?=some l):(pt B n)[m]?=some l:=by
 unfold pt;rw[lg (Ya.1 h).1];exact h
theorem wO(B:List (List Pr))(n:Nat):(pt B n).length=max B.length n:=by
 unfold pt;rw[Yh,Yg];omega
theorem D7(B:List (List Pr))(n:Nat)(p:Pr):(gT B n p).length=max B.length (n+1):=by
 unfold gT;rw[lh,wO]
theorem lP(B:List (List Pr))(n:Nat)(p:Pr):∃l0,(B[n]?=some l0\/l0=[])/\(pt B (n+1))[n]?=some l0/\(gT B n p)[n]?=some (l0++[p]):=by
 have hl:n<(pt B (n+1)).length:=by rw[wO];omega
 obtain⟨l0,h0⟩:=get_some hl;refine⟨l0,qy h0,h0,?_⟩;unfold gT;rw[Yq hl,Yo,h0];rfl
theorem Hj{B:List (List Pr)}{n m:Nat}{p x:Pr}{l:List Pr}(h:(gT B n p)[m]?=some l)(hx:x∈l):(∃l0,B[m]?=some l0/\x∈l0)\/(m=n/\x=p):=by
 by_cases e:n=m
 .subst e;obtain⟨l0,h1,_,h2⟩:=lP B n p;rw[h2] at h;cases h;rcases Yk.1 hx with hx | hx
  .rcases h1 with h1 | h1
   .exact .inl ⟨l0,h1,hx⟩
   .subst h1;cases hx
  .exact .inr ⟨rfl,by simpa using hx⟩
 .unfold gT at h;rw[Yy e] at h;rcases qy h with h1 | h1
  .exact .inl ⟨l,h1,hx⟩
  .subst h1;cases hx
theorem sR{B:List (List Pr)}{n m:Nat}{p:Pr}{l0:List Pr}(h:B[m]?=some l0):∃l,(gT B n p)[m]?=some l/\(l=l0\/(m=n/\l=l0++[p])):=by
 by_cases e:n=m
 .subst e;obtain⟨l1,_,h1,h2⟩:=lP B n p;rw[wN h] at h1;cases h1;exact⟨_,h2,.inr ⟨rfl,rfl⟩⟩
 .refine⟨l0,?_,.inl rfl⟩;unfold gT;rw[Yy e];exact wN h
structure OB (A:List Pr) (mv:Pr->List bj) (a7:Pr->Option Nat) (O:List (Pr × Nat)) (B:List (List Pr)):Prop where
 on:(O.map Prod.fst).Nodup
 oa:∀q∈O,q.1∈A
 d:∀p n,aW O p=some n->Dn mv a7 p n
 b1:∀(n:Nat) (l:List Pr),B[n]?=some l->∀p∈l,p∈A/\∃k,k<=n/\aW O p=some k
 b2:∀p n,aW O p=some n->∃l,B[n]?=some l/\p∈l
 nd:∀(n:Nat) (l:List Pr),B[n]?=some l->l.Nodup
def nt(O:List (Pr × Nat))(p:Pr)(n:Nat):List (Pr × Nat):=if jh O p n then O else cL O p n
def r4(O:List (Pr × Nat))(B:List (List Pr))(p:Pr)(n:Nat):List (List Pr):=if jh O p n then B else gT B n p
theorem Bt{O:List (Pr × Nat)}{p:Pr}{n:Nat}:jh O p n=true ↔ ∃k,k<=n/\aW O p=some k:=by
 unfold jh;cases h:aW O p with
 | none=>simp
 | some k=>simp
theorem OB.put{A:List Pr}{mv:Pr->List bj}{a7:Pr->Option Nat}{O:List (Pr × Nat)}{B:List (List Pr)}(h:OB A mv a7 O B){p:Pr}{n:Nat}(hp:p∈A)(hd:Dn mv a7 p n):OB A mv a7 (nt O p n) (r4 O B p n):=by
 unfold nt r4;by_cases hr:jh O p n=true
 .rw[if_pos hr,if_pos hr];exact h
 .rw[if_neg hr,if_neg hr];have bM:¬∃k,k<=n/\aW O p=some k:=fun h9=>hr (Bt.2 h9);refine⟨fI _ _ _ h.on,fun q hq=>?_,fun x m hx=>?_,fun m l hl x hx=>?_,fun x m hx=>?_,fun m l hl=>?_⟩
  .have:=(fu p n O q.1).1 (Yp.2 ⟨q,hq,rfl⟩);rcases this with h1 | h1
   .obtain⟨q2,h2,h3⟩:=Yp.1 h1;rw[<-h3];exact h.oa q2 h2
   .rw[h1];exact hp
  .rw[de] at hx;split at hx
   .rename_i e;cases hx;rw[e];exact hd
   .exact h.d x m hx
  .rw[de];rcases Hj hl hx with ⟨l0,h1,h2⟩ | ⟨h1,h2⟩
   .obtain⟨h3,k,h4,h5⟩:=h.b1 m l0 h1 x h2;refine⟨h3,?_⟩;by_cases e:x=p
    .refine⟨n,?_,by rw[if_pos e]⟩;subst e;rcases Nat.lt_or_ge n k with h6 | h6
     .omega
     .exact absurd ⟨k,h6,h5⟩ bM
    .exact⟨k,h4,by rw[if_neg e];exact h5⟩
   .subst h2;exact⟨hp,n,by omega,by rw[if_pos rfl]⟩
  .rw[de] at hx;split at hx
   .rename_i e;cases hx;subst e;obtain⟨l0,_,_,h2⟩:=lP B n x;exact⟨_,h2,by simp⟩
   .obtain⟨l0,h1,h2⟩:=h.b2 x m hx;obtain⟨l,h3,h4⟩:=sR (n:=n) (p:=p) h1;refine⟨l,h3,?_⟩;rcases h4 with rfl | ⟨_,rfl⟩
    .exact h2
    .exact List.mem_append_left _ h2
  .by_cases e:n=m
   .subst e;obtain⟨l0,h1,_,h2⟩:=lP B n p;rw[h2] at hl;cases hl;rw[List.nodup_append];refine⟨?_,by simp,fun a ha b hb e=>?_⟩
    .rcases h1 with h1 | h1
     .exact h.nd n l0 h1
     .subst h1;exact .nil
    .rw[Ye] at hb;subst hb;subst e;rcases h1 with h1 | h1
     .obtain⟨_,k,h4,h5⟩:=h.b1 n l0 h1 a ha;exact bM ⟨k,h4,h5⟩
     .subst h1;cases ha
   .unfold gT at hl;rw[Yy e] at hl;rcases qy hl with h1 | h1
    .exact h.nd m l h1
    .subst h1;exact .nil
theorem pN{O:List (Pr × Nat)}{p x:Pr}{n k:Nat}(h:aW O x=some k):∃k',k'<=k/\aW (nt O p n) x=some k':=by
 unfold nt;by_cases hr:jh O p n=true
 .rw[if_pos hr];exact⟨k,bu _,h⟩
 .rw[if_neg hr,de];by_cases e:x=p
  .refine⟨n,?_,by rw[if_pos e]⟩;subst e;rcases Nat.lt_or_ge n k with h6 | h6
   .omega
   .exact absurd (Bt.2 ⟨k,h6,h⟩) hr
  .exact⟨k,bu _,by rw[if_neg e];exact h⟩
theorem Bv(O:List (Pr × Nat))(p:Pr)(n:Nat):∃k',k'<=n/\aW (nt O p n) p=some k':=by
 unfold nt;by_cases hr:jh O p n=true
 .rw[if_pos hr];exact Bt.1 hr
 .rw[if_neg hr,de,if_pos rfl];exact⟨n,bu _,rfl⟩
theorem wJ{O:List (Pr × Nat)}{p x:Pr}{n k:Nat}(h:aW O x=some k)(hk:k<=n):aW (nt O p n) x=some k:=by
 unfold nt;by_cases hr:jh O p n=true
 .rw[if_pos hr];exact h
 .rw[if_neg hr,de,if_neg (fun e=>hr (Bt.2 ⟨k,hk,by rw[<-e];exact h⟩))];exact h
theorem Hh{O:List (Pr × Nat)}{p x:Pr}{n k:Nat}(h:aW (nt O p n) x=some k):aW O x=some k\/(x=p/\k=n):=by
 unfold nt at h;by_cases hr:jh O p n=true
 .rw[if_pos hr] at h;exact .inl h
 .rw[if_neg hr,de] at h;split at h
  .rename_i e;cases h;exact .inr ⟨e,rfl⟩
  .exact .inl h
theorem wL(O:List (Pr × Nat))(B:List (List Pr))(p:Pr)(n:Nat):(r4 O B p n).length<=max B.length (n+1):=by
 unfold r4;split
 .omega
 .rw[D7];exact bu _
theorem sQ{O:List (Pr × Nat)}{B:List (List Pr)}{p:Pr}{n m:Nat}{l:List Pr}(h:B[m]?=some l)(hm:m≠n):(r4 O B p n)[m]?=some l:=by
 unfold r4;split
 .exact h
 .obtain⟨l',h1,h2⟩:=sR (n:=n) (p:=p) h;rcases h2 with rfl | ⟨h2,_⟩
  .exact h1
  .exact absurd h2 hm
structure yH (A:List Pr) (mv:Pr->List bj) (a7:Pr->Option Nat) (C n i:Nat) (Z:List Pr) (O:List (Pr × Nat)) (B:List (List Pr)):Prop where
 ob:OB A mv a7 O B
 c:∀p∈A,∀c,a7 p=some c->∃k,k<=c/\aW O p=some k
 zn:Z.Nodup
 za:∀p∈Z,p∈A
 f:∀p∈Z,∃k,aW O p=some k/\(k<n\/(k=n/\∃l,B[n]?=some l/\p∈l.take i))/\∀q∈A,∀m∈mv q,bD m=p->∃k',k'<=k+cq m/\aW O q=some k'
 g:∀p k,aW O p=some k->(k<n\/(k=n/\∃l,B[n]?=some l/\p∈l.take i))->p∈Z
 ln:B.length<=C+2*Z.length
theorem yH.start{A:List Pr}{mv:Pr->List bj}{a7:Pr->Option Nat}{C:Nat}{O:List (Pr × Nat)}{B:List (List Pr)}(h:OB A mv a7 O B)(hc:∀p∈A,∀c,a7 p=some c->∃k,k<=c/\aW O p=some k)(hl:B.length<=C):yH A mv a7 C 0 0 [] O B:=
 ⟨h,hc,.nil,fun p hp=>(by cases hp),fun p hp=>(by cases hp),fun p k _ hk=>(by rcases hk with hk | ⟨_,l,_,hk⟩;omega;simp at hk),by simpa using hl⟩
theorem yH.next{A:List Pr}{mv:Pr->List bj}{a7:Pr->Option Nat}{C n i:Nat}{Z:List Pr}{O:List (Pr × Nat)}{B:List (List Pr)}(h:yH A mv a7 C n i Z O B){l:List Pr}(hl:B[n]?=some l)(hi:l.length<=i):yH A mv a7 C (n+1) 0 Z O B:=by
 refine⟨h.ob,h.c,h.zn,h.za,fun p hp=>?_,fun p k hk h1=>?_,h.ln⟩
 .obtain⟨k,h1,h2,h3⟩:=h.f p hp;exact⟨k,h1,.inl (by omega),h3⟩
 .refine h.g p k hk ?_;rcases h1 with h1 | ⟨_,l',_,h1⟩
  .by_cases e:k<n
   .exact .inl e
   .obtain rfl:k=n:=by omega
    obtain⟨l2,h4,h5⟩:=h.ob.b2 p k hk;rw[hl] at h4;cases h4;exact .inr ⟨rfl,l,hl,by rw[Yj hi];exact h5⟩
  .simp at h1
theorem yH.skip{A:List Pr}{mv:Pr->List bj}{a7:Pr->Option Nat}{C n i:Nat}{Z:List Pr}{O:List (Pr × Nat)}{B:List (List Pr)}(h:yH A mv a7 C n i Z O B){l:List Pr}(hl:B[n]?=some l){p:Pr}(hp:l[i]?=some p)(bI:aW O p≠some n):yH A mv a7 C n (i+1) Z O B:=by
 refine⟨h.ob,h.c,h.zn,h.za,fun q hq=>?_,fun q k hk h1=>?_,h.ln⟩
 .obtain⟨k,h1,h2,h3⟩:=h.f q hq;refine⟨k,h1,h2.imp_right fun ⟨h4,l',h5,h6⟩=>⟨h4,l',h5,?_⟩,h3⟩;rw[hl] at h5;cases h5;rw[ae hp];exact List.mem_append_left _ h6
 .refine h.g q k hk (h1.imp_right fun ⟨h4,l',h5,h6⟩=>⟨h4,l',h5,?_⟩);rw[hl] at h5;cases h5;rw[ae hp,Yk,Ye] at h6;rcases h6 with h6 | rfl
  .exact h6
  .exact absurd (h4 ▸ hk) bI
structure TD (A:List Pr) (mv:Pr->List bj) (a7:Pr->Option Nat) (C n i:Nat) (Z:List Pr) (p:Pr) (rec:List bj) (j:Nat) (O:List (Pr × Nat)) (B:List (List Pr)):Prop where
 ob:OB A mv a7 O B
 c:∀p∈A,∀c,a7 p=some c->∃k,k<=c/\aW O p=some k
 f:∀q∈Z,∃k,aW O q=some k/\(k<n\/(k=n/\∃l,B[n]?=some l/\q∈l.take i))/\∀q'∈A,∀m∈mv q',bD m=q->∃k',k'<=k+cq m/\aW O q'=some k'
 g:∀q k,aW O q=some k->(k<n\/(k=n/\∃l,B[n]?=some l/\q∈l.take i))->q∈Z
 pn:aW O p=some n
 bn:∃l,B[n]?=some l/\l[i]?=some p
 r:∀m∈rec.take j,∃k',k'<=n+cq m/\aW O (bD m)=some k'
 ln:B.length<=C+2*(Z.length+1)
theorem yH.take{A:List Pr}{mv:Pr->List bj}{a7:Pr->Option Nat}{C n i:Nat}{Z:List Pr}{O:List (Pr × Nat)}{B:List (List Pr)}(h:yH A mv a7 C n i Z O B){l:List Pr}(hl:B[n]?=some l){p:Pr}(hp:l[i]?=some p)(he:aW O p=some n)(rec:List bj):TD A mv a7 C n i Z p rec 0 O B:=
 ⟨h.ob,h.c,h.f,h.g,he,⟨l,hl,hp⟩,fun m hm=>(by simp at hm),by have:=h.ln;omega⟩
theorem TD.put{A:List Pr}{mv:Pr->List bj}{a7:Pr->Option Nat}{C n i:Nat}{Z:List Pr}{p:Pr}{rec:List bj}{j:Nat}{O:List (Pr × Nat)}{B:List (List Pr)}(h:TD A mv a7 C n i Z p rec j O B)(oE:n+1<=C+2*Z.length){m:bj}(hm:rec[j]?=some m)(ha:bD m∈A)(hd:Dn mv a7 (bD m) (n+cq m)):
  TD A mv a7 C n i Z p rec (j+1) (nt O (bD m) (n+cq m)) (r4 O B (bD m) (n+cq m)):=by
 have rK:=ee m;have cr:∀ {m':Nat} {l:List Pr},m'<=n->B[m']?=some l->(r4 O B (bD m) (n+cq m))[m']?=some l:=fun {m' l} h1 h2=>sQ h2 (by omega);have bk:∀ {l:List Pr},(r4 O B (bD m) (n+cq m))[n]?=some l->B[n]?=some l:=fun {l} h1=>by
  obtain⟨l0,h2,_⟩:=h.bn;rw[cr (bu _) h2] at h1;cases h1;exact h2
 refine⟨h.ob.put ha hd,fun q hq c hc=>?_,fun q hq=>?_,fun q k hk h1=>?_,wJ h.pn (by omega),?_,fun m' oC=>?_,?_⟩
 .obtain⟨k,h1,h2⟩:=h.c q hq c hc;obtain⟨k',h3,h4⟩:=pN (p:=bD m) (n:=n+cq m) h2;exact⟨k',by omega,h4⟩
 .obtain⟨k,h1,h2,h3⟩:=h.f q hq;refine⟨k,wJ h1 (by rcases h2 with h2 | ⟨h2,_⟩<;>omega),h2.imp_right fun ⟨h4,l,h5,h6⟩=>⟨h4,l,cr (bu _) h5,h6⟩,fun q' gX m' oC he=>?_⟩;obtain⟨k',h4,h5⟩:=h3 q' gX m' oC he;obtain⟨k2,h6,h7⟩:=pN (p:=bD m) (n:=n+cq m) h5;exact⟨k2,by omega,h7⟩
 .rcases Hh hk with h2 | ⟨_,h2⟩
  .exact h.g q k h2 (h1.imp_right fun ⟨h4,l,h5,h6⟩=>⟨h4,l,bk h5,h6⟩)
  .rcases h1 with h1 | ⟨h1,_⟩<;>omega
 .obtain⟨l,h1,h2⟩:=h.bn;exact⟨l,cr (bu _) h1,h2⟩
 .rw[ae hm,Yk,Ye] at oC;rcases oC with oC | rfl
  .obtain⟨k,h1,h2⟩:=h.r m' oC;obtain⟨k',h3,h4⟩:=pN (p:=bD m) (n:=n+cq m) h2;exact⟨k',by omega,h4⟩
  .exact Bv O (bD m') (n+cq m')
 .have h1:=wL O B (bD m) (n+cq m);have h2:=h.ln;omega
theorem TD.fin{A:List Pr}{mv:Pr->List bj}{a7:Pr->Option Nat}{C n i:Nat}{Z:List Pr}{p:Pr}{rec:List bj}{j:Nat}{O:List (Pr × Nat)}{B:List (List Pr)}(h:TD A mv a7 C n i Z p rec j O B)(hj:rec.length<=j)(Cl:p∈A)(hz:Z.Nodup)(hza:∀p∈Z,p∈A)
  (MR:∀q∈A,∀m∈mv q,bD m=p->∃r∈rec,bD r=q/\cq r=cq m):yH A mv a7 C n (i+1) (p::Z) O B:=by
 obtain⟨l,hl,hp⟩:=h.bn;have hpZ:p∉Z:=fun hm=>by
  obtain⟨k,h1,h2,_⟩:=h.f p hm;rw[h.pn] at h1;cases h1;rcases h2 with h2 | ⟨_,l',h3,h4⟩
  .omega
  .rw[hl] at h3;cases h3;obtain⟨a,ha⟩:=Yf.1 h4;rw[rO] at ha;split at ha
   .have:=fH (h.ob.nd n l hl) ha hp;omega
   .cases ha
 refine⟨h.ob,h.c,List.nodup_cons.2 ⟨hpZ,hz⟩,fun q hq=>?_,fun q hq=>?_,fun q k hk h1=>?_,?_⟩
 .rcases Yr.1 hq with rfl | hq
  .exact Cl
  .exact hza q hq
 .rcases Yr.1 hq with rfl | hq
  .refine⟨n,h.pn,.inr ⟨rfl,l,hl,by rw[ae hp];simp⟩,fun q' gX m hm he=>?_⟩;obtain⟨r,h1,h2,h3⟩:=MR q' gX m hm he;obtain⟨k',h4,h5⟩:=h.r r (by rw[Yj hj];exact h1);rw[h2] at h5;exact⟨k',by omega,h5⟩
  .obtain⟨k,h1,h2,h3⟩:=h.f q hq;refine⟨k,h1,h2.imp_right fun ⟨h4,l',h5,h6⟩=>⟨h4,l',h5,?_⟩,h3⟩;rw[hl] at h5;cases h5;rw[ae hp];exact List.mem_append_left _ h6
 .by_cases e:q=p
  .rw[e];exact Yx
  .refine Yn _ (h.g q k hk (h1.imp_right fun ⟨h4,l',h5,h6⟩=>⟨h4,l',h5,?_⟩));rw[hl] at h5;cases h5;rw[ae hp,Yk,Ye] at h6;exact h6.resolve_right e
 .have:=h.ln;rw[jC];exact this
theorem yH.fin{A:List Pr}{mv:Pr->List bj}{a7:Pr->Option Nat}{C n i:Nat}{Z:List Pr}{O:List (Pr × Nat)}{B:List (List Pr)}(h:yH A mv a7 C n i Z O B)(hn:B.length<=n)(dU:∀p∈A,∀m∈mv p,bD m∈A){p:Pr}(hp:p∈A)(k:Nat):(aW O p=some k ↔ oV mv a7 p k)/\(aW O p=some k->k<B.length):=by
 have dC:∀ {q:Pr} {k:Nat},aW O q=some k->k<B.length:=fun {q k} hk=>by
  obtain⟨l,h1,_⟩:=h.ob.b2 q k hk;exact (Ya.1 h1).1
 have key:∀ {q:Pr} {k:Nat},Dn mv a7 q k->q∈A->∃k',k'<=k/\aW O q=some k':=fun {q k} hd=>by
  induction hd with
  | base hc=>exact fun hq=>h.c _ hq _ hc
  | @step q m k hm _ ih=>
   intro hq;obtain⟨k1,h1,h2⟩:=ih (dU q hq m hm);have h3:=h.g _ _ h2 (.inl (by have:=dC h2;omega));obtain⟨k2,h4,_,h5⟩:=h.f _ h3;rw[h2] at h4;cases h4;obtain⟨k',h6,h7⟩:=h5 q hq m hm rfl;exact⟨k',by omega,h7⟩
 refine⟨⟨fun hk=>⟨h.ob.d p k hk,fun k2 hd=>?_⟩,fun ⟨h1,h2⟩=>?_⟩,dC⟩
 .obtain⟨k',h3,h4⟩:=key hd hp;rw[hk] at h4;cases h4;exact h3
 .obtain⟨k',h3,h4⟩:=key h1 hp;have h5:=h2 k' (h.ob.d p k' h4);rw[h4,show k'=k by omega]
end Go.VC
end

section
namespace Go.VC
open Go.Proofs Go.LexS
abbrev NE:=Pr × (Sl × List bj)
def yO(e:NE):It:=nest 200 4 bj.cs e.2
def pB(N:List NE):List (Pr × Sl):=N.map fun e=>(e.1,e.2.1)
def vu(N:List NE)(q:Pr)(r:bj):Prop:=∃e∈N,e.1=q/\r∈e.2.2
def p9(N:List NE):Nat:=(N.map fun e=>e.2.2.length).sum
structure PH (N:List NE) (a:Pr) (r:bj) (N':List NE):Prop where
 nd:(N'.map Prod.fst).Nodup
 ky:∀x,x∈N'.map Prod.fst ↔ x∈N.map Prod.fst\/x=a
 rc:∀q r',vu N' q r' ↔ vu N q r'\/(q=a/\r'=r)
 Oi:p9 N'=p9 N+1
theorem gn(N:List NE):(pB N).map Prod.fst=N.map Prod.fst:=by unfold pB;rw[List.map_map];rfl
theorem wi{α:Type}{l:List α}{j:Nat}{e:α}(h:l[j]?=some e):∃A B,l=A++e::B/\j=A.length:=by
 obtain⟨h1,h2⟩:=Ya.1 h;refine⟨l.take j,l.drop (j+1),?_,by rw[Yu];omega⟩;rw[<-h2,<-List.drop_eq_getElem_cons h1,List.take_append_drop]
theorem zx{α:Type}(x y e:α)(A R:List α):(x::y::(A++e::R)).Perm (e::x::y::(A++R)):=
 (((List.perm_middle (l₁:=A) (a:=e) (l₂:=R)).cons y).cons x).trans (((List.Perm.swap e y _).cons x).trans (List.Perm.swap e x _))
theorem PH.Eo{A B:List NE}{a:Pr}{s s':Sl}{rows:List bj}(r:bj)(hn:((A++(a,(s,rows))::B).map Prod.fst).Nodup):PH (A++(a,(s,rows))::B) a r (A++(a,(s',rows++[r]))::B):=by
 have e1:(A++(a,(s',rows++[r]))::B).map Prod.fst=(A++(a,(s,rows))::B).map Prod.fst:=by simp
 refine⟨by rw[e1];exact hn,fun x=>by rw[e1];exact⟨.inl,fun h=>h.elim id fun e=>by rw[e];simp⟩,fun q r'=>?_,?_⟩
 .unfold vu;constructor
  .rintro⟨e,he,h1,h2⟩;rcases Yk.1 he with he | he
   .exact .inl ⟨e,List.mem_append_left _ he,h1,h2⟩
   .rcases Yr.1 he with rfl | he
    .simp only at h1 h2;rcases Yk.1 h2 with h2 | h2
     .exact .inl ⟨(a,(s,rows)),by simp,h1,h2⟩
     .exact .inr ⟨h1.symm,by simpa using h2⟩
    .exact .inl ⟨e,by simp[he],h1,h2⟩
  .rintro (⟨e,he,h1,h2⟩ | ⟨rfl,rfl⟩)
   .rcases Yk.1 he with he | he
    .exact⟨e,List.mem_append_left _ he,h1,h2⟩
    .rcases Yr.1 he with rfl | he
     .exact⟨(a,(s',rows++[r])),by simp,h1,List.mem_append_left _ h2⟩
     .exact⟨e,by simp[he],h1,h2⟩
   .exact⟨(q,(s',rows++[r'])),by simp,rfl,by simp⟩
 .unfold p9;simp only[Ym,iM,List.sum_append,List.sum_cons,Yh,Yv];omega
theorem PH.new{N:List NE}{a:Pr}{s':Sl}(r:bj)(hn:(N.map Prod.fst).Nodup)(ha:a∉N.map Prod.fst):PH N a r (N++[(a,(s',[r]))]):=by
 refine⟨?_,fun x=>by rw[Ym,Yk];simp,fun q r'=>?_,?_⟩
 .rw[Ym,List.nodup_append];exact⟨hn,by simp,fun x hx y hy e=>by simp only[iM,List.map_nil,Ye] at hy;subst hy;subst e;exact ha hx⟩
 .unfold vu;constructor
  .rintro⟨e,he,h1,h2⟩;rcases Yk.1 he with he | he
   .exact .inl ⟨e,he,h1,h2⟩
   .rw[Ye] at he;subst he;exact .inr ⟨h1.symm,by simpa using h2⟩
  .rintro (⟨e,he,h1,h2⟩ | ⟨rfl,rfl⟩)
   .exact⟨e,List.mem_append_left _ he,h1,h2⟩
   .exact⟨(q,(s',[r'])),by simp,rfl,by simp⟩
 .unfold p9;rw[Ym,List.sum_append];simp
theorem GH{N:List NE}{e:NE}(h:e∈N):e.2.2.length<=p9 N:=by
 obtain⟨A,B,rfl⟩:=List.append_of_mem h;unfold p9;simp only[Ym,iM,List.sum_append,List.sum_cons];omega
theorem EG{h0 h:Heap}{rb ib:Nat}{N:List NE}{R:List It}{r:bj}{a:Pr}{K:Heap->Prop}(hs:St h0 h (.af rb r.cs 200 :: .mp ib ((pB N).map fun q=>(pV q.1,fZ q.2))::(N.map yO++R)))
  (hN:(N.map Prod.fst).Nodup) (hk:∀x∈N.map Prod.fst,eW x) (ha:eW a) (ht:p9 N<=10000000000)
  (hK:∀(h':Heap) (N':List NE),St h0 h' (.af rb r.cs 200 :: .mp ib ((pB N').map fun q=>(pV q.1,fZ q.2))::(N'.map yO++R))->PH N a r N'->K h') :
  bE Pz (Instr.mapEntry 93 (.map (some ib)) (pV a)) h fun v46 mO=>∃TG:Sl,∃n49:Int,v46=.tuple ⟨[.slice TG.a TG.n TG.c,.int .i64 n49]⟩ /\
   (App Pz 197 197 (.slice TG.a TG.n TG.c) (.slice (some ⟨rb,0,none⟩) 1 1) mO fun DY uU=>(bE Pz (Instr.entryStore 93 (.map (some ib)) (.int .i64 n49) (.slice DY.a DY.n DY.c)) uU (fun _ vM=>K vM))):=by
 have EX:((pB N).map Prod.fst).Nodup:=by rw[gn];exact hN
 refine hs.Qs (cv:=fZ) (l:=pB N) yG 1 rfl (fun q hq=>hk _ (by rw[<-gn];exact Yp.2 ⟨q,hq,rfl⟩)) EX ha fun st o mO hs dB=>?_;replace hs:St h0 mO (.af rb r.cs 200 :: .raw ib o::(N.map yO++R)):=hs;have one:([r.cs].flatten).all eF=true:=rfl;by_cases dC:a∈N.map Prod.fst
 .obtain⟨e,he,rfl⟩:=Yp.1 dC;obtain⟨A,B,rfl⟩:=List.append_of_mem he;obtain⟨a,s,rows⟩:=e;have hj:(pB (A++(a,(s,rows))::B))[A.length]?=some (a,s):=by unfold pB;simp
  have hg:aW (pB (A++(a,(s,rows))::B)) a=some s:=fw EX hj;have hm:∀y:Sl,cL (pB (A++(a,(s,rows))::B)) a y=pB (A++(a,(y,rows++[r]))::B):=fun y=>by
   rw[jH EX hj];unfold pB;simp
  simp only at dB ⊢;rw[hg];refine⟨s,st,rfl,?_⟩;rw[Ym,iM,Yz,List.cons_append] at hs;replace hs:=hs.perm (zx _ _ _ _ _);have hlen:=hs.len 0 (s:=s) (e:=200) (n:=4) (rows:=rows.map bj.cs) rfl (by omega);rw[Yc] at hlen;have EP:=GH he;simp only at EP;refine hs.appended 0 (news:=[r.cs]) rfl kZ (hs.at 1 rfl (o:=0) (n:=4) rfl) rfl (fun q hq=>by rw[Ye] at hq;rw[hq];rfl) one (by show (s.n+1)*32<=140737488355328;omega) (by show s.n+1<=9223372036854775807;omega) fun DY uU n50 hs=>?_;refine hs.HE 2 rfl dB DY fun vM hs=>?_;refine hK vM (A++(a,(DY,rows++[r]))::B) ?_ (PH.Eo r hN);rw[hm] at hs;rw[Ym (f:=yO),iM,Yz,List.cons_append];refine hs.perm (List.Perm.trans ?_ (zx _ _ _ _ _).symm);refine List.Perm.of_eq ?_;simp[yO,nest]
 .have hg:aW (pB N) a=none:=jJ fun q hq e=>dC (by rw[<-gn];exact Yp.2 ⟨q,hq,e⟩);have hm:∀y:Sl,cL (pB N) a y=pB (N++[(a,(y,[r]))]):=fun y=>by
   rw[jI fun q hq e=>dC (by rw[<-gn];exact Yp.2 ⟨q,hq,e⟩)];unfold pB;simp
  rw[hg];refine⟨⟨none,0,0⟩,st,rfl,?_⟩;replace hs:=hs.cn 200 4;refine hs.appended 0 (news:=[r.cs]) rfl kZ (hs.at 1 rfl (o:=0) (n:=4) rfl) rfl (fun q hq=>by rw[Ye] at hq;rw[hq];rfl) one (by show (0+1)*32<=140737488355328;decide) (by show 0+1<=9223372036854775807;decide) fun DY uU n50 hs=>?_;refine hs.HE 2 rfl dB DY fun vM hs=>?_;refine hK vM (N++[(a,(DY,[r]))]) ?_ (PH.new r hN dC);rw[hm] at hs;rw[Ym (f:=yO),Yz];exact hs.perm (zx _ _ _ _ _).symm
theorem St.Qq{P:Program}{h0 h:Heap}{L:List It}(hs:St h0 h L){t kt e:TypeId}(ht:P.underlying t=some (.map kt e))(n:Int){K:Value->Heap->Prop}(hK:∀h',Ext h h'->St h0 h' (.mp h.size []::L)->K (.map (some h.size)) h'):bE P (Instr.makeMap t (some (.int .i64 n))) h K:=by
 intro w hw;subst hw;obtain⟨v,w',h1,h2⟩:=hs.B9 (P:=P) t hK w rfl;refine⟨v,w',?_,h2⟩;rw[<-h1];simp[Instr.makeMap,run_underlying ht,asInt,asIntOf,Result.andThen]
theorem St.vF{h0 h:Heap}{L:List It}(hs:St h0 h L){s:Sl}{e:TypeId}{n:Nat}{rows:List (List Value)}(hi:.sl s e n rows∈L)(hn:0<n):Rw h n s rows:=(hs.ok _ hi).1.1.rw (hs.ok _ hi).1.2 hn
theorem lV{cb ob bb:Nat}{bk:Sl}{O:List (Pr × Nat)}{BS:List (Sl × List Pr)}{z:It}{NS:List It}:(r8 cb ob bb bk O BS (z::NS)).Perm (z::(NS++r8 cb ob bb bk O BS [])):=by
 have e:∀R,r8 cb ob bb bk O BS R=r8 cb ob bb bk O BS []++R:=fun R=>by unfold r8;simp
 rw[e (z::NS)];exact List.perm_middle.trans (List.perm_append_comm.cons _)
theorem sT{α:Type}(c a b z:α)(NS R:List α):(c::a::b::z::(NS++R)).Perm (c::z::(NS++a::b::R)):=by
 refine List.Perm.cons _ ?_;refine (List.Perm.cons a (List.Perm.swap z b _)).trans ((List.Perm.swap z a _).trans (List.Perm.cons z ?_));refine (List.Perm.trans ?_ List.perm_middle.symm);exact List.Perm.cons a List.perm_middle.symm
noncomputable def eX(X:An)(kind:Int)(p:Pr):Option Nat:=(dR X kind p).map Int.toNat
def dc(g:Gl)(role:Int)(p:Pr):List bj:=bP g.es role p.1 p.2
def iP(p:Pr)(m:bj):bj:=⟨m.x,m.y,(p.1:Nat),(p.2:Nat)⟩
structure PJ (A:List Pr) (mv:Pr->List bj) (a7:Pr->Option Nat) (CB i:Nat) (O:List (Pr × Nat)) (B:List (List Pr)) (N:List NE):Prop where
 ob:OB A mv a7 O B
 c:∀p∈A.take i,∀c,a7 p=some c->∃k,k<=c/\aW O p=some k
 ln:B.length<=CB
 nn:(N.map Prod.fst).Nodup
 nk:∀x∈N.map Prod.fst,x∈A
 rc:∀q r,vu N q r ↔ ∃p∈A.take i,∃m∈mv p,bD m=q/\r=iP p m
 Oi:p9 N<=i*160800
structure tV (A:List Pr) (mv:Pr->List bj) (i j:Nat) (p:Pr) (N:List NE):Prop where
 nn:(N.map Prod.fst).Nodup
 nk:∀x∈N.map Prod.fst,x∈A
 rc:∀q r,vu N q r ↔ (∃p∈A.take i,∃m∈mv p,bD m=q/\r=iP p m)\/∃m∈(mv p).take j,bD m=q/\r=iP p m
 Oi:p9 N<=i*160800+j
theorem tV.step{A:List Pr}{mv:Pr->List bj}{i j:Nat}{p:Pr}{N N':List NE}(h:tV A mv i j p N){m:bj}(hm:(mv p)[j]?=some m)(ha:bD m∈A)(hu:PH N (bD m) (iP p m) N'):tV A mv i (j+1) p N':=by
 refine⟨hu.nd,fun x hx=>?_,fun q r=>?_,by rw[hu.Oi];have:=h.Oi;omega⟩
 .rcases (hu.ky x).1 hx with h1 | h1
  .exact h.nk x h1
  .rw[h1];exact ha
 .rw[hu.rc,h.rc,ae hm];constructor
  .rintro ((h1 | ⟨m',h1,h2⟩) | ⟨h1,h2⟩)
   .exact .inl h1
   .exact .inr ⟨m',List.mem_append_left _ h1,h2⟩
   .exact .inr ⟨m,by simp,h1.symm,h2⟩
  .rintro (h1 | ⟨m',h1,h2⟩)
   .exact .inl (.inl h1)
   .rcases Yk.1 h1 with h1 | h1
    .exact .inl (.inr ⟨m',h1,h2⟩)
    .rw[Ye] at h1;subst h1;exact .inr ⟨h2.1.symm,h2.2⟩
theorem OB.bl{A:List Pr}{mv:Pr->List bj}{a7:Pr->Option Nat}{O:List (Pr × Nat)}{BS:List (Sl × List Pr)}(h:OB A mv a7 O (BS.map Prod.snd))(hA:A.length<=40000):∀q∈BS,q.2.length<=1048576:=fun q hq=>by
 obtain⟨n,hn⟩:=Yf.1 hq;have hl:(BS.map Prod.snd)[n]?=some q.2:=by rw[Yd,hn];rfl
 have:=List.Nodup.length_le_of_subset (h.nd n q.2 hl) (l₂:=A) fun x hx=>(h.b1 n q.2 hl x hx).1;omega
theorem OB.iT{A:List Pr}{mv:Pr->List bj}{a7:Pr->Option Nat}{O:List (Pr × Nat)}{B:List (List Pr)}(h:OB A mv a7 O B)(hk:∀p∈A,eW p):∀q∈O,eW q.1:=fun q hq=>hk _ (h.oa q hq)
theorem OB.empty(A:List Pr)(mv:Pr->List bj)(a7:Pr->Option Nat):OB A mv a7 [] []:=
 ⟨.nil,fun q hq=>(by cases hq),fun p n h=>(by cases h),fun n l h=>(by simp at h),fun p n h=>(by cases h),fun n l h=>(by simp at h)⟩
abbrev OH(ib:Nat)(N:List NE):It:=.mp ib ((pB N).map fun q=>(pV q.1,fZ q.2))
structure UH (X:An) (kind:Int) (A:List Pr) (CB:Nat):Prop where
 a:∀q∈X.ar,∀x∈q.2,0<x.n
 c:∀p∈A,∀c,dR X kind p=some c->0<=c/\c<CB
 b:CB<=4194304
theorem St.HG{α β:Type}{P:Program}{t kt e:TypeId}{ck:α->Value}{cv:β->Value}{iT:α->Prop}[DecidableEq α]{z:Value}(M:MT P t kt e ck iT z){h0 h:Heap}{L:List It}(hs:St h0 h L)(k:Nat){b:Nat}{l:List (α × β)}(hk:L[k]?=some (.mp b (l.map fun q=>(ck q.1,cv q.2))))(hl:∀q∈l,iT q.1)(hn:(l.map Prod.fst).Nodup){a:α}(ha:iT a){R:Value->Heap->Prop}
  (hR:R ((aW l a).elim z cv) h):bE P (Instr.lookup t (.map (some b)) (ck a) false) h R:=by
 refine hs.HH M k hk hl hn ha false ?_;generalize aW l a=o at *;cases o<;>exact hR
theorem MD(b:Nat)(g:Gl)(role:Int)(X:An)(kind:Int)(all:Sl)(mb:Nat)(A:List Pr)(l:List (Pr × Sl))(CB:Nat)(h:Heap)(hA:sC h b g role X)(hV:ah g)(hM:Lf h g role all mb A l)(hC:UH X kind A CB):
  Fn Pz 164 #[.pointer (some ⟨b,0,none⟩),.int .i64 kind,.slice all.a all.n all.c,.map (some mb)] h fun v h'=>Ext h h'/\∃(ob:Nat) (O:List (Pr × Nat)),v=.map (some ob)/\It.ok h' (.mp ob (O.map fun q=>(pV q.1,pD q.2)))/\(∀q∈O,eW q.1)/\(O.map Prod.fst).Nodup /\
   ∀p∈A,∀k,(aW O p=some k ↔ oV (dc g role) (eX X kind) p k)/\(aW O p=some k->k<CB+2*A.length):=by
 apply V9 ⟨b,0,none⟩ kind all (some mb);unfold abp;have hN:=hV.num.n;have hE:=hV.num.m;have hAn:=hM.ra.ln;have Cl:∀p∈A,(p.1:Int)<g.n/\(p.2:Int)<g.n:=fun p hp=>((hM.pr p).1 hp).lt hV;have uQ:∀p∈A,eW p:=fun p hp=>by have:=Cl p hp;exact⟨by omega,by omega⟩
 have dU:∀p∈A,∀m∈dc g role p,bD m∈A:=fun p hp m hm=>(hM.pr _).2 (.step ((hM.pr p).1 hp) hm);have hA4:A.length<=40000:=by
  have h1:=uY (n:=g.n.toNat) hM.nd fun p hp=>by have:=Cl p hp;exact⟨by omega,by omega⟩
  have h2:g.n.toNat*g.n.toNat<=200*200:=Nat.mul_le_mul (by omega) (by omega);omega
 have hCb:=hC.b;have Gh:∀p:Pr,(bP g.es role p.1 p.2).length<=160800:=fun p=>lS hE;have hme:∀p:Pr,(dc g role p).length=(bP g.es role p.1 p.2).length:=fun p=>rfl;refine (St.refl h).Qq KI.ht _ fun h3 E3 hs=>⟨some h.size,rfl,?_⟩;refine hs.aj (vs:=[.map (some h.size)]) rfl rfl fun h5 hs=>?_;refine hs.B9 93 fun h8 E8 hs=>⟨some h5.size,rfl,?_⟩;refine hs.ao fun h9 hs=>?_;have hs:St h h9 (r8 h3.size h.size h8.size ⟨none,0,0⟩ [] [] (OH h5.size []::[].map yO)):=by
  refine (hs.cn 92 1).perm ?_;show ([It.sl ⟨none,0,0⟩ 92 1 [],.af h8.size [.slice none 0 0] 350,.mp h5.size [],.af h3.size [.map (some h.size)] 293,.mp h.size []]:List It).Perm [.af h3.size [.map (some h.size)] 293,.mp h.size [],.af h8.size [.slice none 0 0] 350,.sl ⟨none,0,0⟩ 92 1 [],.mp h5.size []];refine List.Perm.trans (l₂:=[.af h3.size [.map (some h.size)] 293,.mp h.size [],.sl ⟨none,0,0⟩ 92 1 [],.af h8.size [.slice none 0 0] 350,.mp h5.size []]) ?_ (List.Perm.cons _ (List.Perm.cons _ (List.Perm.swap _ _ _)));exact List.perm_append_comm (l₁:=[It.sl ⟨none,0,0⟩ 92 1 [],.af h8.size [.slice none 0 0] 350,.mp h5.size []]) (l₂:=[.af h3.size [.map (some h.size)] 293,.mp h.size []])
 refine⟨fun x h' m=>∃(i:Nat) (bk:Sl) (O:List (Pr × Nat)) (BS:List (Sl × List Pr)) (N:List NE),x=i/\m=all.n-i/\i<=all.n/\St h h' (r8 h3.size h.size h8.size bk O BS (OH h5.size N::N.map yO))/\PJ A (dc g role) (eX X kind) CB i O (BS.map Prod.snd) N,
  ⟨_,0,⟨none,0,0⟩,[],[],[],rfl,rfl,Nat.zero_le _,hs,OB.empty _ _ _,fun p hp=>(by simp at hp),Nat.zero_le _,.nil,fun x hx=>(by cases hx),fun q r=>⟨fun ⟨e,he,_⟩=>(by cases he),fun ⟨p,hp,_⟩=>(by simp at hp)⟩,Nat.zero_le _⟩,?_⟩
 clear hs;rintro-_ uW m ⟨i,bk,O,BS,N,rfl,rfl,hi,hs,hL⟩;refine aQ (fun c=>?_) (fun c=>?_)
 .refine (hM.ra.ext hs.ext).rw.ax (by omega) (by omega) fun b15 Qj p gp u=>?_;replace gp:A[i]?=some p:=gp;have sc:=Yb gp;have rK:=Cl p sc;refine⟨(p.1:Nat),(p.2:Nat),u,?_⟩;refine hs.aj (vs:=pC p) rfl rfl fun az hs=>?_;refine⟨(p.1:Nat),(p.2:Nat),hs.at 0 rfl (o:=0) (n:=2) rfl,?_⟩;obtain⟨r,hr,nD⟩:=hM.mv p sc;refine uI (cv:=fZ) (l:=l) yG ((hM.ext hs.ext).mp) hM.lk hM.ln (a:=p) (uQ p sc) false ?_;rw[hr];refine⟨r,rfl,?_⟩;have hs:St h az (.af uW.size (pC p) 97::OH h5.size N::(N.map yO++r8 h3.size h.size h8.size bk O BS [])):=hs.perm (List.Perm.cons _ lV);have l8:=nD.ln;have hrm:=Gh p;have yY:tV A (dc g role) i 0 p N:=⟨hL.nn,hL.nk,fun q r=>by rw[hL.rc];exact⟨.inl,fun h=>h.elim id fun ⟨m,h,_⟩=>(by rw[iY] at h;cases h)⟩,iX hL.Oi (Nat.le_add_right _ _)⟩;refine⟨fun x h' m=>∃(j:Nat) (N':List NE),x=j/\m=r.n-j/\j<=r.n/\St h h' (.af uW.size (pC p) 97::OH h5.size N'::(N'.map yO++r8 h3.size h.size h8.size bk O BS []))/\tV A (dc g role) i j p N',⟨_,0,N,rfl,rfl,Nat.zero_le _,hs,yY⟩,?_⟩;clear hs yY;rintro-_ y3 m ⟨j,N',rfl,rfl,hj,hs,yY⟩;refine aQ (fun c2=>?_) (fun c2=>?_)
  .refine (nD.ext hs.ext).rw.ax (by omega) (by omega) fun b31 o32 mv gm t=>?_;replace gm:(dc g role p)[j]?=some mv:=gm;have EZ:=Yb gm;have Cj:=qv hV rK EZ;have hta:=dU p sc mv EZ;refine⟨mv.x,mv.y,mv.s,mv.t,t,?_⟩;refine hs.aj (vs:=mv.cs) rfl rfl fun tB hs=>?_;refine⟨((bD mv).1:Nat),((bD mv).2:Nat),by rw[Cj.2.2.1,Cj.2.2.2];exact hs.at 0 rfl (o:=2) (n:=2) rfl,mv.x,hs.rd 0 rfl (i:=0) rfl,mv.y,hs.rd 0 rfl (i:=1) rfl,(p.1:Nat),(p.2:Nat),hs.at 1 rfl (o:=0) (n:=2) rfl,?_⟩;refine hs.ao fun CA hs=>?_;have hs:=hs.perm (sT (It.af tB.size (iP p mv).cs 200) _ _ _ _ _);have QR:=yY.Oi;have Ir:i*160800<=40000*160800:=Nat.mul_le_mul_right _ (by omega);refine EG hs yY.nn (fun x hx=>uQ x (yY.nk x hx)) (uQ _ hta) (by omega) fun vM N'' hs hu=>?_;refine⟨_,by omega,j+1,N'',by rw[bd (by omega) (by omega)];omega,rfl,by omega,?_,yY.step gm hta hu⟩;have hs:=(hs.perm (sT (It.af tB.size (iP p mv).cs 200) _ _ _ _ _).symm).drop 2;exact hs
  .have K5:j=(dc g role p).length:=by unfold dc;omega
   refine⟨(p.1:Nat),(p.2:Nat),hs.at 0 rfl (o:=0) (n:=2) rfl,?_⟩;refine (yb b g role X kind p y3 (hA.ext hs.ext) rK hC.a).mono ?_;rintro _ uT ⟨E59,rfl⟩;replace hs:=hs.step E59;refine⟨_,_,rfl,?_⟩;have hrc:∀q r,vu N' q r ↔ ∃p∈A.take (i+1),∃m∈dc g role p,bD m=q/\r=iP p m:=fun q r=>by
    rw[yY.rc,ae gp,K5,vV];constructor
    .rintro (⟨p',h1,h2⟩ | h1)
     .exact⟨p',List.mem_append_left _ h1,h2⟩
     .exact⟨p,by simp,h1⟩
    .rintro⟨p',h1,h2⟩;rcases Yk.1 h1 with h1 | h1
     .exact .inl ⟨p',h1,h2⟩
     .rw[Ye] at h1;subst h1;exact .inr h2
   have QR:p9 N'<=(i+1)*160800:=by have:=yY.Oi;rw[Nat.succ_mul];omega
   have Aw:=hL.ln;rw[Yc] at Aw;cases hc:dR X kind p with
   | none=>
    refine im rfl ?_;refine⟨_,by omega,i+1,bk,O,BS,N',by rw[bd (by omega) (by omega)];omega,rfl,by omega,(hs.drop 1).perm lV.symm,hL.ob,fun q hq c' yV=>?_,hL.ln,yY.nn,yY.nk,hrc,QR⟩;rw[ae gp,Yk,Ye] at hq;rcases hq with hq | rfl
    .exact hL.c q hq c' yV
    .unfold eX at yV;rw[hc] at yV;cases yV
   | some cv=>
    obtain⟨iA,rL⟩:=hC.c p sc cv hc;have hcN:eX X kind p=some cv.toNat:=by unfold eX;rw[hc];rfl
    refine gR rfl ?_;refine⟨(p.1:Nat),(p.2:Nat),hs.at 0 rfl (o:=0) (n:=2) rfl,?_⟩;have hs:=(hs.drop 1).perm lV.symm;have Fg:(((some cv:Option Int).getD 0):Int)=((cv.toNat:Nat):Int):=by show cv=_;omega
    rw[Fg];refine (Hi h uT h3.size h.size h8.size bk O BS _ p cv.toNat hs (hL.ob.iT uQ) hL.ob.on (uQ p sc) (by omega) (by omega) (hL.ob.bl hA4)).mono ?_;rintro _ oI ⟨rfl,pX,kd,hs,hBS⟩;refine⟨rfl,_,by omega,i+1,pX,nt O p cv.toNat,kd,N',by rw[bd (by omega) (by omega)];omega,rfl,by omega,hs,?_,fun q hq c' yV=>?_,?_,yY.nn,yY.nk,hrc,QR⟩
    .have h9:=hL.ob.put sc (.base hcN);rw[hBS];exact h9
    .rw[ae gp,Yk,Ye] at hq;rcases hq with hq | rfl
     .obtain⟨k,h1,h2⟩:=hL.c q hq c' yV;obtain⟨k',h3,h4⟩:=pN (p:=p) (n:=cv.toNat) h2;exact⟨k',by omega,h4⟩
     .rw[hcN] at yV;cases yV;exact Bv O q cv.toNat
    .rw[hBS];have:=wL O (BS.map Prod.snd) p cv.toNat;have h8:=hL.ln;show (r4 O (BS.map Prod.snd) p cv.toNat).length<=CB;omega
 .have dC:i=A.length:=by omega
  have hOB:=hL.ob;have hI:yH A (dc g role) (eX X kind) CB 0 0 [] O (BS.map Prod.snd):=yH.start hL.ob (fun p hp c hc=>hL.c p (by rw[dC,vV];exact hp) c hc) hL.ln;have hNn:=hL.nn;have hNk:=hL.nk;have hNr:∀q r,vu N q r ↔ ∃p∈A,∃m∈dc g role p,bD m=q/\r=iP p m:=fun q r=>by rw[hL.rc,dC,vV]
  have hNt:p9 N<=40000*160800:=iX hL.Oi (Nat.mul_le_mul_right _ (by omega));clear hL dC hOB;refine⟨fun x h' m=>∃(n:Nat) (Z:List Pr) (bk:Sl) (O:List (Pr × Nat)) (BS:List (Sl × List Pr)),x=n/\m=CB+2*A.length-n/\St h h' (r8 h3.size h.size h8.size bk O BS (OH h5.size N::N.map yO))/\yH A (dc g role) (eX X kind) CB n 0 Z O (BS.map Prod.snd),⟨_,0,[],bk,O,BS,rfl,rfl,hs,hI⟩,?_⟩;clear hs hI hi;rintro-_ nL m ⟨n,Z,bk,O,BS,rfl,rfl,hs,hI⟩;have hZA:Z.length<=A.length:=List.Nodup.length_le_of_subset hI.zn fun x hx=>hI.za x hx;have Aw:=hI.ln;rw[Yc] at Aw;have M9:=hs.len 3 (s:=bk) (e:=92) (n:=1) (rows:=(BS.map Prod.fst).map dv) rfl (by omega);rw[Yc,Yc] at M9;refine⟨bk,hs.rd 2 rfl (i:=0) rfl,aQ (fun c2=>?_) (fun c2=>?_)⟩
  .obtain⟨q0,Ua⟩:=get_some (l:=BS) (i:=n) (by omega);have oE:(BS.map Prod.snd)[n]?=some q0.2:=by rw[Yd,Ua];rfl
   refine⟨fun x h' m=>∃(i:Nat) (Z:List Pr) (bk:Sl) (O:List (Pr × Nat)) (BS:List (Sl × List Pr)),x=i/\m=q0.2.length-i/\St h h' (r8 h3.size h.size h8.size bk O BS (OH h5.size N::N.map yO))/\yH A (dc g role) (eX X kind) CB n i Z O (BS.map Prod.snd)/\(BS.map Prod.snd)[n]?=some q0.2,⟨_,0,Z,bk,O,BS,rfl,rfl,hs,hI,oE⟩,?_⟩;have ahG:=hI.ob.bl hA4 q0 (Yb Ua);clear hs hI hZA Aw M9 c2 Ua oE;rintro-_ h76 m ⟨i,Z,bk,O,BS,rfl,rfl,hs,hI,oE⟩;have hZA:Z.length<=A.length:=List.Nodup.length_le_of_subset hI.zn fun x hx=>hI.za x hx;have Aw:=hI.ln;rw[Yc] at Aw;have M9:=hs.len 3 (s:=bk) (e:=92) (n:=1) (rows:=(BS.map Prod.fst).map dv) rfl (by omega);rw[Yc,Yc] at M9;obtain⟨q1,ES,ij⟩:∃q1,BS[n]?=some q1/\q1.2=q0.2:=by
    rw[Yd] at oE;exact rP.1 oE
   have yT:=(Ya.1 ES).1;have iy:=hs.kI (A:=[.af h3.size [.map (some h.size)] 293,.mp h.size (O.map fun q=>(pV q.1,pD q.2)),.af h8.size [.slice bk.a bk.n bk.c] 350,.sl bk 92 1 ((BS.map Prod.fst).map dv)]) (e:=97) (n:=2) (cs:=pC) ES (by omega);rw[ij] at iy;have l8:=iy.ln;refine⟨bk,hs.rd 2 rfl (i:=0) rfl,?_⟩;refine (hs.rows 3 rfl (by omega)).ax (by omega) (by omega) fun NO OC d gd u=>?_;replace gd:(BS.map Prod.fst)[n]?=some d:=gd;rw[Yd,ES] at gd;cases gd;refine⟨q1.1,u.hd,aQ (fun c3=>?_) (fun c3=>?_)⟩
   .refine⟨bk,hs.rd 2 rfl (i:=0) rfl,?_⟩;refine (hs.rows 3 rfl (by omega)).ax (by omega) (by omega) fun b82 o83 d gd u2=>?_;replace gd:(BS.map Prod.fst)[n]?=some d:=gd;rw[Yd,ES] at gd;cases gd;refine⟨q1.1,u2.hd,?_⟩;refine iy.ax (by omega) (by omega) fun b85 o86 p gp u3=>?_;replace gp:q0.2[i]?=some p:=gp;obtain⟨sc,k,O6,K3⟩:=hI.ob.b1 n q0.2 oE p (Yb gp);refine⟨(p.1:Nat),(p.2:Nat),u3,?_⟩;refine hs.aj (vs:=pC p) rfl rfl fun vL hs=>?_;refine⟨some h.size,hs.rd 1 rfl (i:=0) rfl,(p.1:Nat),(p.2:Nat),hs.at 0 rfl (o:=0) (n:=2) rfl,?_⟩;refine hs.HH (cv:=pD) (l:=O) KI 2 rfl (hI.ob.iT uQ) hI.ob.on (a:=p) (uQ p sc) false ?_;rw[K3];refine⟨(k:Nat),rfl,?_⟩;refine dY (fun c4=>?_) (fun c4=>?_)
    .refine⟨_,?_,i+1,Z,bk,O,BS,by rw[bd (by omega) (by omega)];omega,rfl,hs.drop 1,hI.skip oE gp (by rw[K3];intro e;cases e;exact c4 rfl),oE⟩;omega
    .obtain rfl:k=n:=by omega
     refine⟨(p.1:Nat),(p.2:Nat),hs.at 0 rfl (o:=0) (n:=2) rfl,?_⟩;have hs:=(hs.drop 1).perm lV;have XX:((pB N).map Prod.fst).Nodup:=by rw[gn];exact hNn
     refine hs.HG (cv:=fZ) (l:=pB N) yG 0 rfl (fun q hq=>uQ _ (hNk _ (by rw[<-gn];exact Yp.2 ⟨q,hq,rfl⟩))) XX (a:=p) (uQ p sc) ?_;obtain⟨sr,rec,yR,nD,hrd,MR⟩:∃(sr:Sl) (rec:List bj),(aW (pB N) p).elim (.slice none 0 0) fZ=.slice sr.a sr.n sr.c/\rec.length<=40000*160800/\(∀ {h0 hh:Heap} {L:List It},St h0 hh L->(∀e∈N,yO e∈L)->Rw hh 4 sr (rec.map bj.cs))/\(∀r,r∈rec ↔ vu N p r):=by
      cases hg:aW (pB N) p with
      | none=>
       refine⟨⟨none,0,0⟩,[],rfl,Nat.zero_le _,fun _ _=>⟨rfl,fun h=>absurd h (by simp)⟩,fun r=>⟨fun h=>(by cases h),fun ⟨e,he,h1,h2⟩=>?_⟩⟩;have:=(df p (pB N)).2 (by rw[gn,<-h1];exact Yp.2 ⟨e,he,rfl⟩);rw[hg] at this;cases this
      | some y=>
       have h9:=(df p (pB N)).1 (by rw[hg];rfl);rw[gn] at h9;obtain⟨e,he,h1⟩:=Yp.1 h9;obtain⟨j,hj⟩:=Yf.1 he;have h2:aW (pB N) p=some e.2.1:=fw XX (j:=j) (by unfold pB;rw[Yd,hj,<-h1];rfl);rw[hg] at h2;cases h2;refine⟨e.2.1,e.2.2,rfl,iX (GH he) hNt,fun cj oC=>cj.vF (e:=200) (oC e he) (by omega),fun r=>⟨fun h=>⟨e,he,h1,h⟩,fun ⟨e',xD,h3,h4⟩=>?_⟩⟩;obtain⟨j',hj'⟩:=Yf.1 xD;have h5:(N.map Prod.fst)[j]?=some p:=by rw[Yd,hj,<-h1];rfl
       have h6:(N.map Prod.fst)[j']?=some p:=by rw[Yd,hj',<-h3];rfl
       have h7:=fH hNn h5 h6;subst h7;rw[hj] at hj';cases hj';exact h4
     rw[yR];refine⟨sr,rfl,?_⟩;have hs:=hs.perm lV.symm;have X6:∀ {O:List (Pr × Nat)} {BS:List (Sl × List Pr)} {bk:Sl} (e:NE),e∈N->yO e∈r8 h3.size h.size h8.size bk O BS (OH h5.size N::N.map yO):=fun e he=>by
      unfold r8;exact List.mem_append_right _ (Yn _ (Yp.2 ⟨e,he,rfl⟩))
     have hJ:=hI.take oE gp K3 rec;have Y7:=hI;have hnC:k+1<=CB+2*Z.length:=by omega
     refine⟨fun x h' m=>∃(j:Nat) (bk:Sl) (O:List (Pr × Nat)) (BS:List (Sl × List Pr)),x=j/\m=sr.n-j/\j<=sr.n/\St h h' (r8 h3.size h.size h8.size bk O BS (OH h5.size N::N.map yO))/\TD A (dc g role) (eX X kind) CB k i Z p rec j O (BS.map Prod.snd)/\(BS.map Prod.snd)[k]?=some q0.2,⟨_,0,bk,O,BS,rfl,rfl,Nat.zero_le _,hs,hJ,oE⟩,?_⟩;clear hs hJ iy M9 Aw ES yT hI oE K3;rintro-_ h107 m ⟨j,bk,O,BS,rfl,rfl,hj,hs,hJ,oE⟩;have Aw:=hJ.ln;rw[Yc] at Aw;have iy:=hrd hs fun e he=>X6 e he;have l8:=iy.ln;refine aQ (fun c5=>?_) (fun c5=>?_)
     .refine iy.ax (by omega) (by omega) fun ajc ahr r gr u4=>?_;replace gr:rec[j]?=some r:=gr;obtain⟨p',oz,m',oC,hto,rfl⟩:=(hNr p r).1 ((MR r).1 (Yb gr));have rK:=ee m';have Ct:Dn (dc g role) (eX X kind) p' (k+cq m'):=.step oC (by rw[hto];exact hJ.ob.d p k hJ.pn);have hd:Dn (dc g role) (eX X kind) (bD (iP p' m')) (k+cq (iP p' m')):=Ct;refine⟨m'.x,m'.y,(p'.1:Nat),(p'.2:Nat),u4,?_⟩;refine hs.aj (vs:=(iP p' m').cs) rfl rfl fun afB hs=>?_;refine⟨(p'.1:Nat),(p'.2:Nat),hs.at 0 rfl (o:=2) (n:=2) rfl,m'.x,m'.y,(p'.1:Nat),(p'.2:Nat),hs.at 0 rfl (o:=0) (n:=4) rfl,?_⟩;refine (qI m'.x m'.y (p'.1:Nat) (p'.2:Nat) afB).mono ?_;rintro _ afy ⟨rfl,E⟩;have hs:=(hs.step E).drop 1;refine⟨_,rfl,E.sm,?_⟩;have hw:IntKind.wrap .i64 ((k:Int)+(if 0<=m'.x/\0<=m'.y then 2 else 1))=((k+cq (iP p' m'):Nat):Int):=by
       have:cq (iP p' m')=if 0<=m'.x/\0<=m'.y then 2 else 1:=rfl
       rw[this];split<;>rw[bd (by omega) (by omega)]<;>omega
      rw[hw];have ahH:=ee (iP p' m');refine (Hi h afy h3.size h.size h8.size bk O BS _ p' (k+cq (iP p' m')) hs (hJ.ob.iT uQ) hJ.ob.on (uQ p' oz) (by omega) (by omega) (hJ.ob.bl hA4)).mono ?_;rintro _ afw ⟨rfl,pX,kd,hs,hBS⟩;have hJ2:=hJ.put hnC gr (show bD (iP p' m')∈A from oz) hd;refine⟨rfl,_,?_,j+1,pX,nt O p' (k+cq (iP p' m')),kd,by rw[bd (by omega) (by omega)];omega,rfl,by omega,hs,?_,?_⟩
      .omega
      .rw[hBS];exact hJ2
      .rw[hBS];exact sQ (p:=p') oE (by omega)
     .have pQ:=hJ.fin (by omega) sc Y7.zn Y7.za fun q hq m hm he=>⟨iP q m,(MR _).2 ((hNr p _).2 ⟨q,hq,m,hm,he,rfl⟩),rfl,rfl⟩;refine⟨_,?_,i+1,p::Z,bk,O,BS,by rw[bd (by omega) (by omega)];omega,rfl,hs,pQ,oE⟩;omega
   .have aen:q0.2.length<=i:=by omega
    refine⟨_,?_,n+1,Z,bk,O,BS,by rw[bd (by omega) (by omega)];omega,rfl,hs,hI.next oE aen⟩;omega
  .refine⟨some h.size,hs.rd 0 rfl (i:=0) rfl,hs.ext,h.size,O,rfl,hs.get (k:=1) rfl,hI.ob.iT uQ,hI.ob.on,fun p hp k=>?_⟩;obtain⟨h1,h2⟩:=hI.fin (by rw[Yc];omega) dU hp k;refine⟨h1,fun hk=>?_⟩;have:=h2 hk;rw[Yc] at this;omega
end Go.VC
end

section
namespace Go.VC
theorem Jx:∀b:Fin 256,∀x:Fin 8,((mH .u8 (lF .u8 (b.val:Int) (x.val:Int)) 1==1)=b.val.testBit x.val)/\((mH .u8 (lF .u8 (b.val:Int) (x.val:Int)) 1==0)=!b.val.testBit x.val)/\zy .u8 (b.val:Int) (dW .u8 1 (x.val:Int))=((b.val|||2^x.val:Nat):Int):=by
 decide +kernel
theorem adL:∀x:Fin 8,dW .u8 1 (x.val:Int)=((2^x.val:Nat):Int):=by decide +kernel
theorem or8{b x:Nat}(hb:b<256)(hx:x<8):b|||2^x<256:=Nat.or_lt_two_pow (n:=8) hb (Nat.pow_lt_pow_right (by omega) hx)
theorem or6{b x:Nat}(hb:b<64)(hx:x<6):b|||2^x<64:=Nat.or_lt_two_pow (n:=6) hb (Nat.pow_lt_pow_right (by omega) hx)
theorem W4{x:Nat}(hx:x<6):2^x<64:=Nat.pow_lt_pow_right (m:=x) (n:=6) (by omega) hx
theorem adK{x:Nat}(hx:x<8):2^x<256:=Nat.pow_lt_pow_right (m:=x) (n:=8) (by omega) hx
structure eH where
 s:Nat
 b:Nat
 d:Nat
 deriving DecidableEq
def eH.cs(p:eH):List Value:=[.int .i64 (p.s:Nat),.int .u8 (p.b:Nat),.int .u8 (p.d:Nat)]
def eH.ok(n:Nat)(p:eH):Prop:=p.s<n/\p.b<64/\p.d<64
theorem Hn{n:Nat}{L:List eH}(hn:L.Nodup)(h:∀p∈L,p.ok n):L.length<=n*4096:=by
 have h1:(L.map fun p=>p.s*4096+p.b*64+p.d).Nodup:=by
  rw[List.Nodup,List.pairwise_map];refine hn.imp_of_mem fun {a b} ha hb kj e=>kj ?_;obtain⟨h1,h2,h3⟩:=h a ha;obtain⟨h4,h5,h6⟩:=h b hb;obtain⟨a1,a2,a3⟩:=a;obtain⟨b1,b2,b3⟩:=b;simp only at *;congr 1<;>omega
 have h2:=List.Nodup.length_le_of_subset h1 (l₂:=List.range (n*4096)) fun x hx=>by
  obtain⟨p,hp,rfl⟩:=Yp.1 hx;obtain⟨h3,h4,h5⟩:=h p hp;rw[List.mem_range];omega
 rwa [Yc,kv] at h2
theorem fY{α:Type}{R:α->α->Prop}(irr:∀a,¬R a a)(tr:∀a b c,R a b->R b c->R a c):∀l m:List α,l.Pairwise R->m.Pairwise R->(∀x,x∈l ↔ x∈m)->l=m
 | [],[],_,_,_=>rfl
 | [],b::m,_,_,h=>absurd ((h b).2 (by simp)) (by simp)
 | a::l,[],_,_,h=>absurd ((h a).1 (by simp)) (by simp)
 | a::l,b::m,hl,hm,h=>by
  obtain⟨hl1,oD⟩:=List.pairwise_cons.1 hl;obtain⟨hm1,ik⟩:=List.pairwise_cons.1 hm;have e:a=b:=by
   rcases Yr.1 ((h a).1 (by simp)) with h1 | h1
   .exact h1
   rcases Yr.1 ((h b).2 (by simp)) with h2 | h2
   .exact h2.symm
   exact absurd (tr _ _ _ (hl1 b h2) (hm1 a h1)) (irr a)
  subst e;congr 1;refine fY irr tr l m oD ik fun x=>⟨fun hx=>?_,fun hx=>?_⟩
  .rcases Yr.1 ((h x).1 (Yn _ hx)) with h1 | h1
   .subst h1;exact absurd (hl1 x hx) (irr x)
   .exact h1
  .rcases Yr.1 ((h x).2 (Yn _ hx)) with h1 | h1
   .subst h1;exact absurd (hm1 x hx) (irr x)
   .exact h1
def iJ(x:Ed):List Ed->List Ed
 | []=>[x]
 | y::r=>if acLt y.act x.act then y::iJ x r else x::y::r
theorem nC(x z:Ed):∀l:List Ed,z∈iJ x l ↔ z=x\/z∈l
 | []=>by simp[iJ]
 | y::r=>by
  unfold iJ;split
  .rw[Yr,nC x z r,Yr];constructor
   .rintro (h | h | h)
    .exact .inr (.inl h)
    .exact .inl h
    .exact .inr (.inr h)
   .rintro (h | h | h)
    .exact .inr (.inl h)
    .exact .inl h
    .exact .inr (.inr h)
  .simp
theorem pZ{x y z:Ac}(h1:acLt x y)(h2:acLt y z):acLt x z:=by unfold acLt at *;omega
theorem yy(x:Ac):¬acLt x x:=by unfold acLt;omega
theorem rD{x y:Ac}(h:x≠y)(h1:¬acLt y x):acLt x y:=by
 obtain⟨a,b,c⟩:=x;obtain⟨a',b',c'⟩:=y;unfold acLt at *;simp only[ne_eq,Ac.mk.injEq] at h;simp only at *;omega
theorem lZ{x:Ed}:∀ {l:List Ed},l.Pairwise (fun a b=>acLt a.act b.act)->(∀y∈l,y.act≠x.act)->(iJ x l).Pairwise fun a b=>acLt a.act b.act
 | [],_,_=>by simp[iJ]
 | y::r,hl,hx=>by
  obtain⟨h1,h2⟩:=List.pairwise_cons.1 hl;unfold iJ;by_cases h:acLt y.act x.act
  .rw[if_pos h,List.pairwise_cons];refine⟨fun z hz=>?_,lZ h2 fun z hz=>hx z (Yn _ hz)⟩;rcases (nC x z r).1 hz with rfl | hz
   .exact h
   .exact h1 z hz
  .rw[if_neg h,List.pairwise_cons];have h3:acLt x.act y.act:=rD (fun e=>hx y (by simp) e.symm) h;refine⟨fun z hz=>?_,hl⟩;rcases Yr.1 hz with rfl | hz
   .exact h3
   .exact pZ h3 (h1 z hz)
def wg(l:List Ed):List Ed:=l.foldr iJ []
def gE(es:List Ed)(s:Nat):List Ed:=wg (es.filter fun x=>decide (x.f=(s:Int)))
theorem lB(l:List Ed)(z:Ed):z∈wg l ↔ z∈l:=by
 induction l with
 | nil=>simp[wg]
 | cons a l ih=>
  show z∈iJ a (wg l) ↔ _;rw[nC,ih,Yr]
theorem th(x:Ed):∀l:List Ed,(iJ x l).length=l.length+1
 | []=>rfl
 | y::r=>by
  unfold iJ;split
  .rw[jC,th x r,jC]
  .rfl
theorem we(l:List Ed):(wg l).length=l.length:=by
 induction l with
 | nil=>rfl
 | cons a l ih=>
  show (iJ a (wg l)).length=_;rw[th,ih];rfl
theorem jc:∀ {l:List Ed},l.Pairwise (fun a b=>a.act≠b.act)->(wg l).Pairwise fun a b=>acLt a.act b.act
 | [],_=>.nil
 | a::l,h=>by
  obtain⟨h1,h2⟩:=List.pairwise_cons.1 h;exact lZ (jc h2) fun y hy=>(h1 y ((lB l y).1 hy)).symm
theorem P4{l l':List Ed}(hp:l'.Perm l)(hw:l'.Pairwise fun a b=>¬acLt b.act a.act)(hd:l.Pairwise fun a b=>a.act≠b.act):l'=wg l:=by
 have Rr:l'.Pairwise fun a b=>a.act≠b.act:=(hp.pairwise_iff fun {a b} h=>h.symm).2 hd;refine fY (R:=fun a b:Ed=>acLt a.act b.act) (fun a=>yy _) (fun a b c=>pZ) _ _ ?_ (jc hd) fun x=>by rw[lB];exact hp.mem_iff
 exact (hw.and Rr).imp fun ⟨h1,h2⟩=>rD h2 h1
theorem rA{g:Gl}(hV:ah g)(s:Int):(g.es.filter fun x=>decide (x.f=s)).Pairwise fun a b=>a.act≠b.act:=by
 have h1:g.es.Pairwise fun a b=>a.f=b.f->a.act≠b.act:=by
  rw[List.pairwise_iff_getElem];intro i j hi hj hij hf he;refine hV.ord.p i _ (Yi hi) j _ (Yi hj) (.inl ⟨by omega,hf,.inl ?_⟩);unfold Ed.act at he;simp only[Ac.mk.injEq] at he;exact he
 refine (h1.sublist List.filter_sublist).imp_of_mem fun {a b} ha hb h=>h ?_;rw[List.mem_filter,decide_eq_true_eq] at ha hb;rw[ha.2,hb.2]
structure rG where
 m:Ms
 path:List Ac
abbrev nT:=eH × List Ac
def eK(role:Int)(p:eH)(x:Ed):eH × Bool:=
 if p.b.testBit x.a.toNat then (⟨x.t.toNat,p.b|||2^x.b.toNat,p.d⟩,false)
 else if x.b=role/\p.d.testBit x.a.toNat=false then (⟨x.t.toNat,p.b,p.d|||2^x.a.toNat⟩,true) else (⟨x.t.toNat,p.b,p.d⟩,false)
def oo(F:List rG)(f:rG):List rG:=if ∃y∈F,y.m=f.m then F else F++[f]
def je(role:Int)(p:eH)(path:List Ac)(st:List nT × List rG)(x:Ed):List nT × List rG:=
 (if (eK role p x).1∈st.1.map Prod.fst then st.1 else st.1++[((eK role p x).1,path++[x.act])],
  if (eK role p x).2 then oo st.2 ⟨⟨x.a,x.l⟩,path++[x.act]⟩ else st.2)
def pq(es:List Ed)(role:Int):Nat->Nat->List nT->List rG->List rG
 | 0,_,_,F=>F
 | f+1,hd,Q,F=>match Q[hd]? with
  | none=>F
  | some (p,path)=>pq es role f (hd+1) ((gE es p.s).foldl (je role p path) (Q,F)).1 ((gE es p.s).foldl (je role p path) (Q,F)).2
def eL(g:Gl)(i:Nat):List rG:=match g.es[i]? with
 | none=>[]
 | some x=>pq g.es x.b (g.n.toNat*65536+1) 0 [(⟨x.t.toNat,2^x.b.toNat,0⟩,[])] []
end Go.VC
end

section
namespace Go.VC
open Go.Proofs Go.LexS
def uO{α:Type}(p:α->Bool)(L:List α):Int:=match L.findIdx? p with | some i=>((i:Nat):Int) | none=>-1
theorem qN{α:Type}{p:α->Bool}:∀ {L:List α} {i:Nat} {x:α},(∀(j:Nat) y,j<i->L[j]?=some y->p y=false)->L[i]?=some x->p x=true->L.findIdx? p=some i
 | [],i,x,_,h,_=>by cases h
 | a::L,0,x,_,h,hp=>by cases h;rw[List.findIdx?_cons,hp];rfl
 | a::L,i+1,x,hq,h,hp=>by
  rw[List.findIdx?_cons,hq 0 a (by omega) rfl,qN (L:=L) (i:=i) (fun j y hj hy=>hq (j+1) y (by omega) hy) h hp];rfl
theorem Cd{α:Type}{p:α->Bool}{L:List α}(h:∀(j:Nat) y,L[j]?=some y->p y=false):L.findIdx? p=none:=by
 rw[List.findIdx?_eq_none_iff];intro x hx;obtain⟨j,hj⟩:=Yf.1 hx;exact h j x hj
abbrev FS:=rG × Sl
def dK(q:FS):List Value:=[.int .i64 q.1.m.p,.int .i64 q.1.m.l,.slice q.2.a q.2.n q.2.c]
theorem Aa(x y:Ms):((x.p==y.p)&&((x.l==y.l)&&true))=decide (x=y):=by
 obtain⟨a,b⟩:=x;obtain⟨c,d⟩:=y;rw[Bool.eq_iff_iff];simp
theorem LP(q:FS)(m:Ms)(b:Nat)(h:Heap)(iA:aY h ⟨b,0,none⟩ m.cs):Fn Pz 132 #[.agg ⟨dK q⟩,.pointer (some ⟨b,0,none⟩)] h fun v h'=>v=.bool (decide (q.1.m=m))/\Ext h h':=by
 apply Wz q.1.m.p q.1.m.l q.2 ⟨b,0,none⟩;unfold abN;refine (St.refl h).ao fun h4 hs=>?_;exact⟨_,_,hs.at 0 rfl (o:=0) (n:=2) rfl,m.p,m.l,dE hs.ext iA,by rw[Aa],hs.ext⟩
theorem LQ(q:FS)(m:Ms)(b:Nat)(h:Heap)(iA:aY h ⟨b,0,none⟩ m.cs):Fn Pz 72 #[.agg ⟨dK q⟩,.pointer (some ⟨b,0,none⟩)] h fun v h'=>v=.bool (decide (q.1.m=m))/\Ext h h':=by
 apply acV q.1.m.p q.1.m.l q.2 ⟨b,0,none⟩;unfold W72;refine (St.refl h).ao fun h4 hs=>?_;exact⟨_,_,hs.at 0 rfl (o:=0) (n:=2) rfl,m.p,m.l,dE hs.ext iA,by rw[Aa],hs.ext⟩
theorem Sv:aF Pz 132=true:=by kernel_rfl
theorem Sy:aF Pz 72=true:=by kernel_rfl
theorem xh(G:Nat)(hG:aF Pz G=true)(L:List FS)(m:Ms)(b:Nat)(s:Sl)(h:Heap)(hr:Rw h 3 s (L.map dK))(iA:aY h ⟨b,0,none⟩ m.cs)(hl:L.length<=16777216)
  (hF:∀(q:FS) (h:Heap),aY h ⟨b,0,none⟩ m.cs->Fn Pz G #[.agg ⟨dK q⟩,.pointer (some ⟨b,0,none⟩)] h fun v h'=>v=.bool (decide (q.1.m=m))/\Ext h h') :
  Fn Pz 71 #[.slice s.a s.n s.c,.func (.func G) #[] #[.pointer (some ⟨b,0,none⟩)]] h fun v h'=>v=.int .i64 (uO (fun q=>decide (q.1.m=m)) L)/\Ext h h':=by
 apply acW;unfold W71;have hn:=hr.ln;refine⟨fun x h' μ=>∃i:Nat,x=i/\μ=s.n-i/\i<=s.n/\Ext h h'/\∀(j:Nat) (y:FS),j<i->L[j]?=some y->decide (y.1.m=m)=false,⟨_,0,rfl,rfl,Nat.zero_le _,.jg,fun j y hj=>by omega⟩,?_⟩;rintro-_ h5 μ ⟨i,rfl,rfl,hi,E,hd⟩;refine aQ (fun c=>?_) (fun c=>?_)
 .refine (hr.ext E).ax (by omega) (by omega) fun b6 o7 q g t=>?_;replace g:L[i]?=some q:=g;refine⟨q.1.m.p,q.1.m.l,q.2,t,?_⟩;show cond (aF Pz G) _ _;rw[hG,cond_true];refine (hF q h5 (dE E iA)).mono ?_;rintro _ fx ⟨rfl,E2⟩;refine⟨_,rfl,aa (fun c1=>⟨?_,E.trans E2⟩) (fun c1=>⟨_,by omega,i+1,by rw[bd (by omega) (by omega)];omega,rfl,by omega,E.trans E2,fun j y hj hy=>?_⟩)⟩
  .unfold uO;rw[qN hd g c1]
  .by_cases e1:j=i
   .subst e1;rw[g] at hy;cases hy;exact c1
   .exact hd j y (by omega) hy
 .refine⟨?_,E⟩;unfold uO;rw[Cd fun j y hj=>hd j y (by have:=(Ya.1 hj).1;omega) hj]
theorem yc(L:List FS)(m:Ms)(b:Nat)(s:Sl)(h:Heap)(hr:Rw h 3 s (L.map dK))(iA:aY h ⟨b,0,none⟩ m.cs)(hl:L.length<=16777216):
  Fn Pz 131 #[.slice s.a s.n s.c,.func (.func 132) #[] #[.pointer (some ⟨b,0,none⟩)]] h fun v h'=>(∃r:Bool,v=.bool r/\(r=true ↔ ∃q∈L,q.1.m=m))/\Ext h h':=by
 apply WA;unfold abO;refine (xh 132 Sv L m b s h hr iA hl fun q h hc=>LP q m b h hc).mono ?_;rintro _ h3 ⟨rfl,E⟩;refine⟨_,rfl,⟨_,rfl,?_⟩,E⟩;rw[decide_eq_true_eq];unfold uO;cases hf:L.findIdx? fun q=>decide (q.1.m=m) with
 | none=>
  rw[List.findIdx?_eq_none_iff] at hf;refine iff_of_false (by simp only;omega) ?_;rintro⟨q,hq,e⟩;have:=hf q hq;rw[decide_eq_true e] at this;cases this
 | some i=>
  refine iff_of_true (by simp only;omega) ?_;obtain⟨h1,h2,_⟩:=List.findIdx?_eq_some_iff_getElem.1 hf;exact⟨L[i],List.getElem_mem h1,cd h2⟩
theorem LW{α:Type}(L:List α)(i:Nat)(hi:i<L.length):L.reverse[i]?=L[L.length-1-i]?:=by
 rw[List.getElem?_reverse hi]
theorem zj{h0 h:Heap}{Ls:List It}(hs:St h0 h Ls)(k:Nat){s:Sl}{l:List Ac}(hk:Ls[k]?=some (.sl s 65 3 (l.map Ac.cs)))(hl:l.length<=33554432):
  Fn Pz 133 #[.slice s.a s.n s.c] h fun v h'=>v=.tuple ⟨[]⟩/\St h0 h' (Ls.set k (.sl s 65 3 (l.reverse.map Ac.cs))):=by
 apply Wy s;unfold abM;have nH:k<Ls.length:=(Ya.1 hk).1;have hn:s.n=l.length:=by have:=(hs.len k hk (by omega)).1;rwa [Yc] at this
 have cN:Ls.set k (.sl s 65 3 (l.map Ac.cs))=Ls:=by
  obtain⟨a,b⟩:=Ya.1 hk;rw[<-b];exact List.set_getElem_self a
 refine⟨fun x y h' m=>∃(i:Nat) (c:List Ac),x=i/\y=(l.length:Int)-1-i/\m=l.length-i/\2*i<=l.length+1/\c.length=l.length/\(∀t,t<l.length->c[t]?=if t<i\/l.length-i<=t then l[l.length-1-t]? else l[t]?)/\St h0 h' (Ls.set k (.sl s 65 3 (c.map Ac.cs))),
  ⟨_,0,l,rfl,by rw[bd (by omega) (by omega)];omega,rfl,by omega,rfl,fun t ht=>by rw[if_neg (by omega)],by rw[cN];exact hs⟩,?_⟩
 clear hs;rintro-_ _ h6 m ⟨i,c,rfl,rfl,rfl,hi,dU,hc,hs⟩;have Ip:(Ls.set k (.sl s 65 3 (c.map Ac.cs)))[k]?=some (.sl s 65 3 (c.map Ac.cs)):=by rw[Yq nH]
 refine aQ (fun c1=>?_) (fun c1=>?_)
 .have hj:(l.length:Int)-1-i=((l.length-1-i:Nat):Int):=by omega
  rw[hj];refine (hs.rows k Ip (by omega)).ax (by omega) (by omega) fun b7 o8 x gx t=>?_;replace gx:c[l.length-1-i]?=some x:=gx;refine⟨x.a,x.b,x.l,t,?_⟩;refine (hs.rows k Ip (by omega)).ax (by omega) (by omega) fun b12 o13 y gy t2=>?_;replace gy:c[i]?=some y:=gy;refine⟨y.a,y.b,y.l,t2,?_⟩;refine hs.set k Ip (by omega) (x:=(i:Int)) (by omega) (by omega) x rfl rfl (fun b17 TK h19 hs=>?_) rfl;rw[List.set_set] at hs;have aeD:(Ls.set k (.sl s 65 3 ((c.set (Int.toNat (i:Int)) x).map Ac.cs)))[k]?=some (.sl s 65 3 ((c.set (Int.toNat (i:Int)) x).map Ac.cs)):=by rw[Yq nH]
  refine hs.set k aeD (by omega) (x:=((l.length-1-i:Nat):Int)) (by omega) (by omega) y rfl rfl (fun b20 o21 cR hs=>?_) rfl;rw[List.set_set] at hs;refine⟨_,?_,i+1,(c.set i x).set (l.length-1-i) y,by rw[bd (by omega) (by omega)];omega,by rw[bd (by omega) (by omega)];omega,rfl,by omega,by rw[lh,lh];exact dU,fun t ht=>?_,hs⟩
  .omega
  .have h1:=hc (l.length-1-i) (by omega);have h2:=hc i (by omega);rw[if_neg (by omega)] at h1 h2;rw[gx] at h1;rw[gy] at h2;by_cases e1:l.length-1-i=t
   .subst e1;rw[Yq (by rw[lh];omega),if_pos (by omega),show l.length-1-(l.length-1-i)=i by omega,h2]
   .rw[Yy e1];by_cases e2:i=t
    .subst e2;rw[Yq (by omega),if_pos (by omega),h1]
    .rw[Yy e2,hc t ht];by_cases e3:t<i\/l.length-i<=t
     .rw[if_pos e3,if_pos (by omega)]
     .rw[if_neg e3,if_neg (by omega)]
 .refine⟨rfl,?_⟩;have:c=l.reverse:=by
   apply y4;intro t;by_cases ht:t<l.length
   .rw[hc t ht,LW l t ht];by_cases e3:t<i\/l.length-i<=t
    .rw[if_pos e3]
    .rw[if_neg e3];congr 1;omega
   .rw[Yl (by omega),Yl (by rw[List.length_reverse];omega)]
  rw[<-this];exact hs
end Go.VC
end

section
namespace Go.VC
open Go.Proofs Go.LexS Go.Maps
theorem Qz(n:Nat):ak Pz 24 n=(List.replicate n (⟨none,0,0⟩:Sl)).map fZ:=by
 have e:bN Pz 24=[.slice none 0 0]:=by kernel_rfl
 unfold ak;rw[e,List.map_replicate]
 induction n with
 | zero=>rfl
 | succ n ih=>rw[List.replicate_succ,List.replicate_succ,pI,ih];rfl
theorem Z5:cu Pz 24 67 6 48=true:=by kernel_rfl
theorem SY:cu Pz 130 134 3 40=true:=by kernel_rfl
theorem SU:cu Pz 249 248 7 48=true:=by kernel_rfl
theorem S2:cu Pz 68 72 2 16=true:=by kernel_rfl
def eH.v(p:eH):Value:=.agg ⟨p.cs⟩
def MI(p:eH):Prop:=p.s<1048576/\p.b<256/\p.d<256
theorem adM : ∃ fs, Pz.underlying 245 = some (.struct fs) /\ fs.all (·.name != "_") = true /\ fs.toList.map (fun f => (f.type, f.offset)) = [(3, 0), (5, 1), (5, 2)] := su (by kernel_rfl)
theorem ZR:Pz.cellsOf 245=3:=by kernel_rfl
theorem c5:Pz.cellsOf 5=1:=by kernel_rfl
theorem u5:Pz.underlying 5=some (.int .u8):=by kernel_rfl
theorem wf8{n:Nat}(h:n<256):(Lit.int .u8 ((n:Nat):Int)).wf=true:=by
 unfold Lit.wf;simp only[Yt,decide_eq_true_eq];have e1:IntKind.u8.min=0:=by decide
 have e2:IntKind.u8.max=255:=by decide
 rw[e1,e2];omega
theorem MJ(p:eH)(h:MI p):∃l,keyOf Pz 245 p.v=some l:=by
 obtain⟨fs,hu,hn,hf⟩:=adM;obtain⟨h1,h2,h3⟩:=h;have fL:∃n,Pz.types.size+1=n+2:=⟨Pz.types.size-1,by kernel_rfl⟩;obtain⟨n,fL⟩:=fL;have w1:Xy ((p.s:Nat):Int):=⟨by omega,by omega⟩;have hl:Pz.keyLits (n+2) 245 p.cs=some [[.int .i64 ((p.s:Nat):Int)],[.int .u8 ((p.b:Nat):Int)],[.int .u8 ((p.d:Nat):Int)]].flatten:=by
  refine te hu (by rw[ZR];rfl) hn hf ?_;simp only[List.mapM_cons,List.mapM_nil,c3,c5,eH.cs,List.drop_zero,List.take_succ_cons,iY,List.drop_succ_cons,qL u3 w1.wf,qL u5 (wf8 h2),qL u5 (wf8 h3)];rfl
 have hkt:Pz.keyType 245=true:=by kernel_rfl
 have Uf:p.v.formed Pz 245=true:=by
  unfold eH.v Value.formed;simp only[hu,ZR];rfl
 have e:keyOf Pz 245 p.v=(Pz.keyLits (n+2) 245 p.cs).map fun ls=>.string (keyBytes ls):=by
  unfold keyOf;simp only[hu,hkt,Uf,Bool.and_self,if_true,fL];rfl
 rw[e,hl];exact⟨_,rfl⟩
theorem LZ(a b:eH)(h:a.v=b.v):a=b:=by
 unfold eH.v eH.cs at h;obtain⟨a1,a2,a3⟩:=a;obtain⟨b1,b2,b3⟩:=b;simp at h;obtain⟨h1,h2,h3⟩:=h;congr 1<;>omega
theorem TC:MT Pz 246 245 4 eH.v MI (.bool false) where
 K:=Keyed.of_law (deep_law_laid Af (m:=2) (by omega) (cd (by kernel_rfl)) (by kernel_rfl) (by kernel_rfl))
 ht:=by kernel_rfl
 key:=MJ
 inj:=LZ
 z:=fun w=>by kernel_rfl
abbrev CY:=eH × (Int × Ac)
def vC(v:CY):List Value:=[.int .i64 (v.1.s:Nat),.int .u8 (v.1.b:Nat),.int .u8 (v.1.d:Nat),.int .i64 v.2.1,.int .i64 v.2.2.a,.int .i64 v.2.2.b,.int .i64 v.2.2.l]
structure Bb (n:Nat) (Q:List nT) (V:List CY) (K:List (eH × Bool)):Prop where
 vn:V.length=Q.length
 vq:∀(i:Nat) (v:CY) (q:nT),V[i]?=some v->Q[i]?=some q->v.1=q.1/\((v.2.1=-1/\q.2=[])\/∃(a:Nat) (qa:nT),v.2.1=a/\a<i/\Q[a]?=some qa/\q.2=qa.2++[v.2.2])
 nd:(Q.map Prod.fst).Nodup
 ok:∀q∈Q,q.1.ok n
 pl:∀(i:Nat) (q:nT),Q[i]?=some q->q.2.length<=i
 ky:∀p,p∈K.map Prod.fst ↔ p∈Q.map Prod.fst
 kt:∀q∈K,q.2=true
 kn:(K.map Prod.fst).Nodup
theorem Bb.le{n:Nat}{Q:List nT}{V:List CY}{K:List (eH × Bool)}(h:Bb n Q V K):Q.length<=n*4096:=by
 have:=Hn h.nd fun p hp=>by obtain⟨q,hq,rfl⟩:=Yp.1 hp;exact h.ok q hq
 rwa [Yc] at this
theorem Bb.iT{n:Nat}{Q:List nT}{V:List CY}{K:List (eH × Bool)}(h:Bb n Q V K)(hn:n<=200):∀q∈K,MI q.1:=fun q hq=>by
 have h1:=(h.ky q.1).1 (Yp.2 ⟨q,hq,rfl⟩);obtain⟨q2,h2,h3⟩:=Yp.1 h1;obtain⟨h4,h5,h6⟩:=h.ok q2 h2;rw[h3] at h4 h5 h6;exact⟨by omega,by omega,by omega⟩
theorem wZ{α β:Type}[DecidableEq α](a:α)(b:β):∀(l:List (α × β)) (q:α × β),q∈cL l a b->q∈l\/q=(a,b)
 | [],q,h=>by simp[cL] at h;exact .inr h
 | (c,y)::r,q,h=>by
  rw[cL] at h;split at h
  .rename_i e;subst e;rcases Yr.1 h with h | h
   .exact .inr h
   .exact .inl (Yn _ h)
  .rcases Yr.1 h with h | h
   .exact .inl (by rw[h];simp)
   .rcases wZ a b r q h with h | h
    .exact .inl (Yn _ h)
    .exact .inr h
theorem Bb.push{n:Nat}{Q:List nT}{V:List CY}{K:List (eH × Bool)}(h:Bb n Q V K){hd:Nat}{q:nT}(hq:Q[hd]?=some q){nx:eH}{a:Ac}(bM:nx∉Q.map Prod.fst)(oB:nx.ok n):
  Bb n (Q++[(nx,q.2++[a])]) (V++[(nx,((hd:Int),a))]) (cL K nx true):=by
 have hl:=(Ya.1 hq).1;refine⟨by rw[Yh,Yh,h.vn];rfl,fun i v p hv hp=>?_,?_,fun p hp=>?_,fun i p hp=>?_,fun p=>?_,fun p hp=>?_,fI _ _ _ h.kn⟩
 .rcases Nat.lt_or_ge i Q.length with h1 | h1
  .rw[lg (by rw[h.vn];exact h1)] at hv;rw[lg h1] at hp;obtain⟨h2,h3⟩:=h.vq i v p hv hp;refine⟨h2,h3.imp_right fun ⟨a',qa,h4,h5,h6,h7⟩=>⟨a',qa,h4,h5,?_,h7⟩⟩;rw[lg (by omega)];exact h6
  .rw[sz (by rw[h.vn];exact h1),h.vn] at hv;rw[sz h1] at hp;have h2:=(Ya.1 hp).1;rw[Yv] at h2;have h3:i-Q.length=0:=by omega
   rw[h3] at hv hp;cases hv;cases hp;exact⟨rfl,.inr ⟨hd,q,rfl,by omega,by rw[lg hl];exact hq,rfl⟩⟩
 .rw[Ym,List.nodup_append];exact⟨h.nd,by simp,fun x hx y hy e=>by simp only[iM,List.map_nil,Ye] at hy;subst hy;subst e;exact bM hx⟩
 .rcases Yk.1 hp with hp | hp
  .exact h.ok p hp
  .rw[Ye] at hp;rw[hp];exact oB
 .rcases Nat.lt_or_ge i Q.length with h1 | h1
  .rw[lg h1] at hp;exact h.pl i p hp
  .rw[sz h1] at hp;have h2:=(Ya.1 hp).1;rw[Yv] at h2;have h3:i-Q.length=0:=by omega
   rw[h3] at hp;cases hp;have:=h.pl hd q hq;simp only[Yh,Yv];omega
 .rw[fu,h.ky,Ym,Yk];simp
 .rcases wZ nx true K p hp with h1 | h1
  .exact h.kt p h1
  .rw[h1]
theorem Bb.look{n:Nat}{Q:List nT}{V:List CY}{K:List (eH × Bool)}(h:Bb n Q V K)(p:eH):(aW K p).elim (Value.bool false) Value.bool=.bool (decide (p∈Q.map Prod.fst)):=by
 cases hm:aW K p with
 | none=>
  rw[decide_eq_false fun hp=>?_];rfl;have:=(df p K).2 ((h.ky p).2 hp);rw[hm] at this;cases this
 | some b=>
  have h1:=(df p K).1 (by rw[hm];rfl);obtain⟨q,hq,rfl⟩:=Yp.1 h1;obtain⟨j,hj⟩:=Yf.1 hq;have h2:=fw h.kn (a:=q.1) (y:=q.2) hj;rw[hm] at h2;cases h2;rw[decide_eq_true ((h.ky _).1 h1),h.kt q hq];rfl
theorem Br{g:Gl}(hV:ah g){p:eH}(hp:p.ok g.n.toNat){x:Ed}(hx:x∈g.es)(role:Int):(eK role p x).1.ok g.n.toNat:=by
 have h1:=hV.num.e x hx;have h2:=hV.OE.n6;unfold fp at h1;obtain⟨h3,h4,h5⟩:=hp;unfold eK;split
 .exact⟨by simp only;omega,or6 h4 (by omega),h5⟩
 .split
  .exact⟨by simp only;omega,h4,or6 h5 (by omega)⟩
  .exact⟨by simp only;omega,h4,h5⟩
def dw(q:FS):It:=nest 65 3 Ac.cs (q.2,q.1.path)
def fC(gb ob mb:Nat)(g:Gl)(qu al:Sl)(V:List CY)(K:List (eH × Bool))(F:List FS)(MS:List (Sl × List Ed)):List It:=
 .sl qu 248 7 (V.map vC) :: .sl al 134 3 (F.map dK) :: .mp mb (K.map fun q=>(q.1.v,Value.bool q.2)) :: .af ob ((MS.map Prod.fst).map fZ) 24 :: .af gb g.cs 27::(MS.map (nest 67 6 Ed.cs)++F.map dw)
end Go.VC
end

section
namespace Go.VC
open Go.Proofs Go.LexS
theorem G7{gb ob mb:Nat}{g:Gl}{qu al:Sl}{V:List CY}{K:List (eH × Bool)}{F:List FS}{MS:List (Sl × List Ed)}(f:FS):(fC gb ob mb g qu al V K (F++[f]) MS).Perm (dw f :: .sl qu 248 7 (V.map vC) :: .sl al 134 3 ((F++[f]).map dK) :: .mp mb (K.map fun q=>(q.1.v,Value.bool q.2)) :: .af ob ((MS.map Prod.fst).map fZ) 24 :: .af gb g.cs 27::(MS.map (nest 67 6 Ed.cs)++F.map dw)):=by
 unfold fC;rw[Ym (f:=dw),<-Yz];refine List.Perm.trans (List.Perm.of_eq ?_) (List.perm_append_comm (l₁:=.sl qu 248 7 (V.map vC) :: .sl al 134 3 ((F++[f]).map dK) :: .mp mb (K.map fun q=>(q.1.v,Value.bool q.2)) :: .af ob ((MS.map Prod.fst).map fZ) 24 :: .af gb g.cs 27::(MS.map (nest 67 6 Ed.cs)++F.map dw)) (l₂:=[dw f]));simp
theorem Mb{h0 IQ xI sx:Heap}{hd:Nat}{g:Gl}{gb ob mb:Nat}{qu al:Sl}{V:List CY}{K:List (eH × Bool)}{F:List FS}{MS:List (Sl × List Ed)}{R:List It}{Q:List nT}{q:nT}{x:Ac}{m:Ms}{n:Nat}{J:Sl->Heap->Prop}
  (hs:St h0 xI (.sl ⟨some ⟨IQ.size,0,none⟩,1,1⟩ 65 3 ([x].map Ac.cs) :: .af sx.size m.cs 72::(R++fC gb ob mb g qu al V K F MS))) (hQ:Bb n Q V K) (hn:n<=200) (hq:Q[hd]?=some q) (hF:F.length<=16777216)
  (hJ:∀(Gq r:Sl) (h':Heap),St h0 h' (R++fC gb ob mb g qu Gq V K (F++[(⟨m,q.2++[x]⟩,r)]) MS)->J Gq h') :
  Tn IQ (hd:Nat) xI qu sx al J:=by
 unfold Tn;have hle:=hQ.le;have Ud:n*4096<=200*4096:=Nat.mul_le_mul_right _ hn;refine⟨fun path y h' μ=>∃(i:Nat) (qi:nT) (Ot:List Ac),y=i/\μ=i/\Q[i]?=some qi/\q.2=qi.2++Ot/\St h0 h' (.sl path 65 3 ((x::Ot.reverse).map Ac.cs) :: .af sx.size m.cs 72::(R++fC gb ob mb g qu al V K F MS)),⟨_,hd,q,[],rfl,rfl,hq,by simp,hs⟩,?_⟩;clear hs;rintro-path _ h150 i ⟨_,qi,Ot,rfl,rfl,XQ,hsf,hs⟩;have mc:=(Ya.1 XQ).1;have rK:=hQ.pl hd q hq;have hdl:=(Ya.1 hq).1;have kM:Ot.length<=q.2.length:=by rw[hsf,Yh];omega
 have uS:=hs.len 0 (s:=path) (e:=65) (n:=3) (rows:=(x::Ot.reverse).map Ac.cs) rfl (by omega);rw[Yc,jC,List.length_reverse] at uS;have dh:∀ {it:It},it∈fC gb ob mb g qu al V K F MS->it∈(.sl path 65 3 ((x::Ot.reverse).map Ac.cs) :: .af sx.size m.cs 72::(R++fC gb ob mb g qu al V K F MS)):=fun h=>Yn _ (Yn _ (List.mem_append_right _ h));have MW:Rw h150 7 qu (V.map vC):=hs.vF (e:=248) (dh (by unfold fC;simp)) (by omega);have lq:=MW.ln;have Gd:=hQ.vn;obtain⟨v,hv⟩:=get_some (l:=V) (i:=i) (by omega);obtain⟨h1,h2⟩:=hQ.vq i v qi hv XQ;refine MW.ax (by omega) (by omega) fun agm adV v' gv t=>?_;replace gv:V[i]?=some v':=gv;rw[hv] at gv;cases gv;refine⟨v.2.1,t.nth 3 rfl,aQ (fun c=>?_) (fun c=>?_)⟩
 .obtain⟨a,qa,h3,h4,h5,h6⟩:∃(a:Nat) (qa:nT),v.2.1=a/\a<i/\Q[a]?=some qa/\qi.2=qa.2++[v.2.2]:=by
   rcases h2 with ⟨h2,_⟩ | h2
   .omega
   .exact h2
  refine MW.ax (by omega) (by omega) fun aiZ aho v' gv t2=>?_;replace gv:V[i]?=some v':=gv;rw[hv] at gv;cases gv;refine⟨v.2.2.a,v.2.2.b,v.2.2.l,t2.sub 4 3 rfl,?_⟩;refine hs.app 0 rfl mG (m:=1) [v.2.2.cs] rfl rfl (fun r hr=>by rw[Ye] at hr;rw[hr];rfl) rfl (by omega) (by simp only[maxLen];omega) fun ahe afk n160 hs=>?_;have aek:Rw afk 7 qu (V.map vC):=hs.vF (e:=248) (Yn _ (Yn _ (List.mem_append_right _ (by unfold fC;simp)))) (by omega);refine aek.ax (by omega) (by omega) fun aiX ahm v' gv t3=>?_;replace gv:V[i]?=some v':=gv;rw[hv] at gv;cases gv;refine⟨v.2.1,t3.nth 3 rfl,a,h4,a,qa,v.2.2::Ot,h3,rfl,h5,by rw[hsf,h6,Yz];rfl,?_⟩;rw[List.reverse_cons,<-List.cons_append,Ym];exact hs
 .have aev:qi.2=[]:=by
   rcases h2 with ⟨_,h2⟩ | ⟨a,_,h3,_⟩
   .exact h2
   .omega
  rw[aev,List.nil_append] at hsf;refine (zj hs 0 rfl (by rw[jC,List.length_reverse];omega)).mono ?_;rintro _ RR ⟨rfl,hs⟩;have er:(x::Ot.reverse).reverse=q.2++[x]:=by rw[List.reverse_cons,List.reverse_reverse,hsf]
  rw[er] at hs;refine⟨rfl,m.p,m.l,hs.at 1 rfl (o:=0) (n:=2) rfl,?_⟩;refine hs.aq fun Zf ajg hs=>?_;have hs:St h0 Zf (.sl al 134 3 (F.map dK) :: .af RR.size (dK ((⟨m,q.2++[x]⟩:rG),path)) 134 :: .sl path 65 3 ((q.2++[x]).map Ac.cs) :: .af sx.size m.cs 72::(R++(.sl qu 248 7 (V.map vC) :: .mp mb (K.map fun q=>(q.1.v,Value.bool q.2)) :: .af ob ((MS.map Prod.fst).map fZ) 24 :: .af gb g.cs 27::(MS.map (nest 67 6 Ed.cs)++F.map dw)))):=by
   refine hs.perm ?_;refine List.Perm.trans (List.Perm.of_eq ?_) (List.Perm.trans (List.perm_middle (l₁:=.af RR.size (dK ((⟨m,q.2++[x]⟩:rG),path)) 134 :: .sl path 65 3 ((q.2++[x]).map Ac.cs) :: .af sx.size m.cs 72::(R++[.sl qu 248 7 (V.map vC)])) (a:=.sl al 134 3 (F.map dK)) (l₂:=.mp mb (K.map fun q=>(q.1.v,Value.bool q.2)) :: .af ob ((MS.map Prod.fst).map fZ) 24 :: .af gb g.cs 27::(MS.map (nest 67 6 Ed.cs)++F.map dw))) (List.Perm.of_eq ?_))
   .simp[fC,dK]
   .simp
  have hal:=hs.len 0 (s:=al) (e:=134) (n:=3) (rows:=F.map dK) rfl (by omega);rw[Yc] at hal;refine hs.appended 0 rfl SY (news:=[dK ((⟨m,q.2++[x]⟩:rG),path)]) (hs.at 1 rfl (o:=0) (n:=3) rfl) rfl (fun r hr=>by rw[Ye] at hr;rw[hr];rfl) rfl (by show (al.n+1)*40<=140737488355328;omega) (by show al.n+1<=9223372036854775807;omega) fun P9 Ze n171 hs=>?_;refine hJ P9 path Ze ?_;have hs:St h0 Ze (.sl P9 134 3 ((F++[((⟨m,q.2++[x]⟩:rG),path)]).map dK)::dw ((⟨m,q.2++[x]⟩:rG),path)::(R++(.sl qu 248 7 (V.map vC) :: .mp mb (K.map fun q=>(q.1.v,Value.bool q.2)) :: .af ob ((MS.map Prod.fst).map fZ) 24 :: .af gb g.cs 27::(MS.map (nest 67 6 Ed.cs)++F.map dw)))):=by
   rw[Ym];exact hs.sub (.cons_cons _ (.cons _ (.cons_cons _ (.cons _ (List.Sublist.refl _)))))
  refine hs.perm ?_;refine List.Perm.symm ((List.Perm.append_left R (G7 _)).trans ?_);refine List.Perm.trans (List.Perm.of_eq ?_) (List.Perm.trans (List.perm_middle (l₁:=R++[dw ((⟨m,q.2++[x]⟩:rG),path),.sl qu 248 7 (V.map vC)]) (a:=.sl P9 134 3 ((F++[((⟨m,q.2++[x]⟩:rG),path)]).map dK)) (l₂:=.mp mb (K.map fun q=>(q.1.v,Value.bool q.2)) :: .af ob ((MS.map Prod.fst).map fZ) 24 :: .af gb g.cs 27::(MS.map (nest 67 6 Ed.cs)++F.map dw))) (List.Perm.cons _ ?_))
  .simp
  .refine List.Perm.trans (List.Perm.of_eq ?_) (List.perm_middle (l₁:=R) (a:=dw ((⟨m,q.2++[x]⟩:rG),path)));simp
structure Be (g:Gl) (F:List rG):Prop where
 nd:(F.map (·.m)).Nodup
 e:∀f∈F,∃x∈g.es,f.m=⟨x.a,x.l⟩
 pl:∀f∈F,f.path.length<=1000000
theorem Be.len{g:Gl}{F:List rG}(h:Be g F):F.length<=g.es.length:=by
 have:=List.Nodup.length_le_of_subset h.nd (l₂:=g.es.map fun x=>(⟨x.a,x.l⟩:Ms)) fun m hm=>by
  obtain⟨f,hf,rfl⟩:=Yp.1 hm;obtain⟨x,hx,e⟩:=h.e f hf;exact Yp.2 ⟨x,hx,e.symm⟩
 rwa [Yc,Yc] at this
theorem Be.note{g:Gl}{F:List rG}(h:Be g F){x:Ed}(hx:x∈g.es){path:List Ac}(hp:path.length<=1000000):Be g (oo F ⟨⟨x.a,x.l⟩,path⟩):=by
 unfold oo;split
 .exact h
 .rename_i bM;refine⟨?_,fun f hf=>?_,fun f hf=>?_⟩
  .rw[Ym,List.nodup_append];refine⟨h.nd,by simp,fun a ha b hb e=>?_⟩;simp only[iM,List.map_nil,Ye] at hb;subst hb;subst e;obtain⟨y,hy,e⟩:=Yp.1 ha;exact bM ⟨y,hy,e⟩
  .rcases Yk.1 hf with hf | hf
   .exact h.e f hf
   .rw[Ye] at hf;subst hf;exact⟨x,hx,rfl⟩
  .rcases Yk.1 hf with hf | hf
   .exact h.pl f hf
   .rw[Ye] at hf;subst hf;exact hp
theorem wv{g:Gl}{role:Int}{p:eH}{path:List Ac}{st:List nT × List rG}{x:Ed}(h:Be g st.2)(hx:x∈g.es)(hp:path.length<1000000):Be g (je role p path st x).2:=by
 unfold je;simp only;split
 .exact h.note hx (by rw[Yh,Yv];omega)
 .exact h
theorem ND{h0 uX vL sy Fo:Heap}{hd:Nat}{g:Gl}{gb ob mb:Nat}{qu al:Sl}{V:List CY}{K:List (eH × Bool)}{F:List FS}{MS:List (Sl × List Ed)}{Q:List nT}{q:nT}{x:Ed}{role:Int}{Xu:Nat}{I:Sl->Sl->Int->Heap->Nat->Prop}{y:Int}
  (hV:ah g) (hr:role=((role.toNat:Nat):Int))
  (hs:St h0 uX (.af Fo.size [.int .i64 x.t,.int .u8 (q.1.b:Nat),.int .u8 (q.1.d:Nat)] 245 :: .af sy.size x.cs 67 :: .af vL.size q.1.cs 245::fC gb ob mb g qu al V K F MS)) (hQ:Bb g.n.toNat Q V K) (hq:Q[hd]?=some q) (hF:Be g (F.map Prod.fst)) (hx:x∈g.es)
  (hI:∀(qu' Gq:Sl) (Q':List nT) (V':List CY) (K':List (eH × Bool)) (F':List FS) (h':Heap),St h0 h' (.af vL.size q.1.cs 245::fC gb ob mb g qu' Gq V' K' F' MS)->Bb g.n.toNat Q' V' K'->(Q',F'.map Prod.fst)=je role q.1 q.2 (Q,F.map Prod.fst) x->(∀(k:Nat) z,Q[k]?=some z->Q'[k]?=some z)->∃m,m<Xu/\I qu' Gq (IntKind.wrap .i64 (y+1)) h' m) :
  Tm uX vL sy Fo al role (hd:Nat) qu (some mb) Xu I y:=by
 unfold Tm;have hN:=hV.num.n;have hM:=hV.num.m;have h6:=hV.OE.n6;have tn:=hV.num.e x hx;unfold fp at tn;have XO:=hQ.ok q (Yb hq);obtain⟨Uc,ho2,ho3⟩:=XO;have EV:=Br hV (hQ.ok q (Yb hq)) hx role;have KU:x.a=((x.a.toNat:Nat):Int):=by omega
 have H4:x.b=((x.b.toNat:Nat):Int):=by omega
 have yP:x.t=((x.t.toNat:Nat):Int):=by omega
 have fV:=hF.len;rw[Yc] at fV;have b1:=Jx ⟨q.1.b,by omega⟩ ⟨x.a.toNat,by omega⟩;have b2:=Jx ⟨q.1.d,by omega⟩ ⟨x.a.toNat,by omega⟩;have b3:=Jx ⟨q.1.b,by omega⟩ ⟨x.b.toNat,by omega⟩;simp only[<-KU,<-H4] at b1 b2 b3;refine⟨fun Gq h'=>∃F':List FS,St h0 h' (.af Fo.size (eK role q.1 x).1.cs 245 :: .af sy.size x.cs 67 :: .af vL.size q.1.cs 245::fC gb ob mb g qu Gq V K F' MS)/\F'.map Prod.fst=(if (eK role q.1 x).2 then oo (F.map Prod.fst) ⟨⟨x.a,x.l⟩,q.2++[x.act]⟩ else F.map Prod.fst),?_,?_⟩
 .refine⟨(q.1.b:Nat),hs.rd 2 rfl (i:=1) rfl,x.a,hs.rd 1 rfl (i:=1) rfl,by omega,?_⟩;rw[b1.1];refine aa (fun c=>?_) (fun c=>?_)
  .refine⟨(q.1.b:Nat),hs.rd 0 rfl (i:=1) rfl,x.b,hs.rd 1 rfl (i:=2) rfl,by omega,?_⟩;rw[b3.2.2];refine hs.put 0 rfl (o:=1) (vs:=[.int .u8 ((q.1.b|||2^x.b.toNat:Nat):Int)]) rfl (show 2<=3 by decide) fun afv hs=>?_;have e:eK role q.1 x=(⟨x.t.toNat,q.1.b|||2^x.b.toNat,q.1.d⟩,false):=by unfold eK;rw[if_pos c]
   rw[e];refine⟨F,?_,rfl⟩;unfold eH.cs;simp only;rw[<-yP];exact hs
  .refine⟨x.b,hs.rd 1 rfl (i:=2) rfl,?_⟩;have e0:∀(e:eH),(⟨x.t.toNat,q.1.b,q.1.d⟩:eH).cs=[.int .i64 x.t,.int .u8 (q.1.b:Nat),.int .u8 (q.1.d:Nat)]:=fun _=>by unfold eH.cs;simp only;rw[<-yP]
   refine eS (fun c2=>?_) (fun c2=>?_)
   .refine⟨(q.1.d:Nat),hs.rd 2 rfl (i:=2) rfl,x.a,hs.rd 1 rfl (i:=1) rfl,by omega,?_⟩;rw[b2.2.1];refine aa (fun c3=>?_) (fun c3=>?_)
    .have SJ:q.1.d.testBit x.a.toNat=false:=bF c3;have e:eK role q.1 x=(⟨x.t.toNat,q.1.b,q.1.d|||2^x.a.toNat⟩,true):=by unfold eK;rw[if_neg (by rw[c];decide),if_pos ⟨c2,SJ⟩]
     refine⟨(q.1.d:Nat),hs.rd 0 rfl (i:=2) rfl,x.a,hs.rd 1 rfl (i:=1) rfl,by omega,?_⟩;rw[b2.2.2];refine hs.put 0 rfl (o:=2) (vs:=[.int .u8 ((q.1.d|||2^x.a.toNat:Nat):Int)]) rfl (show 3<=3 by decide) fun sx hs=>?_;refine⟨x.a,hs.rd 1 rfl (i:=1) rfl,x.l,hs.rd 1 rfl (i:=3) rfl,?_⟩;refine hs.aj (vs:=[.int .i64 x.a,.int .i64 x.l]) rfl rfl fun RS hs=>?_;have hs:St h0 RS (.af sx.size (⟨x.a,x.l⟩:Ms).cs 72 :: .af Fo.size (⟨x.t.toNat,q.1.b,q.1.d|||2^x.a.toNat⟩:eH).cs 245 :: .af sy.size x.cs 67 :: .af vL.size q.1.cs 245::fC gb ob mb g qu al V K F MS):=by
      unfold eH.cs;simp only;rw[<-yP];exact hs
     refine (yc F ⟨x.a,x.l⟩ sx.size al RS (hs.rw 5 rfl (by omega)) (hs.at 0 rfl (o:=0) (n:=2) rfl) (by omega)).mono ?_;rintro _ IQ ⟨⟨r,rfl,kO⟩,E⟩;replace hs:=hs.step E;have Q5:r=true ↔ ∃y∈F.map Prod.fst,y.m=⟨x.a,x.l⟩:=kO.trans ⟨fun ⟨y,h1,h2⟩=>⟨y.1,Yp.2 ⟨y,h1,rfl⟩,h2⟩,fun ⟨y,h1,h2⟩=>by obtain⟨z,h3,rfl⟩:=Yp.1 h1;exact⟨z,h3,h2⟩⟩;rw[e];simp only[if_true];refine⟨r,rfl,aa (fun c4=>?_) (fun c4=>?_)⟩
     .have bM:¬∃y∈F.map Prod.fst,y.m=⟨x.a,x.l⟩:=fun h9=>by rw[Q5.2 h9] at c4;cases c4
      refine⟨x.a,x.b,x.l,hs.at 2 rfl (o:=1) (n:=3) rfl,?_⟩;refine hs.ao fun xI hs=>?_;have hs:=hs.dz 1 3 ([x.act].map Ac.cs) rfl (fun r hr=>by obtain⟨x,_,rfl⟩:=Yp.1 hr;rfl) rfl (by decide);refine Mb (R:=[.af Fo.size (⟨x.t.toNat,q.1.b,q.1.d|||2^x.a.toNat⟩:eH).cs 245,.af sy.size x.cs 67,.af vL.size q.1.cs 245]) (q:=q) (m:=⟨x.a,x.l⟩) hs hQ (by omega) hq (by omega) fun Gq r h' hs=>⟨_,hs,?_⟩;unfold oo;rw[if_neg bM,Ym];rfl
     .refine⟨F,hs.drop 1,?_⟩;unfold oo;rw[if_pos (Q5.1 (bT c4))]
    .have e:eK role q.1 x=(⟨x.t.toNat,q.1.b,q.1.d⟩,false):=by unfold eK;rw[if_neg (by rw[c];decide),if_neg (fun h9=>by rw[h9.2] at c3;cases c3)]
     rw[e];refine⟨F,?_,rfl⟩;rw[e0 q.1];exact hs
   .have e:eK role q.1 x=(⟨x.t.toNat,q.1.b,q.1.d⟩,false):=by unfold eK;rw[if_neg (by rw[c];decide),if_neg (fun h9=>c2 h9.1)]
    rw[e];refine⟨F,?_,rfl⟩;rw[e0 q.1];exact hs
 .clear hs b1 b2 b3;rintro-Gq afj ⟨F',hs,hF'⟩;generalize hnxt:(eK role q.1 x).1=nx at *;obtain⟨KZ,Ud,X3⟩:=EV;have dB:∀Q':List nT,Q'=(if nx∈Q.map Prod.fst then Q else Q++[(nx,q.2++[x.act])])->(Q',F'.map Prod.fst)=je role q.1 q.2 (Q,F.map Prod.fst) x:=fun Q' e=>by
   unfold je;simp only;rw[hnxt,<-e,hF']
  refine⟨(nx.s:Nat),(nx.b:Nat),(nx.d:Nat),hs.at 0 rfl (o:=0) (n:=3) rfl,?_⟩;refine hs.HG (cv:=Value.bool) (l:=K) TC 5 rfl (hQ.iT (by omega)) hQ.kn (a:=nx) ⟨by omega,by omega,by omega⟩ ?_;rw[hQ.look];refine⟨_,rfl,aa (fun c=>?_) (fun c=>?_)⟩
  .have bM:nx∉Q.map Prod.fst:=eI (bF c);refine⟨(nx.s:Nat),(nx.b:Nat),(nx.d:Nat),hs.at 0 rfl (o:=0) (n:=3) rfl,?_⟩;refine hs.Et (cv:=Value.bool) (l:=K) TC 5 rfl (hQ.iT (by omega)) hQ.kn (a:=nx) ⟨by omega,by omega,by omega⟩ true fun aiF hs=>?_;refine⟨(nx.s:Nat),(nx.b:Nat),(nx.d:Nat),hs.at 0 rfl (o:=0) (n:=3) rfl,x.a,x.b,x.l,hs.at 1 rfl (o:=1) (n:=3) rfl,?_⟩;have MV:=hs.len 3 (s:=qu) (e:=248) (n:=7) (rows:=V.map vC) rfl (by omega);rw[Yc] at MV;have hle:=hQ.le;have Gd:=hQ.vn;have ahM:g.n.toNat*4096<=200*4096:=Nat.mul_le_mul_right _ (by omega);refine hs.app 3 rfl SU (m:=1) [vC (nx,((hd:Int),x.act))] rfl rfl (fun r hr=>by rw[Ye] at hr;rw[hr];rfl) rfl (by omega) (by simp only[maxLen];omega) fun adO afi n192 hs=>?_;refine hI adO Gq _ (V++[(nx,((hd:Int),x.act))]) (cL K nx true) F' afi ?_ (hQ.push hq bM ⟨KZ,Ud,X3⟩) (dB _ (by rw[if_neg bM])) fun k z hz=>by rw[lg (Ya.1 hz).1];exact hz
   have hs:=hs.drop 2;unfold fC;rw[Ym (f:=vC)];exact hs
  .have dC:nx∈Q.map Prod.fst:=cd (bT c);exact hI qu Gq Q V K F' _ (hs.drop 2) hQ (dB Q (by rw[if_pos dC])) fun k z hz=>hz
theorem sN{es:List Ed}{role:Int}{f hd:Nat}{Q:List nT}{F:List rG}{q:nT}(hq:Q[hd]?=some q):pq es role (f+1) hd Q F=pq es role f (hd+1) ((gE es q.1.s).foldl (je role q.1 q.2) (Q,F)).1 ((gE es q.1.s).foldl (je role q.1 q.2) (Q,F)).2:=by
 rw[pq,hq]
theorem wu{es:List Ed}{role:Int}{f hd:Nat}{Q:List nT}{F:List rG}(hq:Q[hd]?=none):pq es role f hd Q F=F:=by
 cases f with
 | zero=>rfl
 | succ f=>rw[pq,hq]
theorem xR{es:List Ed}{j:Nat}{x:Ed}(hx:es[j]?=some x)(s:Nat):(es.take (j+1)).filter (fun y=>decide (y.f=(s:Int)))=(es.take j).filter (fun y=>decide (y.f=(s:Int)))++(if x.f=(s:Int) then [x] else []):=by
 rw[ae hx,List.filter_append];congr 1;by_cases h:x.f=(s:Int)
 .rw[if_pos h,List.filter_cons_of_pos (by rw[decide_eq_true h])];rfl
 .rw[if_neg h,List.filter_cons_of_neg (by rw[decide_eq_false h];decide)];rfl
theorem aU{α:Type}{L:List α}{n:Nat}{f:Nat->α}(h:L=(List.range n).map f){s:Nat}(hs:s<n):L[s]?=some (f s):=by
 rw[h,Yd,vk hs];rfl
theorem sM(g:Gl)(i:Nat)(x0:Ed)(h:Heap)(hg:GI h g)(hx:Gm h)(hV:ah g)(hi:g.es[i]?=some x0):
  Fn Pz 68 #[g.v,.int .i64 (i:Nat)] h fun v h'=>Ext h h'/\∃(s:Sl) (F:List FS),v=.tuple ⟨[.slice s.a s.n s.c,.int .i64 0]⟩/\F.map Prod.fst=eL g i/\RL h' 3 s dK F/\(∀q∈F,RL h' 3 q.2 Ac.cs q.1.path)/\Be g (eL g i)/\St h h' (.sl s 134 3 (F.map dK)::F.map dw):=by
 apply acY (bs g.nm) g.hr g.hd g.n g.s g.e g.he g.ht (i:Nat);unfold W68;have hN:=hV.num.n;have hM:=hV.num.m;have h6:=hV.OE.n6;have nI:=hg.e.ln;have mc:=(Ya.1 hi).1;have tn:=hV.num.e x0 (Yb hi);have hE:=hV.num.e;unfold fp at tn;have H4:x0.b=((x0.b.toNat:Nat):Int):=by omega
 have yP:x0.t=((x0.t.toNat:Nat):Int):=by omega
 refine (St.refl h).ao fun h9 hs=>?_;refine⟨_,_,_,_,_,_,_,_,hs.at 0 rfl (n:=8) rfl,?_⟩;refine (pK g h9 (hg.ext hs.ext) (hx.ext hs.ext)).mono ?_;rintro _ az ⟨rfl,E20⟩;replace hs:=hs.step E20;refine⟨_,rfl,?_⟩;rw[decide_eq_true hV];refine im rfl ?_;refine aQ (fun c=>by omega) (fun _=>?_);refine⟨g.he,hs.rd 0 rfl (i:=6) rfl,aQ (fun c=>by omega) (fun _=>?_)⟩;refine⟨g.n,hs.rd 0 rfl (i:=3) rfl,by omega,?_⟩;rw[Qz];refine hs.ao fun nM hs=>?_;have hs:=hs.kh (α:=Ed) (e:=67) (k:=6) (cs:=Ed.cs) (A:=[_,_]) (B:=[]) g.n.toNat;refine⟨g.he,hs.rd 1 rfl (i:=6) rfl,?_⟩;refine⟨fun x h' μ=>∃(j:Nat) (MS:List (Sl × List Ed)),x=(j:Int)/\μ=g.es.length-j/\j<=g.es.length/\MS.map Prod.snd=((List.range g.n.toNat).map fun s:Nat=>(g.es.take j).filter (fun y=>decide (y.f=(s:Int)))) /\
  St h h' ([.af az.size ((MS.map Prod.fst).map fZ) 24,.af h.size g.cs 27]++MS.map (nest 67 6 Ed.cs)++[]),
  ⟨_,0,List.replicate g.n.toNat ((⟨.none,0,0⟩,[]):Sl × List Ed),rfl,rfl,by omega,?_,?_⟩,?_⟩
 .rw[iY,List.map_replicate];apply y4;intro s;rw[List.getElem?_replicate,Yd];by_cases hs:s<g.n.toNat
  .rw[if_pos hs,vk hs];rfl
  .rw[if_neg hs,Yl (by rw[kv];omega)];rfl
 .rw[List.map_replicate (f:=Prod.fst)];exact hs
 clear hs;rintro-_ K8 μ ⟨j,MS,rfl,rfl,hj,hMS,hs⟩;have Y6:MS.length=g.n.toNat:=by have:=congrArg List.length hMS;simpa using this
 refine aQ (fun c1=>?_) (fun c1=>?_)
 .refine (hg.e.rw.ext hs.ext).ax (by omega) (by omega) fun b30 o31 x gx t=>?_;replace gx:g.es[j]?=some x:=gx;have j6:=hE x (Yb gx);unfold fp at j6;obtain⟨q,hq⟩:=get_some (l:=MS) (i:=x.f.toNat) (by omega);refine⟨_,_,_,_,_,_,t,?_⟩;refine hs.aj (vs:=x.cs) rfl rfl fun sw hs=>?_;refine⟨x.f,hs.rd 0 rfl (i:=0) rfl,x.f,hs.rd 0 rfl (i:=0) rfl,⟨by omega,by omega⟩,?_⟩;rw[show 0+Int.toNat x.f*1=x.f.toNat by omega];refine⟨q.1,hs.rd 1 rfl (by rw[Yd,Yd,hq];rfl),?_⟩;refine⟨_,_,_,_,_,_,hs.at 0 rfl (o:=0) (n:=6) rfl,?_⟩;refine hs.aq fun Zd E49 hs=>⟨E49.sm,?_⟩;have hs:St h Zd ((.af sw.size x.cs 67 :: .af K8.size x.cs 67::[.af az.size ((MS.map Prod.fst).map fZ) 24,.af h.size g.cs 27])++MS.map (nest 67 6 Ed.cs)++[]):=hs;have lq:=(hs.kI hq (by omega)).ln;have ij:q.2=(g.es.take j).filter (fun y=>decide (y.f=((x.f.toNat:Nat):Int))):=by
   have h1:=aU hMS (s:=x.f.toNat) (by omega);rw[Yd,hq] at h1;exact eP h1
  have Au:q.2.length<=400:=by rw[ij];refine iX (List.length_filter_le _ _) ?_;rw[Yu];omega
  refine hs.iw hq Z5 x (hs.at 0 rfl (o:=0) (n:=6) rfl) rfl rfl (by omega) (by simp only[maxLen];omega) fun r uU hr eO=>?_;refine⟨bG (hs.same eO 1 1 rfl rfl) eJ,⟨by omega,by omega⟩,?_⟩;refine eO.put 2 rfl (o:=x.f.toNat) (vs:=[fZ r]) rfl (by rw[Yc,Yc,Yv];omega) fun vM hs=>?_;rw[cI fZ (by rw[Yc];omega)] at hs;refine⟨_,by omega,j+1,MS.set x.f.toNat (r,q.2++[x]),by rw[bd (by omega) (by omega)];omega,rfl,by omega,?_,?_⟩
  .apply y4;intro s;rw[Yd,Yd];by_cases ki:s<g.n.toNat
   .rw[vk ki];have h1:=aU hMS ki;rw[Yd] at h1;by_cases e:x.f.toNat=s
    .subst e;rw[Yq (by omega),Option.map_some,Option.map_some,xR gx,if_pos (by omega),ij]
    .rw[Yy e,h1,Option.map_some,xR gx,if_neg (by omega),Yw]
   .rw[Yl (by rw[lh];omega),Yl (by rw[kv];omega)];rfl
  .rw[List.map_set];exact hs.drop 2
 have K5:j=g.es.length:=by omega
 subst K5;rw[vV] at hMS;refine⟨fun x h' μ=>∃(j:Nat) (MS:List (Sl × List Ed)),x=(j:Int)/\μ=g.n.toNat-j/\j<=g.n.toNat/\MS.map Prod.snd=((List.range g.n.toNat).map fun s:Nat=>if s<j then gE g.es s else g.es.filter (fun y=>decide (y.f=(s:Int)))) /\
  St h h' ([.af az.size ((MS.map Prod.fst).map fZ) 24,.af h.size g.cs 27]++MS.map (nest 67 6 Ed.cs)++[]),
  ⟨_,0,MS,rfl,rfl,by omega,by rw[hMS];rfl,hs⟩,?_⟩
 clear hs hMS Y6 hj c1;rintro-_ h58 μ ⟨j,MS,rfl,rfl,hj,hMS,hs⟩;have Y6:MS.length=g.n.toNat:=by have:=congrArg List.length hMS;simpa using this
 refine aQ (fun c1=>?_) (fun c1=>?_)
 .obtain⟨q,hq⟩:=get_some (l:=MS) (i:=j) (by omega);refine⟨⟨by omega,by omega⟩,?_⟩;rw[show 0+Int.toNat ((j:Nat):Int)*1=j by omega];refine⟨q.1,hs.rd 0 rfl (by rw[Yd,Yd,hq];rfl),?_⟩;have Iq:j<(MS.map (nest 67 6 Ed.cs)).length:=by rw[Yc];omega
  have ij:q.2=g.es.filter (fun y=>decide (y.f=((j:Nat):Int))):=by
   have h1:=aU hMS (s:=j) (by omega);rw[Yd,hq,if_neg (by omega)] at h1;exact eP h1
  have Au:q.2.length<=400:=by rw[ij];exact iX (List.length_filter_le _ _) hM
  have gH:=mo (P:=[.af az.size ((MS.map Prod.fst).map fZ) 24,.af h.size g.cs 27]) (R:=[]) Iq;rw[Yd,hq] at gH;refine (LD hs _ gH (by omega)).mono ?_;rintro _ Ph ⟨rfl,l',hp,hw,hs⟩;have oG:l'=gE g.es j:=by unfold gE;rw[<-ij];exact P4 hp hw (by rw[ij];exact rA hV _)
  rw[Bq Iq] at hs;refine⟨rfl,_,by omega,j+1,MS.set j (q.1,l'),by rw[bd (by omega) (by omega)];omega,rfl,by omega,?_,?_⟩
  .apply y4;intro s;rw[Yd,Yd];by_cases ki:s<g.n.toNat
   .rw[vk ki];have h1:=aU hMS ki;rw[Yd] at h1;by_cases e:j=s
    .subst e;rw[Yq (by omega),Option.map_some,Option.map_some,if_pos (by omega),oG]
    .rw[Yy e,h1,Option.map_some];by_cases e2:s<j
     .rw[if_pos e2,if_pos (by omega)]
     .rw[if_neg e2,if_neg (by omega)]
   .rw[Yl (by rw[lh];omega),Yl (by rw[kv];omega)];rfl
  .have e1:(MS.map Prod.fst).set j (q.1,l').1=MS.map Prod.fst:=by
    have h9:(MS.map Prod.fst)[j]?=some q.1:=by rw[Yd,hq];rfl
    obtain⟨a,b⟩:=Ya.1 h9;show (MS.map Prod.fst).set j q.1=_;rw[<-b];exact List.set_getElem_self a
   rw[List.map_set (f:=Prod.fst),e1,List.map_set (f:=nest 67 6 Ed.cs)];exact hs
 have afa:MS.map Prod.snd=(List.range g.n.toNat).map (gE g.es):=by
  rw[hMS];apply List.map_congr_left;intro s hs;rw[List.mem_range] at hs;rw[if_pos (by omega)]
 clear hMS c1 hj;rw[Yw] at hs;refine⟨g.he,hs.rd 1 rfl (i:=6) rfl,?_⟩;refine (hg.e.rw.ext hs.ext).ax (by omega) (by omega) fun b64 o65 x gx t=>?_;replace gx:g.es[i]?=some x:=gx;rw[hi] at gx;cases gx;refine⟨x0.b,t.nth 2 rfl,g.he,hs.rd 1 rfl (i:=6) rfl,?_⟩;refine (hg.e.rw.ext hs.ext).ax (by omega) (by omega) fun b68 o69 x gx t2=>?_;replace gx:g.es[i]?=some x:=gx;rw[hi] at gx;cases gx;refine⟨x0.t,t2.nth 4 rfl,by omega,?_⟩;have e8:=adL ⟨x0.b.toNat,by omega⟩;simp only[<-H4] at e8;rw[e8];have aer:(⟨x0.t.toNat,2^x0.b.toNat,0⟩:eH).ok g.n.toNat:=⟨by simp only;omega,W4 (by omega),(show 0<64 by decide)⟩;have hkk:MI (⟨x0.t.toNat,2^x0.b.toNat,0⟩:eH):=⟨by simp only;omega,adK (by omega),(show 0<256 by decide)⟩;have ahT:(⟨x0.t.toNat,2^x0.b.toNat,0⟩:eH).cs=[.int .i64 x0.t,.int .u8 ((2^x0.b.toNat:Nat):Int),.int .u8 0]:=by unfold eH.cs;simp only;rw[<-yP];rfl
 refine hs.aq fun Ng E71 hs=>⟨E71.sm,?_⟩;refine hs.put 0 rfl (o:=0) (vs:=[.int .i64 x0.t,.int .u8 ((2^x0.b.toNat:Nat):Int),.int .u8 0]) rfl (bu 3) fun Gi hs=>?_;refine hs.B9 246 fun js E75 hs=>⟨some Gi.size,rfl,?_⟩;refine⟨((x0.t.toNat:Nat):Int),((2^x0.b.toNat:Nat):Int),((0:Nat):Int),by rw[<-yP];exact hs.at 1 rfl (o:=0) (n:=3) rfl,?_⟩;refine hs.Et (cv:=Value.bool) (l:=[]) TC 0 rfl (fun q hq=>by cases hq) .nil (a:=⟨x0.t.toNat,2^x0.b.toNat,0⟩) hkk true fun RH hs=>?_;refine⟨((x0.t.toNat:Nat):Int),((2^x0.b.toNat:Nat):Int),((0:Nat):Int),by rw[<-yP];exact hs.at 1 rfl (o:=0) (n:=3) rfl,?_⟩;refine hs.ao fun h83 hs=>?_;generalize vK:(⟨x0.t.toNat,2^x0.b.toNat,0⟩:eH)=p0 at *;have hs:=hs.dz 1 7 ([(p0,((-1:Int),(⟨0,0,0⟩:Ac)))].map vC) (by subst vK;rfl) (fun r hr=>by obtain⟨x,_,rfl⟩:=Yp.1 hr;rfl) rfl (by decide);have hs:=hs.cn 134 3;have hs:St h h83 (fC h.size az.size Gi.size g ⟨some ⟨RH.size,0,none⟩,1,1⟩ ⟨none,0,0⟩ [(p0,((-1:Int),(⟨0,0,0⟩:Ac)))] [(p0,true)] [] MS):=by
  refine (hs.sub (.cons_cons _ (.cons_cons _ (.cons_cons _ (.cons _ (List.Sublist.refl _)))))).perm ?_;unfold fC;rw[List.map_nil (f:=dw),Yw];exact List.Perm.swap _ _ _
 have Y3:Bb g.n.toNat [(p0,[])] [(p0,((-1:Int),(⟨0,0,0⟩:Ac)))] [(p0,true)]:=by
  refine⟨rfl,fun k v q hv hq=>?_,by simp,fun q hq=>?_,fun k q hq=>?_,fun p=>by simp,fun q hq=>?_,by simp⟩
  .have:=(Ya.1 hv).1;rw[Yv] at this;obtain rfl:k=0:=by omega
   cases hv;cases hq;exact⟨rfl,.inl ⟨rfl,rfl⟩⟩
  .rw[Ye] at hq;rw[hq];exact aer
  .have:=(Ya.1 hq).1;rw[Yv] at this;obtain rfl:k=0:=by omega
   cases hq;exact Nat.zero_le _
  .rw[Ye] at hq;rw[hq]
 have hF0:Be g (([]:List FS).map Prod.fst):=⟨.nil,fun f hf=>(by cases hf),fun f hf=>(by cases hf)⟩;have hS0:eL g i=pq g.es x0.b (g.n.toNat*65536+1-0) 0 [(p0,[])] (([]:List FS).map Prod.fst):=by unfold eL;rw[hi];simp only;rw[vK];rfl
 refine⟨fun qu al x h' μ=>∃(hd:Nat) (Q:List nT) (V:List CY) (K:List (eH × Bool)) (F:List FS),x=(hd:Int)/\μ=g.n.toNat*4096-hd/\hd<=Q.length/\St h h' (fC h.size az.size Gi.size g qu al V K F MS)/\Bb g.n.toNat Q V K/\Be g (F.map Prod.fst)/\eL g i=pq g.es x0.b (g.n.toNat*65536+1-hd) hd Q (F.map Prod.fst),⟨_,0,_,_,_,[],rfl,rfl,Nat.zero_le _,hs,Y3,hF0,hS0⟩,?_⟩;clear hs Y3 hF0 hS0;rintro-qu al _ vL μ ⟨hd,Q,V,K,F,rfl,rfl,hhd,hs,hQ,hF,hS⟩;have hle:=hQ.le;have Gd:=hQ.vn;have hn4:g.n.toNat*4096<=200*4096:=Nat.mul_le_mul_right _ (by omega);have MV:=hs.len 0 (s:=qu) (e:=248) (n:=7) (rows:=V.map vC) rfl (by omega);rw[Yc] at MV;refine aQ (fun c=>?_) (fun c=>?_)
 .obtain⟨q,hq⟩:=get_some (l:=Q) (i:=hd) (by omega);obtain⟨v,hv⟩:=get_some (l:=V) (i:=hd) (by omega);have hvq:=(hQ.vq hd v q hv hq).1;obtain⟨Uc,ho2,ho3⟩:=hQ.ok q (Yb hq);refine (hs.rows 0 rfl (by omega)).ax (by omega) (by omega) fun b91 o92 v' gv t=>?_;replace gv:V[hd]?=some v':=gv;rw[hv] at gv;cases gv;refine⟨(v.1.s:Nat),(v.1.b:Nat),(v.1.d:Nat),t.DP 3 rfl,?_⟩;rw[hvq];refine hs.aj (vs:=q.1.cs) rfl rfl fun h97 hs=>?_;refine⟨(q.1.s:Nat),hs.rd 0 rfl (i:=0) rfl,⟨by omega,by omega⟩,?_⟩;rw[show 0+Int.toNat ((q.1.s:Nat):Int)*1=q.1.s by omega];obtain⟨ms,EY⟩:=get_some (l:=MS) (i:=q.1.s) (by omega);have Rc:ms.2=gE g.es q.1.s:=by
   have h1:=aU afa (s:=q.1.s) Uc;rw[Yd,EY] at h1;exact eP h1
  have ahN:ms.2.length<=400:=by rw[Rc];unfold gE;rw[we];exact iX (List.length_filter_le _ _) hM
  have ahF:=(Ya.1 hq).1;have ael:=hQ.pl hd q hq;refine⟨ms.1,hs.rd 4 rfl (by rw[Yd,Yd,EY];rfl),?_⟩;have dh:∀ {qu al V K F},.sl ms.1 67 6 (ms.2.map Ed.cs)∈(.af vL.size q.1.cs 245::fC h.size az.size Gi.size g qu al V K F MS:List It):=fun {qu al V K F}=>by
   refine Yn _ ?_;unfold fC;simp only[Yr,Yk]
   right;right;right;right;right;left
   exact Yp.2 ⟨ms,Yb EY,rfl⟩
  have OY:=hs.vF (dh) (by omega);have l8:ms.1.n=ms.2.length:=by have:=OY.1;rwa [Yc] at this
  refine⟨fun qu al x h' μ=>∃(j:Nat) (Q':List nT) (V:List CY) (K:List (eH × Bool)) (F':List FS),x=(j:Int)/\μ=ms.1.n-j/\j<=ms.1.n/\St h h' (.af vL.size q.1.cs 245::fC h.size az.size Gi.size g qu al V K F' MS)/\Bb g.n.toNat Q' V K/\Be g (F'.map Prod.fst)/\Q'[hd]?=some q/\(Q',F'.map Prod.fst)=((gE g.es q.1.s).take j).foldl (je x0.b q.1 q.2) (Q,F.map Prod.fst),⟨_,0,Q,V,K,F,rfl,rfl,Nat.zero_le _,hs,hQ,hF,hq,rfl⟩,?_⟩;have Y3:=hQ;clear hs hQ hF MV Gd hle hv OY;rintro-qu al _ sy μ ⟨j,Q',V,K,F',rfl,rfl,hj,hs,hQ,hF,gX,hfold⟩;have bL:Rw sy 6 ms.1 (ms.2.map Ed.cs):=hs.vF dh (by omega);refine aQ (fun c2=>?_) (fun c2=>?_)
  .refine bL.ax (by omega) (by omega) fun ajd ahs x gx t3=>?_;replace gx:ms.2[j]?=some x:=gx;rw[Rc] at gx;have EK:x∈g.es:=by
    have h1:=(lB _ _).1 (Yb gx);exact (List.mem_filter.1 h1).1
   refine⟨x.f,x.a,x.b,x.l,x.t,x.ag,t3,?_⟩;refine hs.aj (vs:=x.cs) rfl rfl fun Fo hs=>?_;refine⟨x.t,hs.rd 0 rfl (i:=4) rfl,(q.1.b:Nat),hs.rd 1 rfl (i:=1) rfl,(q.1.d:Nat),hs.rd 1 rfl (i:=2) rfl,?_⟩;refine hs.aj (vs:=[.int .i64 x.t,.int .u8 (q.1.b:Nat),.int .u8 (q.1.d:Nat)]) rfl rfl fun uX hs=>?_;refine ND hV H4 hs hQ gX hF EK fun qu' Gq Q2 V2 K2 F2 h' bQ Y2 he hk=>?_;refine⟨_,?_,j+1,Q2,V2,K2,F2,by rw[bd (by omega) (by omega)];omega,rfl,by omega,bQ,Y2,?_,hk hd q gX,?_⟩
   .omega
   .have ahO:=Y3.le;have:=wv (role:=x0.b) (p:=q.1) (path:=q.2) (st:=(Q',F'.map Prod.fst)) hF EK (by omega);rw[<-he] at this;exact this
   .rw[ae gx,List.foldl_append,<-hfold,he];rfl
  .rw[Yj (by rw[<-Rc];omega)] at hfold;have hle:=Y3.le;have hqd:=(Ya.1 gX).1;refine⟨_,?_,hd+1,Q',V,K,F',by rw[bd (by omega) (by omega)];omega,rfl,by omega,hs.drop 1,hQ,hF,?_⟩
   .omega
   .rw[hS,show g.n.toNat*65536+1-hd=(g.n.toNat*65536+1-(hd+1))+1 by omega,sN hq,<-hfold]
 .have YK:eL g i=F.map Prod.fst:=by rw[hS,wu (Yl (by omega))]
  have fV:=hF.len;rw[Yc] at fV;refine⟨hs.ext,al,F,rfl,YK.symm,RL.zF hs 1 rfl (by omega) (by omega),fun f hf=>?_,by rw[YK];exact hF,hs.sub (.cons _ (.cons_cons _ (.cons _ (.cons _ (.cons _ (List.sublist_append_right _ _))))))⟩;have hm:dw f∈fC h.size az.size Gi.size g qu al V K F MS:=by
   unfold fC;simp only[Yr,Yk]
   right;right;right;right;right;right
   exact Yp.2 ⟨f,hf,rfl⟩
  obtain⟨k,hk⟩:=Yf.1 hm;exact RL.zF hs k hk (by omega) (by have:=hF.pl f.1 (Yp.2 ⟨f,hf,rfl⟩);omega)
def lY(x:Ms):List Ms->List Ms
 | []=>[x]
 | y::r=>if dd y x then y::lY x r else x::y::r
def sK(l:List Ms):List Ms:=l.foldr lY []
theorem uG{x y z:Ms}(h1:dd x y)(h2:dd y z):dd x z:=by unfold dd at *;omega
theorem HF(x:Ms):¬dd x x:=by unfold dd;omega
theorem w3{x y:Ms}(h:x≠y)(h1:¬dd y x):dd x y:=by
 obtain⟨a,b⟩:=x;obtain⟨a',b'⟩:=y;unfold dd at *;simp only[ne_eq,Ms.mk.injEq] at h;simp only at *;omega
theorem nB(x z:Ms):∀l:List Ms,z∈lY x l ↔ z=x\/z∈l
 | []=>by simp[lY]
 | y::r=>by
  unfold lY;split
  .rw[Yr,nB x z r,Yr];constructor
   .rintro (h | h | h)
    .exact .inr (.inl h)
    .exact .inl h
    .exact .inr (.inr h)
   .rintro (h | h | h)
    .exact .inr (.inl h)
    .exact .inl h
    .exact .inr (.inr h)
  .simp
theorem lX{x:Ms}:∀ {l:List Ms},l.Pairwise dd->(∀y∈l,y≠x)->(lY x l).Pairwise dd
 | [],_,_=>by simp[lY]
 | y::r,hl,hx=>by
  obtain⟨h1,h2⟩:=List.pairwise_cons.1 hl;unfold lY;by_cases h:dd y x
  .rw[if_pos h,List.pairwise_cons];refine⟨fun z hz=>?_,lX h2 fun z hz=>hx z (Yn _ hz)⟩;rcases (nB x z r).1 hz with rfl | hz
   .exact h
   .exact h1 z hz
  .rw[if_neg h,List.pairwise_cons];have h3:dd x y:=w3 (fun e=>hx y (by simp) e.symm) h;refine⟨fun z hz=>?_,hl⟩;rcases Yr.1 hz with rfl | hz
   .exact h3
   .exact uG h3 (h1 z hz)
theorem mV(l:List Ms)(z:Ms):z∈sK l ↔ z∈l:=by
 induction l with
 | nil=>simp[sK]
 | cons a l ih=>
  show z∈lY a (sK l) ↔ _;rw[nB,ih,Yr]
theorem lA:∀ {l:List Ms},l.Nodup->(sK l).Pairwise dd
 | [],_=>.nil
 | a::l,h=>by
  obtain⟨h1,h2⟩:=List.nodup_cons.1 h;exact lX (lA h2) fun y hy e=>h1 (by rw[<-e];exact (mV l y).1 hy)
theorem wc{l l':List Ms}(hp:l'.Perm l)(hw:l'.Pairwise fun a b=>¬dd b a)(hd:l.Nodup):l'=sK l:=by
 refine fY (R:=dd) HF (fun a b c=>uG) _ _ ?_ (lA hd) fun x=>by rw[mV];exact hp.mem_iff
 exact (hw.and (hp.nodup_iff.2 hd)).imp fun ⟨h1,h2⟩=>w3 h2 h1
def ey(g:Gl)(i:Nat):List Ms:=sK ((eL g i).map (·.m))
def iu(g:Gl)(i:Nat)(m:Ms):List Ac:=((eL g i).find? fun f=>decide (f.m=m)).elim [] (·.path)
theorem Jh(g:Gl)(i:Nat)(x0:Ed)(h:Heap)(hg:GI h g)(hx:Gm h)(hV:ah g)(hi:g.es[i]?=some x0):
  Fn Pz 31 #[g.v,.int .i64 (i:Nat)] h fun v h'=>Ext h h'/\∃s:Sl,v=.tuple ⟨[.slice s.a s.n s.c,.int .i64 0]⟩/\St h h' [.sl s 72 2 ((ey g i).map Ms.cs)]/\(ey g i).length<=400:=by
 apply adA (bs g.nm) g.hr g.hd g.n g.s g.e g.he g.ht (i:Nat);unfold W31;have hM:=hV.num.m;refine (St.refl h).ao fun h9 hs=>?_;refine⟨_,_,_,_,_,_,_,_,hs.at 0 rfl (n:=8) rfl,?_⟩;refine (sM g i x0 h9 (hg.ext hs.ext) (hx.ext hs.ext) hV hi).mono ?_;rintro _ ko ⟨E,s,F,rfl,hF,hr,_,hI,_⟩;have E21:=(hs.step E).ext;have hFl:=hI.len;have afb:F.length=(eL g i).length:=by rw[<-hF,Yc]
 have ki:=hr.ln;refine⟨s,0,rfl,?_⟩;have hs:=(St.refl ko).cn 72 2;refine⟨fun out x h' μ=>∃j:Nat,x=j/\μ=s.n-j/\j<=s.n/\St ko h' [.sl out 72 2 (((F.take j).map (·.1.m)).map Ms.cs)],⟨_,0,rfl,rfl,Nat.zero_le _,hs⟩,?_⟩;clear hs;rintro-out _ rM μ ⟨j,rfl,rfl,hj,hs⟩;have MZ:=hs.len 0 (s:=out) (e:=72) (n:=2) rfl (by omega);rw[Yc,Yc,Yu] at MZ;refine aQ (fun c=>?_) (fun c=>?_)
 .refine (hr.ext hs.ext).rw.ax (by omega) (by omega) fun ZZ Xk f gf t=>?_;replace gf:F[j]?=some f:=gf;refine⟨f.1.m.p,f.1.m.l,f.2,t,?_⟩;refine hs.aj (vs:=dK f) rfl rfl fun kP hs=>?_;refine⟨f.1.m.p,f.1.m.l,hs.at 0 rfl (o:=0) (n:=2) rfl,?_⟩;refine hs.app 1 rfl S2 (m:=1) [f.1.m.cs] rfl rfl (fun r hr=>by rw[Ye] at hr;rw[hr];rfl) rfl (by omega) (by simp only[maxLen];omega) fun s38 sw n38 hs=>?_;refine⟨_,by omega,j+1,by rw[bd (by omega) (by omega)];omega,rfl,by omega,?_⟩;rw[ae gf,Ym,Ym];exact hs.drop 1
 .rw[Yj (by omega)] at hs;have EY:F.map (·.1.m)=(eL g i).map (·.m):=by rw[<-hF,List.map_map];rfl
  rw[EY] at hs;have hlm:((eL g i).map (·.m)).length<=400:=by rw[Yc];omega
  refine (LG hs 0 rfl (by omega)).mono ?_;rintro _ vO ⟨rfl,l',hp,hw,hs⟩;have oG:l'=ey g i:=wc hp hw hI.nd;refine⟨rfl,E21.trans hs.ext,out,rfl,?_⟩;rw[<-oG];exact⟨((St.refl h).step E21).join hs,by rw[hp.length_eq];exact hlm⟩
theorem Bw(g:Gl)(i:Nat)(x0:Ed)(m:Ms)(h:Heap)(hg:GI h g)(hx:Gm h)(hV:ah g)(hi:g.es[i]?=some x0)(hm:m∈ey g i):
  Fn Pz 32 #[g.v,.int .i64 (i:Nat),.agg ⟨m.cs⟩] h fun v h'=>Ext h h'/\∃s:Sl,v=.tuple ⟨[.slice s.a s.n s.c,.int .i64 0]⟩/\St h h' [.sl s 65 3 ((iu g i m).map Ac.cs)]/\(iu g i m).length<=1000000:=by
 apply adz (bs g.nm) g.hr g.hd g.n g.s g.e g.he g.ht (i:Nat) m.p m.l;unfold W32;have hM:=hV.num.m;refine (St.refl h).ao fun jP hs=>?_;refine hs.ao fun CD hs=>?_;refine⟨_,_,_,_,_,_,_,_,hs.at 1 rfl (n:=8) rfl,?_⟩;refine (sM g i x0 CD (hg.ext hs.ext) (hx.ext hs.ext) hV hi).mono ?_;rintro _ Fm ⟨E,s,F,rfl,hF,hr,hp,hI,QX⟩;have mN:=hs;replace hs:=hs.step E;have hFl:=hI.len;have afb:F.length=(eL g i).length:=by rw[<-hF,Yc]
 have ki:=hr.ln;refine⟨s,0,rfl,dY (fun c=>absurd rfl c) (fun _=>?_)⟩;refine (xh 72 Sy F m jP.size s Fm hr.rw (hs.at 0 rfl (o:=0) (n:=2) rfl) (by omega) fun q h hc=>LQ q m jP.size h hc).mono ?_;rintro _ rM ⟨rfl,E2⟩;refine⟨_,rfl,?_⟩;have dC:∃f∈F,f.1.m=m:=by
  have h1:=(mV _ _).1 hm;rw[<-hF] at h1;obtain⟨f,h2,h3⟩:=Yp.1 h1;obtain⟨q,h4,rfl⟩:=Yp.1 h2;exact⟨q,h4,h3⟩
 unfold uO;cases hf:F.findIdx? fun q=>decide (q.1.m=m) with
 | none=>
  rw[List.findIdx?_eq_none_iff] at hf;obtain⟨f,h1,h2⟩:=dC;have:=hf f h1;rw[decide_eq_true h2] at this;cases this
 | some k=>
  obtain⟨h1,h2,_⟩:=List.findIdx?_eq_some_iff_getElem.1 hf;simp only;refine aQ (fun c=>by omega) (fun _=>?_);refine (hr.ext E2).rw.ax (by omega) (by omega) fun ZZ Xk f gf t=>?_;replace gf:F[k]?=some f:=gf;have hfm:f.1.m=m:=by
   rw[Yi h1] at gf;rw[<-eP gf];exact cd h2
  have hfF:=Yb gf;have hpe:iu g i m=f.1.path:=by
   have dh:f.1∈eL g i:=by rw[<-hF];exact Yp.2 ⟨f,hfF,rfl⟩
   unfold iu;cases hq:(eL g i).find? fun f=>decide (f.m=m) with
   | none=>have:=List.find?_eq_none.1 hq f.1 dh;rw[decide_eq_true hfm] at this;exact absurd rfl this
   | some f'=>
    have h3:=List.mem_of_find?_eq_some hq;have h4:f'.m=m:=by have:=List.find?_some hq;exact cd this
    show f'.path=f.1.path;obtain⟨a,ha⟩:=Yf.1 h3;obtain⟨b,hb⟩:=Yf.1 dh;have h5:((eL g i).map (·.m))[a]?=some m:=by rw[Yd,ha,<-h4];rfl
    have h6:((eL g i).map (·.m))[b]?=some m:=by rw[Yd,hb,<-hfm];rfl
    have h7:=fH hI.nd h5 h6;subst h7;rw[ha] at hb;cases hb;rfl
  refine⟨f.2,t.nth 2 rfl,(hs.ext.trans E2),f.2,rfl,?_⟩;rw[hpe];refine⟨(mN.sub (List.nil_sublist _)).join ((QX.step E2).sub (List.singleton_sublist.2 (Yn _ (Yp.2 ⟨f,hfF,rfl⟩)))),hI.pl f.1 (by rw[<-hF];exact Yp.2 ⟨f,hfF,rfl⟩)⟩
noncomputable abbrev eu(a:Heap)(g:Gl):It:=.af a.size (ak Pz 102 (Int.toNat g.n)) 102
noncomputable abbrev et(a:Heap)(g:Gl):It:=.af a.size (ak Pz 192 (Int.toNat g.n)) 192
noncomputable abbrev ep(a:Heap)(g:Gl):It:=.af a.size (ak Pz 4 (Int.toNat g.n)) 4
noncomputable abbrev eo(a:Heap)(g:Gl):It:=.af a.size (ak Pz 4 (Int.toNat g.n)) 4
noncomputable abbrev ej(a:Heap)(g:Gl):It:=.af a.size (ak Pz 274 (Int.toNat g.n)) 274
def aP(g:Gl)(role:Int)(h:Heap)(R:Value->Heap->Prop):Prop:=∀hF a b c d e:Heap,St h hF [eu a g,et b g,ep c g,eo d g,ej e g,.af h.size g.cs 27]->A7 hF (bs g.nm) g.hr g.hd g.n g.s g.e g.he g.ht role a g.n b g.n c g.n d g.n e g.n h R
theorem uA{g:Gl}{role:Int}{h tB az bA fO oK:Heap}{R:Value->Heap->Prop}(hT:aP g role h R)(hn:1<=g.n/\g.n<=200)(hs:St h tB [eu az g,et bA g,ep fO g,eo oK g,.af h.size g.cs 27]):FW g.n tB h (bs g.nm) g.hr g.hd g.n g.s g.e g.he g.ht role az g.n bA g.n fO g.n oK g.n R:=by
 unfold FW;refine⟨⟨by omega,by omega,by omega⟩,hs.aq fun sw E hs=>⟨E.sm,?_⟩⟩;have hs:=hs.perm (List.perm_middle (l₁:=[_,_,_,_])).symm;exact hT _ _ _ _ _ _ hs
theorem zJ{g:Gl}{role:Int}{h oK az bA fO:Heap}{R:Value->Heap->Prop}(hT:aP g role h R)(hn:1<=g.n/\g.n<=200)(hs:St h oK [eu az g,et bA g,ep fO g,.af h.size g.cs 27]):JV g.n oK h g.n (bs g.nm) g.hr g.hd g.n g.s g.e g.he g.ht role az g.n bA g.n fO g.n R:=by
 unfold JV;refine⟨⟨by omega,by omega,by omega⟩,hs.aq fun tB E hs=>⟨E.sm,?_⟩⟩;have hs:=hs.perm (List.perm_middle (l₁:=[_,_,_])).symm;exact uA hT hn hs
theorem uC{g:Gl}{role:Int}{h IL az bA fO oK:Heap}{R:Value->Heap->Prop}(hT:aP g role h R)(hn:1<=g.n/\g.n<=200)(hs:St h IL [eu az g,et bA g,ep fO g,ej oK g,.af h.size g.cs 27]):FY g.n IL h (bs g.nm) g.hr g.hd g.n g.s g.e g.he g.ht role az g.n bA g.n fO g.n oK g.n R:=by
 unfold FY;refine⟨⟨by omega,by omega,by omega⟩,hs.aq fun afj E hs=>⟨E.sm,?_⟩⟩;have hs:=hs.perm (List.perm_middle (l₁:=[_,_,_])).symm;exact hT _ _ _ _ _ _ hs
theorem zN{g:Gl}{role:Int}{h oK az bA fO:Heap}{R:Value->Heap->Prop}(hT:aP g role h R)(hn:1<=g.n/\g.n<=200)(hs:St h oK [eu az g,et bA g,ep fO g,.af h.size g.cs 27]):JZ g.n oK h g.n (bs g.nm) g.hr g.hd g.n g.s g.e g.he g.ht role az g.n bA g.n fO g.n R:=by
 unfold JZ;refine⟨⟨by omega,by omega,by omega⟩,hs.aq fun IL E hs=>⟨E.sm,?_⟩⟩;have hs:=hs.perm (List.perm_middle (l₁:=[_,_,_])).symm;exact uC hT hn hs
theorem wU{g:Gl}{role:Int}{h fO az bA:Heap}{R:Value->Heap->Prop}(hT:aP g role h R)(hn:1<=g.n/\g.n<=200)(hs:St h fO [eu az g,et bA g,.af h.size g.cs 27]):vm g.n fO h g.n g.n (bs g.nm) g.hr g.hd g.n g.s g.e g.he g.ht role az g.n bA g.n R:=by
 unfold vm;refine⟨⟨by omega,by omega,by omega⟩,hs.aq fun oK E hs=>⟨E.sm,?_⟩⟩;have hs:=hs.perm (List.perm_middle (l₁:=[_,_])).symm;exact⟨zJ hT hn hs,zN hT hn hs⟩
theorem zM{g:Gl}{role:Int}{h uV az bA fO:Heap}{R:Value->Heap->Prop}(hT:aP g role h R)(hn:1<=g.n/\g.n<=200)(hs:St h uV [eu az g,et bA g,eo fO g,.af h.size g.cs 27]):JY g.n uV h g.n (bs g.nm) g.hr g.hd g.n g.s g.e g.he g.ht role az g.n bA g.n fO g.n R:=by
 unfold JY;refine⟨⟨by omega,by omega,by omega⟩,hs.aq fun ait E hs=>⟨E.sm,?_⟩⟩;have hs:=hs.perm (List.perm_middle (l₁:=[_,_])).symm;exact uA hT hn hs
theorem uB{g:Gl}{role:Int}{h RJ az bA fO uV:Heap}{R:Value->Heap->Prop}(hT:aP g role h R)(hn:1<=g.n/\g.n<=200)(hs:St h RJ [eu az g,et bA g,eo fO g,ej uV g,.af h.size g.cs 27]):FX g.n RJ h (bs g.nm) g.hr g.hd g.n g.s g.e g.he g.ht role az g.n bA g.n fO g.n uV g.n R:=by
 unfold FX;refine⟨⟨by omega,by omega,by omega⟩,hs.aq fun aip E hs=>⟨E.sm,?_⟩⟩;have hs:=hs.perm (List.perm_middle (l₁:=[_,_])).symm;exact hT _ _ _ _ _ _ hs
theorem zR{g:Gl}{role:Int}{h uV az bA fO:Heap}{R:Value->Heap->Prop}(hT:aP g role h R)(hn:1<=g.n/\g.n<=200)(hs:St h uV [eu az g,et bA g,eo fO g,.af h.size g.cs 27]):J5 g.n uV h g.n (bs g.nm) g.hr g.hd g.n g.s g.e g.he g.ht role az g.n bA g.n fO g.n R:=by
 unfold J5;refine⟨⟨by omega,by omega,by omega⟩,hs.aq fun RJ E hs=>⟨E.sm,?_⟩⟩;have hs:=hs.perm (List.perm_middle (l₁:=[_,_,_])).symm;exact uB hT hn hs
theorem wV{g:Gl}{role:Int}{h fO az bA:Heap}{R:Value->Heap->Prop}(hT:aP g role h R)(hn:1<=g.n/\g.n<=200)(hs:St h fO [eu az g,et bA g,.af h.size g.cs 27]):vo g.n fO h g.n g.n (bs g.nm) g.hr g.hd g.n g.s g.e g.he g.ht role az g.n bA g.n R:=by
 unfold vo;refine⟨⟨by omega,by omega,by omega⟩,hs.aq fun uV E hs=>⟨E.sm,?_⟩⟩;have hs:=hs.perm (List.perm_middle (l₁:=[_,_])).symm;exact⟨zM hT hn hs,zR hT hn hs⟩
theorem zL{g:Gl}{role:Int}{h Fk az bA fO:Heap}{R:Value->Heap->Prop}(hT:aP g role h R)(hn:1<=g.n/\g.n<=200)(hs:St h Fk [eu az g,et bA g,ej fO g,.af h.size g.cs 27]):JX g.n Fk h g.n (bs g.nm) g.hr g.hd g.n g.s g.e g.he g.ht role az g.n bA g.n fO g.n R:=by
 unfold JX;refine⟨⟨by omega,by omega,by omega⟩,hs.aq fun ail E hs=>⟨E.sm,?_⟩⟩;have hs:=hs.perm (List.perm_middle (l₁:=[_,_])).symm;exact uC hT hn hs
theorem zK{g:Gl}{role:Int}{h Fk az bA fO:Heap}{R:Value->Heap->Prop}(hT:aP g role h R)(hn:1<=g.n/\g.n<=200)(hs:St h Fk [eu az g,et bA g,ej fO g,.af h.size g.cs 27]):JW g.n Fk h g.n (bs g.nm) g.hr g.hd g.n g.s g.e g.he g.ht role az g.n bA g.n fO g.n R:=by
 unfold JW;refine⟨⟨by omega,by omega,by omega⟩,hs.aq fun aid E hs=>⟨E.sm,?_⟩⟩;have hs:=hs.perm (List.perm_middle (l₁:=[_,_])).symm;exact uB hT hn hs
theorem BC{g:Gl}{role:Int}{h fO az bA:Heap}{R:Value->Heap->Prop}(hT:aP g role h R)(hn:1<=g.n/\g.n<=200)(hs:St h fO [eu az g,et bA g,.af h.size g.cs 27]):C4 g.n fO h g.n g.n (bs g.nm) g.hr g.hd g.n g.s g.e g.he g.ht role az g.n bA g.n R:=by
 unfold C4;refine⟨⟨by omega,by omega,by omega⟩,hs.aq fun Fk E hs=>⟨E.sm,?_⟩⟩;have hs:=hs.perm (List.perm_middle (l₁:=[_,_])).symm;exact⟨zL hT hn hs,zK hT hn hs⟩
theorem BE{g:Gl}{role:Int}{h fk az bA:Heap}{R:Value->Heap->Prop}(hT:aP g role h R)(hn:1<=g.n/\g.n<=200)(hs:St h fk [eu az g,ep bA g,.af h.size g.cs 27]):C6 g.n fk h g.n g.n (bs g.nm) g.hr g.hd g.n g.s g.e g.he g.ht role az g.n bA g.n R:=by
 unfold C6;refine⟨⟨by omega,by omega,by omega⟩,hs.aq fun aia E hs=>⟨E.sm,?_⟩⟩;have hs:=hs.perm (List.perm_middle (l₁:=[_])).symm;exact⟨zJ hT hn hs,zN hT hn hs⟩
theorem z8{g:Gl}{role:Int}{h mn az bA fk:Heap}{R:Value->Heap->Prop}(hT:aP g role h R)(hn:1<=g.n/\g.n<=200)(hs:St h mn [eu az g,ep bA g,eo fk g,.af h.size g.cs 27]):Kh g.n mn h g.n (bs g.nm) g.hr g.hd g.n g.s g.e g.he g.ht role az g.n bA g.n fk g.n R:=by
 unfold Kh;refine⟨⟨by omega,by omega,by omega⟩,hs.aq fun ahd E hs=>⟨E.sm,?_⟩⟩;have hs:=hs.perm (List.perm_middle (l₁:=[_])).symm;exact uA hT hn hs
theorem uE{g:Gl}{role:Int}{h IT az bA fk mn:Heap}{R:Value->Heap->Prop}(hT:aP g role h R)(hn:1<=g.n/\g.n<=200)(hs:St h IT [eu az g,ep bA g,eo fk g,ej mn g,.af h.size g.cs 27]):F3 g.n IT h (bs g.nm) g.hr g.hd g.n g.s g.e g.he g.ht role az g.n bA g.n fk g.n mn g.n R:=by
 unfold F3;refine⟨⟨by omega,by omega,by omega⟩,hs.aq fun ahc E hs=>⟨E.sm,?_⟩⟩;have hs:=hs.perm (List.perm_middle (l₁:=[_])).symm;exact hT _ _ _ _ _ _ hs
theorem z7{g:Gl}{role:Int}{h mn az bA fk:Heap}{R:Value->Heap->Prop}(hT:aP g role h R)(hn:1<=g.n/\g.n<=200)(hs:St h mn [eu az g,ep bA g,eo fk g,.af h.size g.cs 27]):Kg g.n mn h g.n (bs g.nm) g.hr g.hd g.n g.s g.e g.he g.ht role az g.n bA g.n fk g.n R:=by
 unfold Kg;refine⟨⟨by omega,by omega,by omega⟩,hs.aq fun IT E hs=>⟨E.sm,?_⟩⟩;have hs:=hs.perm (List.perm_middle (l₁:=[_,_,_])).symm;exact uE hT hn hs
theorem BD{g:Gl}{role:Int}{h fk az bA:Heap}{R:Value->Heap->Prop}(hT:aP g role h R)(hn:1<=g.n/\g.n<=200)(hs:St h fk [eu az g,ep bA g,.af h.size g.cs 27]):C5 g.n fk h g.n g.n (bs g.nm) g.hr g.hd g.n g.s g.e g.he g.ht role az g.n bA g.n R:=by
 unfold C5;refine⟨⟨by omega,by omega,by omega⟩,hs.aq fun mn E hs=>⟨E.sm,?_⟩⟩;have hs:=hs.perm (List.perm_middle (l₁:=[_,_])).symm;exact⟨z8 hT hn hs,z7 hT hn hs⟩
theorem z6{g:Gl}{role:Int}{h tE az bA fk:Heap}{R:Value->Heap->Prop}(hT:aP g role h R)(hn:1<=g.n/\g.n<=200)(hs:St h tE [eu az g,ep bA g,ej fk g,.af h.size g.cs 27]):Kf g.n tE h g.n (bs g.nm) g.hr g.hd g.n g.s g.e g.he g.ht role az g.n bA g.n fk g.n R:=by
 unfold Kf;refine⟨⟨by omega,by omega,by omega⟩,hs.aq fun ahb E hs=>⟨E.sm,?_⟩⟩;have hs:=hs.perm (List.perm_middle (l₁:=[_])).symm;exact uC hT hn hs
theorem zS{g:Gl}{role:Int}{h tE az bA fk:Heap}{R:Value->Heap->Prop}(hT:aP g role h R)(hn:1<=g.n/\g.n<=200)(hs:St h tE [eu az g,ep bA g,ej fk g,.af h.size g.cs 27]):J6 g.n tE h g.n (bs g.nm) g.hr g.hd g.n g.s g.e g.he g.ht role az g.n bA g.n fk g.n R:=by
 unfold J6;refine⟨⟨by omega,by omega,by omega⟩,hs.aq fun aha E hs=>⟨E.sm,?_⟩⟩;have hs:=hs.perm (List.perm_middle (l₁:=[_,_])).symm;exact uE hT hn hs
theorem BW{g:Gl}{role:Int}{h fk az bA:Heap}{R:Value->Heap->Prop}(hT:aP g role h R)(hn:1<=g.n/\g.n<=200)(hs:St h fk [eu az g,ep bA g,.af h.size g.cs 27]):Dp g.n fk h g.n g.n (bs g.nm) g.hr g.hd g.n g.s g.e g.he g.ht role az g.n bA g.n R:=by
 unfold Dp;refine⟨⟨by omega,by omega,by omega⟩,hs.aq fun tE E hs=>⟨E.sm,?_⟩⟩;have hs:=hs.perm (List.perm_middle (l₁:=[_,_])).symm;exact⟨z6 hT hn hs,zS hT hn hs⟩
theorem B3{g:Gl}{role:Int}{h fP az bA:Heap}{R:Value->Heap->Prop}(hT:aP g role h R)(hn:1<=g.n/\g.n<=200)(hs:St h fP [eu az g,eo bA g,.af h.size g.cs 27]):Ds g.n fP h g.n g.n (bs g.nm) g.hr g.hd g.n g.s g.e g.he g.ht role az g.n bA g.n R:=by
 unfold Ds;refine⟨⟨by omega,by omega,by omega⟩,hs.aq fun agZ E hs=>⟨E.sm,?_⟩⟩;have hs:=hs.perm (List.perm_middle (l₁:=[_])).symm;exact⟨zM hT hn hs,zR hT hn hs⟩
theorem BI{g:Gl}{role:Int}{h fP az bA:Heap}{R:Value->Heap->Prop}(hT:aP g role h R)(hn:1<=g.n/\g.n<=200)(hs:St h fP [eu az g,eo bA g,.af h.size g.cs 27]):C9 g.n fP h g.n g.n (bs g.nm) g.hr g.hd g.n g.s g.e g.he g.ht role az g.n bA g.n R:=by
 unfold C9;refine⟨⟨by omega,by omega,by omega⟩,hs.aq fun agY E hs=>⟨E.sm,?_⟩⟩;have hs:=hs.perm (List.perm_middle (l₁:=[_])).symm;exact⟨z8 hT hn hs,z7 hT hn hs⟩
theorem zZ{g:Gl}{role:Int}{h tC az bA fP:Heap}{R:Value->Heap->Prop}(hT:aP g role h R)(hn:1<=g.n/\g.n<=200)(hs:St h tC [eu az g,eo bA g,ej fP g,.af h.size g.cs 27]):Ke g.n tC h g.n (bs g.nm) g.hr g.hd g.n g.s g.e g.he g.ht role az g.n bA g.n fP g.n R:=by
 unfold Ke;refine⟨⟨by omega,by omega,by omega⟩,hs.aq fun agX E hs=>⟨E.sm,?_⟩⟩;have hs:=hs.perm (List.perm_middle (l₁:=[_])).symm;exact uB hT hn hs
theorem zQ{g:Gl}{role:Int}{h tC az bA fP:Heap}{R:Value->Heap->Prop}(hT:aP g role h R)(hn:1<=g.n/\g.n<=200)(hs:St h tC [eu az g,eo bA g,ej fP g,.af h.size g.cs 27]):J4 g.n tC h g.n (bs g.nm) g.hr g.hd g.n g.s g.e g.he g.ht role az g.n bA g.n fP g.n R:=by
 unfold J4;refine⟨⟨by omega,by omega,by omega⟩,hs.aq fun agW E hs=>⟨E.sm,?_⟩⟩;have hs:=hs.perm (List.perm_middle (l₁:=[_])).symm;exact uE hT hn hs
theorem BZ{g:Gl}{role:Int}{h fP az bA:Heap}{R:Value->Heap->Prop}(hT:aP g role h R)(hn:1<=g.n/\g.n<=200)(hs:St h fP [eu az g,eo bA g,.af h.size g.cs 27]):Dr g.n fP h g.n g.n (bs g.nm) g.hr g.hd g.n g.s g.e g.he g.ht role az g.n bA g.n R:=by
 unfold Dr;refine⟨⟨by omega,by omega,by omega⟩,hs.aq fun tC E hs=>⟨E.sm,?_⟩⟩;have hs:=hs.perm (List.perm_middle (l₁:=[_,_])).symm;exact⟨zZ hT hn hs,zQ hT hn hs⟩
theorem BX{g:Gl}{role:Int}{h mm az bA:Heap}{R:Value->Heap->Prop}(hT:aP g role h R)(hn:1<=g.n/\g.n<=200)(hs:St h mm [eu az g,ej bA g,.af h.size g.cs 27]):Dq g.n mm h g.n g.n (bs g.nm) g.hr g.hd g.n g.s g.e g.he g.ht role az g.n bA g.n R:=by
 unfold Dq;refine⟨⟨by omega,by omega,by omega⟩,hs.aq fun agV E hs=>⟨E.sm,?_⟩⟩;have hs:=hs.perm (List.perm_middle (l₁:=[_])).symm;exact⟨zL hT hn hs,zK hT hn hs⟩
theorem BH{g:Gl}{role:Int}{h mm az bA:Heap}{R:Value->Heap->Prop}(hT:aP g role h R)(hn:1<=g.n/\g.n<=200)(hs:St h mm [eu az g,ej bA g,.af h.size g.cs 27]):C8 g.n mm h g.n g.n (bs g.nm) g.hr g.hd g.n g.s g.e g.he g.ht role az g.n bA g.n R:=by
 unfold C8;refine⟨⟨by omega,by omega,by omega⟩,hs.aq fun agU E hs=>⟨E.sm,?_⟩⟩;have hs:=hs.perm (List.perm_middle (l₁:=[_])).symm;exact⟨z6 hT hn hs,zS hT hn hs⟩
theorem BG{g:Gl}{role:Int}{h mm az bA:Heap}{R:Value->Heap->Prop}(hT:aP g role h R)(hn:1<=g.n/\g.n<=200)(hs:St h mm [eu az g,ej bA g,.af h.size g.cs 27]):C7 g.n mm h g.n g.n (bs g.nm) g.hr g.hd g.n g.s g.e g.he g.ht role az g.n bA g.n R:=by
 unfold C7;refine⟨⟨by omega,by omega,by omega⟩,hs.aq fun agT E hs=>⟨E.sm,?_⟩⟩;have hs:=hs.perm (List.perm_middle (l₁:=[_])).symm;exact⟨zZ hT hn hs,zQ hT hn hs⟩
theorem BU{g:Gl}{role:Int}{h cT az a6:Heap}{R:Value->Heap->Prop}(hT:aP g role h R)(hn:1<=g.n/\g.n<=200)(hs:St h cT [et az g,ep a6 g,.af h.size g.cs 27]):Dl g.n cT h g.n g.n (bs g.nm) g.hr g.hd g.n g.s g.e g.he g.ht role az g.n a6 g.n R:=by
 unfold Dl;refine⟨⟨by omega,by omega,by omega⟩,hs.aq fun agR E hs=>⟨E.sm,?_⟩⟩;exact⟨zJ hT hn hs,zN hT hn hs⟩
theorem zY{g:Gl}{role:Int}{h ml az a6 cT:Heap}{R:Value->Heap->Prop}(hT:aP g role h R)(hn:1<=g.n/\g.n<=200)(hs:St h ml [et az g,ep a6 g,eo cT g,.af h.size g.cs 27]):Kc g.n ml h g.n (bs g.nm) g.hr g.hd g.n g.s g.e g.he g.ht role az g.n a6 g.n cT g.n R:=by
 unfold Kc;refine⟨⟨by omega,by omega,by omega⟩,hs.aq fun agQ E hs=>⟨E.sm,?_⟩⟩;exact uA hT hn hs
theorem uD{g:Gl}{role:Int}{h IJ az a6 cT ml:Heap}{R:Value->Heap->Prop}(hT:aP g role h R)(hn:1<=g.n/\g.n<=200)(hs:St h IJ [et az g,ep a6 g,eo cT g,ej ml g,.af h.size g.cs 27]):FZ g.n IJ h (bs g.nm) g.hr g.hd g.n g.s g.e g.he g.ht role az g.n a6 g.n cT g.n ml g.n R:=by
 unfold FZ;refine⟨⟨by omega,by omega,by omega⟩,hs.aq fun agP E hs=>⟨E.sm,?_⟩⟩;exact hT _ _ _ _ _ _ hs
theorem zX{g:Gl}{role:Int}{h ml az a6 cT:Heap}{R:Value->Heap->Prop}(hT:aP g role h R)(hn:1<=g.n/\g.n<=200)(hs:St h ml [et az g,ep a6 g,eo cT g,.af h.size g.cs 27]):Kb g.n ml h g.n (bs g.nm) g.hr g.hd g.n g.s g.e g.he g.ht role az g.n a6 g.n cT g.n R:=by
 unfold Kb;refine⟨⟨by omega,by omega,by omega⟩,hs.aq fun IJ E hs=>⟨E.sm,?_⟩⟩;have hs:=hs.perm (List.perm_middle (l₁:=[_,_,_])).symm;exact uD hT hn hs
theorem BB{g:Gl}{role:Int}{h cT az a6:Heap}{R:Value->Heap->Prop}(hT:aP g role h R)(hn:1<=g.n/\g.n<=200)(hs:St h cT [et az g,ep a6 g,.af h.size g.cs 27]):C3 g.n cT h g.n g.n (bs g.nm) g.hr g.hd g.n g.s g.e g.he g.ht role az g.n a6 g.n R:=by
 unfold C3;refine⟨⟨by omega,by omega,by omega⟩,hs.aq fun ml E hs=>⟨E.sm,?_⟩⟩;have hs:=hs.perm (List.perm_middle (l₁:=[_,_])).symm;exact⟨zY hT hn hs,zX hT hn hs⟩
theorem zW{g:Gl}{role:Int}{h tA az a6 cT:Heap}{R:Value->Heap->Prop}(hT:aP g role h R)(hn:1<=g.n/\g.n<=200)(hs:St h tA [et az g,ep a6 g,ej cT g,.af h.size g.cs 27]):Ka g.n tA h g.n (bs g.nm) g.hr g.hd g.n g.s g.e g.he g.ht role az g.n a6 g.n cT g.n R:=by
 unfold Ka;refine⟨⟨by omega,by omega,by omega⟩,hs.aq fun agO E hs=>⟨E.sm,?_⟩⟩;exact uC hT hn hs
theorem zP{g:Gl}{role:Int}{h tA az a6 cT:Heap}{R:Value->Heap->Prop}(hT:aP g role h R)(hn:1<=g.n/\g.n<=200)(hs:St h tA [et az g,ep a6 g,ej cT g,.af h.size g.cs 27]):J3 g.n tA h g.n (bs g.nm) g.hr g.hd g.n g.s g.e g.he g.ht role az g.n a6 g.n cT g.n R:=by
 unfold J3;refine⟨⟨by omega,by omega,by omega⟩,hs.aq fun agN E hs=>⟨E.sm,?_⟩⟩;have hs:=hs.perm (List.perm_middle (l₁:=[_,_])).symm;exact uD hT hn hs
theorem BT{g:Gl}{role:Int}{h cT az a6:Heap}{R:Value->Heap->Prop}(hT:aP g role h R)(hn:1<=g.n/\g.n<=200)(hs:St h cT [et az g,ep a6 g,.af h.size g.cs 27]):Dk g.n cT h g.n g.n (bs g.nm) g.hr g.hd g.n g.s g.e g.he g.ht role az g.n a6 g.n R:=by
 unfold Dk;refine⟨⟨by omega,by omega,by omega⟩,hs.aq fun tA E hs=>⟨E.sm,?_⟩⟩;have hs:=hs.perm (List.perm_middle (l₁:=[_,_])).symm;exact⟨zW hT hn hs,zP hT hn hs⟩
theorem BR{g:Gl}{role:Int}{h fN az a6:Heap}{R:Value->Heap->Prop}(hT:aP g role h R)(hn:1<=g.n/\g.n<=200)(hs:St h fN [et az g,eo a6 g,.af h.size g.cs 27]):Dj g.n fN h g.n g.n (bs g.nm) g.hr g.hd g.n g.s g.e g.he g.ht role az g.n a6 g.n R:=by
 unfold Dj;refine⟨⟨by omega,by omega,by omega⟩,hs.aq fun agM E hs=>⟨E.sm,?_⟩⟩;exact⟨zM hT hn hs,zR hT hn hs⟩
theorem BA{g:Gl}{role:Int}{h fN az a6:Heap}{R:Value->Heap->Prop}(hT:aP g role h R)(hn:1<=g.n/\g.n<=200)(hs:St h fN [et az g,eo a6 g,.af h.size g.cs 27]):CZ g.n fN h g.n g.n (bs g.nm) g.hr g.hd g.n g.s g.e g.he g.ht role az g.n a6 g.n R:=by
 unfold CZ;refine⟨⟨by omega,by omega,by omega⟩,hs.aq fun agL E hs=>⟨E.sm,?_⟩⟩;have hs:=hs.perm (List.perm_middle (l₁:=[_])).symm;exact⟨zY hT hn hs,zX hT hn hs⟩
theorem zV{g:Gl}{role:Int}{h tx az a6 fN:Heap}{R:Value->Heap->Prop}(hT:aP g role h R)(hn:1<=g.n/\g.n<=200)(hs:St h tx [et az g,eo a6 g,ej fN g,.af h.size g.cs 27]):J9 g.n tx h g.n (bs g.nm) g.hr g.hd g.n g.s g.e g.he g.ht role az g.n a6 g.n fN g.n R:=by
 unfold J9;refine⟨⟨by omega,by omega,by omega⟩,hs.aq fun agK E hs=>⟨E.sm,?_⟩⟩;exact uB hT hn hs
theorem zO{g:Gl}{role:Int}{h tx az a6 fN:Heap}{R:Value->Heap->Prop}(hT:aP g role h R)(hn:1<=g.n/\g.n<=200)(hs:St h tx [et az g,eo a6 g,ej fN g,.af h.size g.cs 27]):J2 g.n tx h g.n (bs g.nm) g.hr g.hd g.n g.s g.e g.he g.ht role az g.n a6 g.n fN g.n R:=by
 unfold J2;refine⟨⟨by omega,by omega,by omega⟩,hs.aq fun agJ E hs=>⟨E.sm,?_⟩⟩;have hs:=hs.perm (List.perm_middle (l₁:=[_])).symm;exact uD hT hn hs
theorem BQ{g:Gl}{role:Int}{h fN az a6:Heap}{R:Value->Heap->Prop}(hT:aP g role h R)(hn:1<=g.n/\g.n<=200)(hs:St h fN [et az g,eo a6 g,.af h.size g.cs 27]):Di g.n fN h g.n g.n (bs g.nm) g.hr g.hd g.n g.s g.e g.he g.ht role az g.n a6 g.n R:=by
 unfold Di;refine⟨⟨by omega,by omega,by omega⟩,hs.aq fun tx E hs=>⟨E.sm,?_⟩⟩;have hs:=hs.perm (List.perm_middle (l₁:=[_,_])).symm;exact⟨zV hT hn hs,zO hT hn hs⟩
theorem BP{g:Gl}{role:Int}{h mj az a6:Heap}{R:Value->Heap->Prop}(hT:aP g role h R)(hn:1<=g.n/\g.n<=200)(hs:St h mj [et az g,ej a6 g,.af h.size g.cs 27]):Dh g.n mj h g.n g.n (bs g.nm) g.hr g.hd g.n g.s g.e g.he g.ht role az g.n a6 g.n R:=by
 unfold Dh;refine⟨⟨by omega,by omega,by omega⟩,hs.aq fun agI E hs=>⟨E.sm,?_⟩⟩;exact⟨zL hT hn hs,zK hT hn hs⟩
theorem wY{g:Gl}{role:Int}{h mj az a6:Heap}{R:Value->Heap->Prop}(hT:aP g role h R)(hn:1<=g.n/\g.n<=200)(hs:St h mj [et az g,ej a6 g,.af h.size g.cs 27]):vt g.n mj h g.n g.n (bs g.nm) g.hr g.hd g.n g.s g.e g.he g.ht role az g.n a6 g.n R:=by
 unfold vt;refine⟨⟨by omega,by omega,by omega⟩,hs.aq fun agH E hs=>⟨E.sm,?_⟩⟩;have hs:=hs.perm (List.perm_middle (l₁:=[_])).symm;exact⟨zW hT hn hs,zP hT hn hs⟩
theorem wX{g:Gl}{role:Int}{h mj az a6:Heap}{R:Value->Heap->Prop}(hT:aP g role h R)(hn:1<=g.n/\g.n<=200)(hs:St h mj [et az g,ej a6 g,.af h.size g.cs 27]):vr g.n mj h g.n g.n (bs g.nm) g.hr g.hd g.n g.s g.e g.he g.ht role az g.n a6 g.n R:=by
 unfold vr;refine⟨⟨by omega,by omega,by omega⟩,hs.aq fun agG E hs=>⟨E.sm,?_⟩⟩;have hs:=hs.perm (List.perm_middle (l₁:=[_])).symm;exact⟨zV hT hn hs,zO hT hn hs⟩
theorem BO{g:Gl}{role:Int}{h fM az cS:Heap}{R:Value->Heap->Prop}(hT:aP g role h R)(hn:1<=g.n/\g.n<=200)(hs:St h fM [ep az g,eo cS g,.af h.size g.cs 27]):Dg g.n fM h g.n g.n (bs g.nm) g.hr g.hd g.n g.s g.e g.he g.ht role az g.n cS g.n R:=by
 unfold Dg;refine⟨⟨by omega,by omega,by omega⟩,hs.aq fun agD E hs=>⟨E.sm,?_⟩⟩;exact⟨z8 hT hn hs,z7 hT hn hs⟩
theorem BN{g:Gl}{role:Int}{h fM az cS:Heap}{R:Value->Heap->Prop}(hT:aP g role h R)(hn:1<=g.n/\g.n<=200)(hs:St h fM [ep az g,eo cS g,.af h.size g.cs 27]):De g.n fM h g.n g.n (bs g.nm) g.hr g.hd g.n g.s g.e g.he g.ht role az g.n cS g.n R:=by
 unfold De;refine⟨⟨by omega,by omega,by omega⟩,hs.aq fun agC E hs=>⟨E.sm,?_⟩⟩;exact⟨zY hT hn hs,zX hT hn hs⟩
theorem zU{g:Gl}{role:Int}{h tv az cS fM:Heap}{R:Value->Heap->Prop}(hT:aP g role h R)(hn:1<=g.n/\g.n<=200)(hs:St h tv [ep az g,eo cS g,ej fM g,.af h.size g.cs 27]):J8 g.n tv h g.n (bs g.nm) g.hr g.hd g.n g.s g.e g.he g.ht role az g.n cS g.n fM g.n R:=by
 unfold J8;refine⟨⟨by omega,by omega,by omega⟩,hs.aq fun agB E hs=>⟨E.sm,?_⟩⟩;exact uE hT hn hs
theorem zT{g:Gl}{role:Int}{h tv az cS fM:Heap}{R:Value->Heap->Prop}(hT:aP g role h R)(hn:1<=g.n/\g.n<=200)(hs:St h tv [ep az g,eo cS g,ej fM g,.af h.size g.cs 27]):J7 g.n tv h g.n (bs g.nm) g.hr g.hd g.n g.s g.e g.he g.ht role az g.n cS g.n fM g.n R:=by
 unfold J7;refine⟨⟨by omega,by omega,by omega⟩,hs.aq fun agA E hs=>⟨E.sm,?_⟩⟩;exact uD hT hn hs
theorem BM{g:Gl}{role:Int}{h fM az cS:Heap}{R:Value->Heap->Prop}(hT:aP g role h R)(hn:1<=g.n/\g.n<=200)(hs:St h fM [ep az g,eo cS g,.af h.size g.cs 27]):Dd g.n fM h g.n g.n (bs g.nm) g.hr g.hd g.n g.s g.e g.he g.ht role az g.n cS g.n R:=by
 unfold Dd;refine⟨⟨by omega,by omega,by omega⟩,hs.aq fun tv E hs=>⟨E.sm,?_⟩⟩;have hs:=hs.perm (List.perm_middle (l₁:=[_,_])).symm;exact⟨zU hT hn hs,zT hT hn hs⟩
theorem BK{g:Gl}{role:Int}{h mi az cS:Heap}{R:Value->Heap->Prop}(hT:aP g role h R)(hn:1<=g.n/\g.n<=200)(hs:St h mi [ep az g,ej cS g,.af h.size g.cs 27]):Db g.n mi h g.n g.n (bs g.nm) g.hr g.hd g.n g.s g.e g.he g.ht role az g.n cS g.n R:=by
 unfold Db;refine⟨⟨by omega,by omega,by omega⟩,hs.aq fun agz E hs=>⟨E.sm,?_⟩⟩;exact⟨z6 hT hn hs,zS hT hn hs⟩
theorem BJ{g:Gl}{role:Int}{h mi az cS:Heap}{R:Value->Heap->Prop}(hT:aP g role h R)(hn:1<=g.n/\g.n<=200)(hs:St h mi [ep az g,ej cS g,.af h.size g.cs 27]):Da g.n mi h g.n g.n (bs g.nm) g.hr g.hd g.n g.s g.e g.he g.ht role az g.n cS g.n R:=by
 unfold Da;refine⟨⟨by omega,by omega,by omega⟩,hs.aq fun agy E hs=>⟨E.sm,?_⟩⟩;exact⟨zW hT hn hs,zP hT hn hs⟩
theorem wW{g:Gl}{role:Int}{h mi az cS:Heap}{R:Value->Heap->Prop}(hT:aP g role h R)(hn:1<=g.n/\g.n<=200)(hs:St h mi [ep az g,ej cS g,.af h.size g.cs 27]):vp g.n mi h g.n g.n (bs g.nm) g.hr g.hd g.n g.s g.e g.he g.ht role az g.n cS g.n R:=by
 unfold vp;refine⟨⟨by omega,by omega,by omega⟩,hs.aq fun agx E hs=>⟨E.sm,?_⟩⟩;have hs:=hs.perm (List.perm_middle (l₁:=[_])).symm;exact⟨zU hT hn hs,zT hT hn hs⟩
theorem B5{g:Gl}{role:Int}{h iC az mh:Heap}{R:Value->Heap->Prop}(hT:aP g role h R)(hn:1<=g.n/\g.n<=200)(hs:St h iC [eo az g,ej mh g,.af h.size g.cs 27]):Du g.n iC h g.n g.n (bs g.nm) g.hr g.hd g.n g.s g.e g.he g.ht role az g.n mh g.n R:=by
 unfold Du;refine⟨⟨by omega,by omega,by omega⟩,hs.aq fun afz E hs=>⟨E.sm,?_⟩⟩;exact⟨zZ hT hn hs,zQ hT hn hs⟩
theorem B4{g:Gl}{role:Int}{h iC az mh:Heap}{R:Value->Heap->Prop}(hT:aP g role h R)(hn:1<=g.n/\g.n<=200)(hs:St h iC [eo az g,ej mh g,.af h.size g.cs 27]):Dt g.n iC h g.n g.n (bs g.nm) g.hr g.hd g.n g.s g.e g.he g.ht role az g.n mh g.n R:=by
 unfold Dt;refine⟨⟨by omega,by omega,by omega⟩,hs.aq fun afx E hs=>⟨E.sm,?_⟩⟩;exact⟨zV hT hn hs,zO hT hn hs⟩
theorem BV{g:Gl}{role:Int}{h iC az mh:Heap}{R:Value->Heap->Prop}(hT:aP g role h R)(hn:1<=g.n/\g.n<=200)(hs:St h iC [eo az g,ej mh g,.af h.size g.cs 27]):Dm g.n iC h g.n g.n (bs g.nm) g.hr g.hd g.n g.s g.e g.he g.ht role az g.n mh g.n R:=by
 unfold Dm;refine⟨⟨by omega,by omega,by omega⟩,hs.aq fun afu E hs=>⟨E.sm,?_⟩⟩;exact⟨zU hT hn hs,zT hT hn hs⟩
theorem Mo{g:Gl}{role:Int}{h az:Heap}{R:Value->Heap->Prop}(hT:aP g role h R)(hn:1<=g.n/\g.n<=200)(hs:St h az [.af h.size g.cs 27]):Km g.n az h g.n g.n g.n g.n (bs g.nm) g.hr g.hd g.n g.s g.e g.he g.ht role R:=by
 unfold Km;refine⟨⟨by omega,by omega,by omega⟩,hs.aq fun bA E hs=>⟨E.sm,?_,?_,?_,?_⟩⟩
 .refine⟨⟨by omega,by omega,by omega⟩,hs.aq fun fO E hs=>⟨E.sm,?_⟩⟩;have hs:=hs.perm (List.perm_middle (l₁:=[_])).symm;exact⟨wU hT hn hs,wV hT hn hs,BC hT hn hs⟩
 .refine⟨⟨by omega,by omega,by omega⟩,hs.aq fun fk E hs=>⟨E.sm,?_⟩⟩;have hs:=hs.perm (List.perm_middle (l₁:=[_])).symm;exact⟨BE hT hn hs,BD hT hn hs,BW hT hn hs⟩
 .refine⟨⟨by omega,by omega,by omega⟩,hs.aq fun fP E hs=>⟨E.sm,?_⟩⟩;have hs:=hs.perm (List.perm_middle (l₁:=[_])).symm;exact⟨B3 hT hn hs,BI hT hn hs,BZ hT hn hs⟩
 .refine⟨⟨by omega,by omega,by omega⟩,hs.aq fun mm E hs=>⟨E.sm,?_⟩⟩;have hs:=hs.perm (List.perm_middle (l₁:=[_])).symm;exact⟨BX hT hn hs,BH hT hn hs,BG hT hn hs⟩
theorem Mn{g:Gl}{role:Int}{h az:Heap}{R:Value->Heap->Prop}(hT:aP g role h R)(hn:1<=g.n/\g.n<=200)(hs:St h az [.af h.size g.cs 27]):Kl g.n az h g.n g.n g.n g.n (bs g.nm) g.hr g.hd g.n g.s g.e g.he g.ht role R:=by
 unfold Kl;refine⟨⟨by omega,by omega,by omega⟩,hs.aq fun a6 E hs=>⟨E.sm,?_,?_,?_,?_⟩⟩
 .refine⟨⟨by omega,by omega,by omega⟩,hs.aq fun agS E hs=>⟨E.sm,?_⟩⟩;exact⟨wU hT hn hs,wV hT hn hs,BC hT hn hs⟩
 .refine⟨⟨by omega,by omega,by omega⟩,hs.aq fun cT E hs=>⟨E.sm,?_⟩⟩;have hs:=hs.perm (List.perm_middle (l₁:=[_])).symm;exact⟨BU hT hn hs,BB hT hn hs,BT hT hn hs⟩
 .refine⟨⟨by omega,by omega,by omega⟩,hs.aq fun fN E hs=>⟨E.sm,?_⟩⟩;have hs:=hs.perm (List.perm_middle (l₁:=[_])).symm;exact⟨BR hT hn hs,BA hT hn hs,BQ hT hn hs⟩
 .refine⟨⟨by omega,by omega,by omega⟩,hs.aq fun mj E hs=>⟨E.sm,?_⟩⟩;have hs:=hs.perm (List.perm_middle (l₁:=[_])).symm;exact⟨BP hT hn hs,wY hT hn hs,wX hT hn hs⟩
theorem Mm{g:Gl}{role:Int}{h az:Heap}{R:Value->Heap->Prop}(hT:aP g role h R)(hn:1<=g.n/\g.n<=200)(hs:St h az [.af h.size g.cs 27]):Kk g.n az h g.n g.n g.n g.n (bs g.nm) g.hr g.hd g.n g.s g.e g.he g.ht role R:=by
 unfold Kk;refine⟨⟨by omega,by omega,by omega⟩,hs.aq fun cS E hs=>⟨E.sm,?_,?_,?_,?_⟩⟩
 .refine⟨⟨by omega,by omega,by omega⟩,hs.aq fun agF E hs=>⟨E.sm,?_⟩⟩;exact⟨BE hT hn hs,BD hT hn hs,BW hT hn hs⟩
 .refine⟨⟨by omega,by omega,by omega⟩,hs.aq fun agE E hs=>⟨E.sm,?_⟩⟩;exact⟨BU hT hn hs,BB hT hn hs,BT hT hn hs⟩
 .refine⟨⟨by omega,by omega,by omega⟩,hs.aq fun fM E hs=>⟨E.sm,?_⟩⟩;have hs:=hs.perm (List.perm_middle (l₁:=[_])).symm;exact⟨BO hT hn hs,BN hT hn hs,BM hT hn hs⟩
 .refine⟨⟨by omega,by omega,by omega⟩,hs.aq fun mi E hs=>⟨E.sm,?_⟩⟩;have hs:=hs.perm (List.perm_middle (l₁:=[_])).symm;exact⟨BK hT hn hs,BJ hT hn hs,wW hT hn hs⟩
theorem Ml{g:Gl}{role:Int}{h az:Heap}{R:Value->Heap->Prop}(hT:aP g role h R)(hn:1<=g.n/\g.n<=200)(hs:St h az [.af h.size g.cs 27]):Kj g.n az h g.n g.n g.n g.n (bs g.nm) g.hr g.hd g.n g.s g.e g.he g.ht role R:=by
 unfold Kj;refine⟨⟨by omega,by omega,by omega⟩,hs.aq fun mh E hs=>⟨E.sm,?_,?_,?_,?_⟩⟩
 .refine⟨⟨by omega,by omega,by omega⟩,hs.aq fun agw E hs=>⟨E.sm,?_⟩⟩;exact⟨B3 hT hn hs,BI hT hn hs,BZ hT hn hs⟩
 .refine⟨⟨by omega,by omega,by omega⟩,hs.aq fun afE E hs=>⟨E.sm,?_⟩⟩;exact⟨BR hT hn hs,BA hT hn hs,BQ hT hn hs⟩
 .refine⟨⟨by omega,by omega,by omega⟩,hs.aq fun afC E hs=>⟨E.sm,?_⟩⟩;exact⟨BO hT hn hs,BN hT hn hs,BM hT hn hs⟩
 .refine⟨⟨by omega,by omega,by omega⟩,hs.aq fun iC E hs=>⟨E.sm,?_⟩⟩;have hs:=hs.perm (List.perm_middle (l₁:=[_])).symm;exact⟨B5 hT hn hs,B4 hT hn hs,BV hT hn hs⟩
theorem Mj{g:Gl}{role:Int}{h az:Heap}{R:Value->Heap->Prop}(hT:aP g role h R)(hn:1<=g.n/\g.n<=200)(hs:St h az [.af h.size g.cs 27]):Ki g.n az h g.n g.n g.n g.n (bs g.nm) g.hr g.hd g.n g.s g.e g.he g.ht role R:=by
 unfold Ki;refine⟨⟨by omega,by omega,by omega⟩,hs.aq fun afs E hs=>⟨E.sm,?_,?_,?_,?_⟩⟩
 .refine⟨⟨by omega,by omega,by omega⟩,hs.aq fun afr E hs=>⟨E.sm,?_⟩⟩;exact⟨BX hT hn hs,BH hT hn hs,BG hT hn hs⟩
 .refine⟨⟨by omega,by omega,by omega⟩,hs.aq fun afp E hs=>⟨E.sm,?_⟩⟩;exact⟨BP hT hn hs,wY hT hn hs,wX hT hn hs⟩
 .refine⟨⟨by omega,by omega,by omega⟩,hs.aq fun afm E hs=>⟨E.sm,?_⟩⟩;exact⟨BK hT hn hs,BJ hT hn hs,wW hT hn hs⟩
 .refine⟨⟨by omega,by omega,by omega⟩,hs.aq fun afl E hs=>⟨E.sm,?_⟩⟩;exact⟨B5 hT hn hs,B4 hT hn hs,BV hT hn hs⟩
end Go.VC
end
