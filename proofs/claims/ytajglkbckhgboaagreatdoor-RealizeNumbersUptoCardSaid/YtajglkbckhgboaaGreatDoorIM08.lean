/- SxM5 SxM6 SxM7 SxM8 SxM9 SxM10 SxM11 SxM12 SxM13 SxM14 SxM15 SxM16 SxKa SxKb SxKc SxKd SxKe. -/
import Derived.Test.YtajglkbckhgboaaGreatDoorIM07
set_option linter.all false
set_option maxRecDepth 100000
set_option maxHeartbeats 8000000

section
namespace Go.VC
open Go.Proofs Go.LexS
theorem ym{h:Heap}{b:Nat}{w:Wt}(ha:a8 h ⟨b,0,none⟩ w.cs){Q:List Value->Prop}(hq:Q w.cs):
  ∃JL:Int,∃JK:Int,∃sN:Sl,∃sM:Sl,∃JJ:Int,∃JI:Bool,∃JH:Int,∃JG:Int,∃sL:Sl,∃JF:Int,∃JE:Bool,∃Hg:Int,∃JD:Int,∃sK:Sl,a8 h ⟨b,0,none⟩ [.int .i64 JL,.int .i64 JK,.slice sN.a sN.n sN.c,.slice sM.a sM.n sM.c,.int .i64 JJ,.bool JI,.int .i64 JH,.int .i64 JG,.slice sL.a sL.n sL.c,.int .i64 JF,.bool JE,.int .i64 Hg,.int .i64 JD,.slice sK.a sK.n sK.c] /\
   Q [.int .i64 JL,.int .i64 JK,.slice sN.a sN.n sN.c,.slice sM.a sM.n sM.c,.int .i64 JJ,.bool JI,.int .i64 JH,.int .i64 JG,.slice sL.a sL.n sL.c,.int .i64 JF,.bool JE,.int .i64 Hg,.int .i64 JD,.slice sK.a sK.n sK.c]:=
 ⟨w.k,w.r,w.f,w.s,w.e.r,w.e.s,w.e.p,w.e.l,aB,w.o.r,w.o.s,w.o.p,w.o.l,aB,ha,hq⟩
theorem G9{h0 h:Heap}{L:List It}(hs:St h0 h L)(i j:Nat){wb rb:Nat}{w w0:Wt}{e1 e2:TypeId}(hi:L[i]?=some (.af wb w.cs e1))(hj:L[j]?=some (.af rb w0.cs e2)){K:Heap->Prop}(hK:∀h',St h0 h' (L.set j (.af rb w.cs e2))->K h'):
  ∃JL:Int,∃JK:Int,∃sN:Sl,∃sM:Sl,∃JJ:Int,∃JI:Bool,∃JH:Int,∃JG:Int,∃sL:Sl,∃JF:Int,∃JE:Bool,∃Hg:Int,∃JD:Int,∃sK:Sl,a8 h ⟨wb,0,none⟩ [.int .i64 JL,.int .i64 JK,.slice sN.a sN.n sN.c,.slice sM.a sM.n sM.c,.int .i64 JJ,.bool JI,.int .i64 JH,.int .i64 JG,.slice sL.a sL.n sL.c,.int .i64 JF,.bool JE,.int .i64 Hg,.int .i64 JD,.slice sK.a sK.n sK.c] /\
   (fG h ⟨rb,0,none⟩ 14/\∀pE:Heap,pE=bh h ⟨rb,0,none⟩ 0 [.int .i64 JL,.int .i64 JK,.slice sN.a sN.n sN.c,.slice sM.a sM.n sM.c,.int .i64 JJ,.bool JI,.int .i64 JH,.int .i64 JG,.slice sL.a sL.n sL.c,.int .i64 JF,.bool JE,.int .i64 Hg,.int .i64 JD,.slice sK.a sK.n sK.c]->K pE):=by
 refine⟨w.k,w.r,w.f,w.s,w.e.r,w.e.s,w.e.p,w.e.l,aB,w.o.r,w.o.s,w.o.p,w.o.l,aB,hs.at i hi (o:=0) (n:=14) rfl,?_⟩;refine hs.put j hj (o:=0) (vs:=w.cs) rfl (aY 14) fun h' hs=>hK h' ?_;exact hs
theorem kV{K:List Ev}:∀ {L:List fk} {x:fk},bX K L=some x->x∈L/\x.m.ev∈K:=by
 intro L x;unfold bX
 suffices h:∀(l:List fk) (b:Option fk),(∀y,b=some y->y∈L/\y.m.ev∈K)->(∀y∈l,y∈L)->l.foldl (gK K) b=some x->x∈L/\x.m.ev∈K from h L none (fun y hy=>by cases hy) (fun y hy=>hy)
 intro l
 induction l with
 | nil=>intro b hb _ hx;exact hb x hx
 | cons a l ih=>
  intro b hb hl hx;refine ih (gK K b a) (fun y hy=>?_) (fun y hy=>hl y (Yn _ hy)) hx;unfold gK at hy;by_cases dQ:a.m.ev∈K
  .rw[if_pos dQ] at hy;cases b with
   | none=>cases hy;exact⟨hl _ Yx,dQ⟩
   | some z=>
    simp only at hy;split at hy
    .cases hy;exact⟨hl _ Yx,dQ⟩
    .exact hb y hy
  .rw[if_neg dQ] at hy;exact hb y hy
def Cg(g:Gl)(X:An):Prop:=∀q∈X.ar,∀y∈q.2,∃(i:Nat) (m:Ms),y=iu g i m/\i<g.es.length/\m∈dU g i
def sW(g:Gl)(role kind:Int)(X:An)(F:List Ac)(p:Pr):List Ac × Au × Au:=
 if kind=1 then (F,(match X.fi[p.1]?,X.fi[p.2]? with | some fs,some ft=>aR role ((fs.l.find? (fw ft.l)).getD ⟨false,0,0⟩) | _,_=>cL),cL)
 else if kind=4 then (match X.fi[p.2]?,X.ar[p.1]? with | some ft,some q=>(F++[(eA g.es ((bX ft.l q.2).getD cB).e.toNat).act]++eW g ((bX ft.l q.2).getD cB).e.toNat ((bX ft.l q.2).getD cB).m,aR role ((bX ft.l q.2).getD cB).m.ev,aR role ⟨false,(eA g.es ((bX ft.l q.2).getD cB).e.toNat).a,(eA g.es ((bX ft.l q.2).getD cB).e.toNat).l⟩) | _,_=>(F,cL,cL))
 else (F,cL,cL)
theorem NM(l:List Ac):∀r∈l.map Ac.cs,r.length=3:=fun r hr=>by obtain⟨x,_,rfl⟩:=Yp.1 hr;rfl
theorem IX{h0 n4 h6 fR h:Heap}{b ob lb:Nat}{kind role:Int}{wf ws:Sl}{p:Pr}{F S:List Ac}{g:Gl}{X:An}{kd:Int}{R:Value->Heap->Prop}
  (hs:St h0 n4 (FB fR.size h6.size lb ob kind role wf ws p F S++[.af h.size gA.cs 35])) (hA:s7 h0 b g role X) (hx:Gm h0) (hV:ae g) (hp:(p.1:Int)<g.n/\(p.2:Int)<g.n) (OD:∀q∈X.ar,∀x∈q.2,0<x.n) (IL:Cg g X) (hco:kind=4->(dY X kind p).isSome=true) (hF:F.length<=8388608)
  (hK:∀(h':Heap) (w:Wt) (L:List It),w.k=kind->w.r=role->w.e=(sW g role kind X F p).2.1->w.o=(sW g role kind X F p).2.2->St h0 h' (.sl w.f 65 3 ((sW g role kind X F p).1.map Ac.cs) :: .sl w.s 65 3 (S.map Ac.cs)::L)->R (.tuple ⟨[.agg ⟨w.cs⟩,.int .i64 kd]⟩) h') :
  NT kind n4 h6 ⟨b,0,none⟩ fR h R kd:=by
 unfold NT;obtain⟨fs,gs⟩:=get_some (l:=X.fi) (i:=p.1) (by rw[hA.nf];omega);obtain⟨ft,gt⟩:=get_some (l:=X.fi) (i:=p.2) (by rw[hA.nf];omega);obtain⟨q,gq⟩:=get_some (l:=X.ar) (i:=p.1) (by rw[hA.nr];omega);have hN:=hV.num.n;have hM:=hV.num.m;have hg:=hA.gg.gi;have qk:=hg.e.ln;have Cp:hc h0 ⟨b,8,none⟩=some (Value.int .i64 role):=hA.r.ro;refine eh (fun c=>?_) (fun c=>eh (fun c2=>?_) (fun c2=>?_))
 .refine⟨(p.1:Nat),(p.2:Nat),hs.at 1 rfl (o:=0) (n:=2) rfl,?_⟩;refine (om ⟨b,0,none⟩ role X.bO X.bE X.bc X.bI X.fi X.li X.ag X.ow p.1 p.2 fs ft n4 (hA.ext hs.ext).r gs gt).mono ?_;rintro v58 ZN ⟨E,hv⟩;replace hs:=hs.step E;have hex:sW g role kind X F p=(F,aR role ((fs.l.find? (fw ft.l)).getD ⟨false,0,0⟩),cL):=by unfold sW;rw[if_pos c,gs,gt]
  rw[hex] at hK;have Rz:v58=Value.tuple ⟨[Value.agg ⟨((fs.l.find? (fw ft.l)).getD ⟨false,0,0⟩).cs⟩,Value.bool (fs.l.find? (fw ft.l)).isSome]⟩:=by rw[hv];cases fs.l.find? (fw ft.l)<;>rfl
  clear hv;subst Rz;generalize (fs.l.find? (fw ft.l)).getD ⟨false,0,0⟩=x at *;refine⟨x.send,x.peer,x.label,_,rfl,?_⟩;refine hs.ai (vs:=x.cs) rfl rfl fun V6 hs=>?_;refine⟨x.send,x.peer,x.label,hs.at 0 rfl (o:=0) (n:=3) rfl,?_⟩;refine (kN b role x V6 (aw hs.ext Cp)).mono ?_;rintro _ h70 ⟨E3,rfl⟩;replace hs:=hs.step E3;refine⟨role,x.send,x.peer,x.label,aB,rfl,?_⟩;refine hs.put 1 rfl (o:=4) (vs:=(aR role x).cs) rfl (by show 4+5<=14;decide) fun Kx hs=>?_;refine G9 hs 1 6 (w:=⟨kind,role,wf,ws,aR role x,cL⟩) (w0:=gA) rfl rfl fun pE hs=>?_;refine ym (w:=⟨kind,role,wf,ws,aR role x,cL⟩) (Q:=fun cs=>R (.tuple ⟨[.agg ⟨cs⟩,.int .i64 kd]⟩) pE) (hs.at 6 rfl (o:=0) (n:=14) rfl) ?_;exact hK pE ⟨kind,role,wf,ws,aR role x,cL⟩ _ rfl rfl rfl rfl (hs.drop 4)
 .refine⟨(p.1:Nat),(p.2:Nat),hs.at 1 rfl (o:=0) (n:=2) rfl,?_⟩;refine (oy b g role X p.1 p.2 ft q n4 (hA.ext hs.ext) gt gq (OD q (Yb gq))).mono ?_;rintro _ BJ ⟨E,rfl⟩;replace hs:=hs.step E;obtain⟨y,hy⟩:∃y,bX ft.l q.2=some y:=by
   have h9:=hco c2;unfold dY at h9;rw[if_neg c,if_neg (by omega),gt,gq] at h9;simp only[Option.isSome_map] at h9;exact Option.isSome_iff_exists.1 h9
  obtain⟨i,m,rfl,wh,LM⟩:=IL q (Yb gq) y (kV hy).1;obtain⟨x0,jr⟩:=get_some wh;have jT:=aI jr;have hex:sW g role kind X F p=(F++[x0.act]++eW g i m,aR role m.ev,aR role ⟨false,x0.a,x0.l⟩):=by
   have h8:sW g role kind X F p=(F++[(eA g.es ((bX ft.l q.2).getD cB).e.toNat).act]++eW g ((bX ft.l q.2).getD cB).e.toNat ((bX ft.l q.2).getD cB).m,aR role ((bX ft.l q.2).getD cB).m.ev,aR role ⟨false,(eA g.es ((bX ft.l q.2).getD cB).e.toNat).a,(eA g.es ((bX ft.l q.2).getD cB).e.toNat).l⟩):=by
    unfold sW;rw[if_neg c,if_pos c2,gt,gq]
   rw[h8,hy];show (F++[(eA g.es i).act]++eW g i m,aR role m.ev,aR role ⟨false,(eA g.es i).a,(eA g.es i).l⟩)=_;rw[jT]
  rw[hex] at hK;rw[hy];refine⟨(i:Int),(iu g i m).n,m.p,m.l,_,rfl,?_⟩;refine hs.ai (vs:=(iu g i m).cs) rfl rfl fun Mz hs=>?_;refine⟨bs g.nm,g.hr,g.hd,g.n,g.s,g.e,g.he,g.ht,(fj hs.ext hA.gg.at_).Q3 8 rfl,?_⟩;refine⟨(i:Int),hs.rd 0 rfl (i:=0) rfl,m.p,m.l,hs.at 0 rfl (o:=2) (n:=2) rfl,?_⟩;refine (yr g i x0 m Mz (hg.ext hs.ext) (hx.ext hs.ext) hV jr LM).mono ?_;rintro _ Z9 ⟨E3,sp,rfl,Cm,sR⟩;replace hs:=hs.join Cm;have Ee:=hs.len 7 (s:=sp) (e:=65) (n:=3) rfl (by omega);rw[Yc] at Ee;refine⟨sp,0,rfl,g.he,aw hs.ext (hA.gg.at_.nth 6 rfl),(i:Int),hs.rd 0 rfl (i:=0) rfl,?_⟩;refine (hg.e.rw.ext hs.ext).aF (by omega) (by omega) fun Wj Vv x gx u3=>?_;replace gx:g.es[i]?=some x:=gx;rw[jr] at gx;cases gx;refine⟨x0.a,x0.b,x0.l,u3.sub 1 3 rfl,?_⟩;refine hs.ak fun acG E4 hs=>⟨E4.sm,?_⟩;refine hs.put 0 rfl (o:=0) (vs:=x0.act.cs) rfl (aY 3) fun acF hs=>?_;refine⟨wf,hs.rd 2 rfl (i:=2) rfl,x0.a,x0.b,x0.l,hs.at 0 rfl (o:=0) (n:=3) rfl,?_⟩;have X9:=(hs.len 5 (s:=wf) (e:=65) (n:=3) rfl (by omega)).1;rw[Yc] at X9;refine hs.app 5 rfl qG (m:=1) [x0.act.cs] rfl rfl (fun r hr=>by rw[Ye] at hr;rw[hr];rfl) rfl (by omega) (by simp only[maxLen];omega) fun abn Z4 n141 hs=>?_;refine hs.oz 5 rfl qG (hs.rows 8 rfl (by omega)) (NM _) Ee.2.2 (jQ (fun _=>rfl) _) (by omega) (by simp only[maxLen];omega) fun wA pG n143 hs=>?_;refine hs.put 2 rfl (o:=2) (vs:=[.slice wA.a wA.n wA.c]) rfl (by show 2+1<=14;decide) fun SM hs=>?_;refine⟨m.p,hs.rd 1 rfl (i:=2) rfl,m.l,hs.rd 1 rfl (i:=3) rfl,?_⟩;refine (kN b role m.ev SM (aw hs.ext Cp)).mono ?_;rintro _ acC ⟨E5,rfl⟩;replace hs:=hs.step E5;refine⟨role,false,m.p,m.l,aB,rfl,?_⟩;refine hs.put 2 rfl (o:=4) (vs:=(aR role m.ev).cs) rfl (by show 4+5<=14;decide) fun BH hs=>?_;refine⟨x0.a,hs.rd 0 rfl (i:=0) rfl,x0.l,hs.rd 0 rfl (i:=2) rfl,?_⟩;refine (kN b role ⟨false,x0.a,x0.l⟩ BH (aw hs.ext Cp)).mono ?_;rintro _ ZW ⟨E6,rfl⟩;replace hs:=hs.step E6;refine⟨role,false,x0.a,x0.l,aB,rfl,?_⟩;refine hs.put 2 rfl (o:=9) (vs:=(aR role ⟨false,x0.a,x0.l⟩).cs) rfl (by show 9+5<=14;decide) fun acB hs=>?_;refine G9 hs 2 7 (w:=⟨kind,role,wA,ws,aR role m.ev,aR role ⟨false,x0.a,x0.l⟩⟩) (w0:=gA) rfl rfl fun pE hs=>?_;refine ym (w:=⟨kind,role,wA,ws,aR role m.ev,aR role ⟨false,x0.a,x0.l⟩⟩) (Q:=fun cs=>R (.tuple ⟨[.agg ⟨cs⟩,.int .i64 kd]⟩) pE) (hs.at 7 rfl (o:=0) (n:=14) rfl) ?_;refine hK pE ⟨kind,role,wA,ws,aR role m.ev,aR role ⟨false,x0.a,x0.l⟩⟩ [.af h.size (Wt.cs ⟨kind,role,wA,ws,aR role m.ev,aR role ⟨false,x0.a,x0.l⟩⟩) 35,.sl sp 65 3 ((eW g i m).map Ac.cs)] rfl rfl rfl rfl ?_;have hs:=hs.drop 5;simp only[Ym];exact hs
 .refine G9 hs 0 5 (w:=⟨kind,role,wf,ws,cL,cL⟩) (w0:=gA) rfl rfl fun pE hs=>?_;refine ym (w:=⟨kind,role,wf,ws,cL,cL⟩) (Q:=fun cs=>R (.tuple ⟨[.agg ⟨cs⟩,.int .i64 kd]⟩) pE) (hs.at 5 rfl (o:=0) (n:=14) rfl) ?_;have hex:sW g role kind X F p=(F,cL,cL):=by unfold sW;rw[if_neg c,if_neg c2]
  rw[hex] at hK;exact hK pE ⟨kind,role,wf,ws,cL,cL⟩ _ rfl rfl rfl rfl (hs.drop 3)
theorem Dn.XX{mv:Pr->List aV}{bj:Pr->Option Nat}{p:Pr}{k:Nat}(hL:lh mv bj p k)(bz:bj p≠some k):∃m∈mv p,∃n,lh mv bj (bp m) n/\n+bu m=k:=by
 obtain⟨hd,hl⟩:=hL;cases hd with
 | base h=>exact absurd h bz
 | step hm hn=>exact⟨_,hm,_,⟨hn,fun j hj=>by have:=hl _ (.step hm hj);omega⟩,rfl⟩
theorem lh.uniq{mv:Pr->List aV}{bj:Pr->Option Nat}{p:Pr}{k n:Nat}(h1:lh mv bj p k)(h2:lh mv bj p n):k=n:=Nat.le_antisymm (h1.2 n h2.1) (h2.2 k h1.1)
noncomputable def dL(mv:Pr->List aV)(bj:Pr->Option Nat)(p:Pr):Int:=by
 classical exact if h:∃n,lh mv bj p n then (Classical.choose h:Nat) else a7
theorem vi{mv:Pr->List aV}{bj:Pr->Option Nat}{p:Pr}{n:Nat}(h:lh mv bj p n):dL mv bj p=n:=by
 unfold dL;rw[dif_pos ⟨n,h⟩];have:=lh.uniq (Classical.choose_spec (⟨n,h⟩:∃n,lh mv bj p n)) h;omega
theorem KC{mv:Pr->List aV}{bj:Pr->Option Nat}{p:Pr}(h:∀n,¬lh mv bj p n):dL mv bj p=a7:=by
 unfold dL;rw[dif_neg (fun ⟨n,h9⟩=>h n h9)]
def gh(g:Gl):Pr:=(g.s.toNat,g.s.toNat)
inductive Pc (g:Gl) (role kind:Int) (X:An) (h h':Heap):Value->Prop
 | gJ (hn:∀n,¬lh (cO g role) (dZ X kind) (gh g) n) (E:Ext h h'):Pc g role kind X h h' (.tuple ⟨[.agg ⟨gA.cs⟩,.int .i64 a7]⟩)
 | hit {n:Nat} {D:Pr->Int} {ms:List aV} {p:Pr} {w:Wt} {L:List It} (hl:lh (cO g role) (dZ X kind) (gh g) n) (hn:n<=8388608) (hD:∀q,mR g role q->D q=dL (cO g role) (dZ X kind) q) (hG:mS (cO g role) (dY X kind) D (gh g) ms p) (hc:dY X kind p=some (D p))
   (hk:w.k=kind) (hr:w.r=role) (he:w.e=(sW g role kind X (facts g ms) p).2.1) (ho:w.o=(sW g role kind X (facts g ms) p).2.2)
   (hs:St h h' (.sl w.f 65 3 ((sW g role kind X (facts g ms) p).1.map Ac.cs) :: .sl w.s 65 3 ((eZ g ms).map Ac.cs)::L)):Pc g role kind X h h' (.tuple ⟨[.agg ⟨w.cs⟩,.int .i64 (n:Nat)]⟩)
theorem j6(b:Nat)(g:Gl)(role:Int)(X:An)(kind:Int)(all:Sl)(mb:Nat)(A:List Pr)(l:List (Pr × Sl))(CB:Nat)(h:Heap)(hA:s7 h b g role X)(hx:Gm h)(hV:ae g)(hM:Hb h g role all mb A l)(hC:Pb X kind A CB)(IL:Cg g X):
  Fn Pz 96 #[.pointer (some ⟨b,0,none⟩),.int .i64 kind,.slice all.a all.n all.c,.map (some mb)] h fun v h'=>Pc g role kind X h h' v:=by
 apply WK ⟨b,0,none⟩ kind all (some mb);unfold W96;have hN:=hV.num.n;have hE:=hV.num.m;have zg:∀p∈A,(p.1:Int)<g.n/\(p.2:Int)<g.n:=fun p hp=>((hM.pr p).1 hp).lt hV;have rJ:∀p∈A,dG p:=fun p hp=>by have:=zg p hp;exact⟨by omega,by omega⟩
 have ew:∀p∈A,∀m∈cO g role p,bp m∈A:=fun p hp m hm=>(hM.pr _).2 (.step ((hM.pr p).1 hp) hm);have O3:gh g∈A:=(hM.pr _).2 .start;have RQ:pC (gh g)=[.int .i64 g.s,.int .i64 g.s]:=by unfold pC gh;simp only;rw[Int.toNat_of_nonneg (by omega)]
 have V3:A.length<=40000:=by
  have h1:=rR (n:=g.n.toNat) hM.nd fun p hp=>by have:=zg p hp;exact⟨by omega,by omega⟩
  have h2:g.n.toNat*g.n.toNat<=200*200:=Nat.mul_le_mul (by omega) (by omega);omega
 have hCb:=hC.b;refine (St.refl h).aq fun h1 jW=>?_;refine (Ih b g role X kind all mb A l CB h1 (hA.ext jW.ext) hV (hM.ext jW.ext) hC).mono ?_;rintro _ h4 ⟨E4,ob,O,rfl,Kj,hk,hn,hO⟩;refine⟨some ob,rfl,?_⟩;have Ir:=jW.step E4;have hX4:=Ir.ext;have ED:=hA.ext hX4;have hM4:=hM.ext hX4;have IJ:∀q∈A,0<=dO O q/\dO O q<=a7:=fun q hq=>by
  have h9:=fun k=>(hO q hq k).2;unfold dO a7;cases hg:aG O q with
  | none=>exact⟨by decide,by decide⟩
  | some k=>have:=h9 k hg;simp only[Option.elim];omega
 have hdL:∀q,mR g role q->dO O q=dL (cO g role) (dZ X kind) q:=fun q hq=>by
  have hqA:=(hM.pr q).2 hq;unfold dO;cases hg:aG O q with
  | none=>exact (KC fun n hn=>by rw[((hO q hqA n).1).2 hn] at hg;cases hg).symm
  | some k=>exact (vi (((hO q hqA k).1).1 hg)).symm
 refine (St.refl h4).ai (vs:=[.map (some ob)]) rfl rfl fun h6 hs=>?_;refine⟨g.s,aw hs.ext (ED.gg.at_.nth 4 rfl),g.s,aw hs.ext (ED.gg.at_.nth 4 rfl),?_⟩;refine hs.ak fun h9 E9 hs=>⟨E9.sm,?_⟩;refine hs.put 0 rfl (o:=0) (vs:=[.int .i64 g.s,.int .i64 g.s]) rfl (aY 2) fun cA hs=>?_;refine⟨some ob,hs.rd 1 rfl (i:=0) rfl,g.s,g.s,hs.at 0 rfl (o:=0) (n:=2) rfl,?_⟩;have EJ:=zH ob O (gh g) cA (Kj.bH fun b hb=>hs.ext.2 b (Kj.lt hb)) hk hn (rJ _ O3);rw[RQ] at EJ;refine EJ.mono ?_;rintro _ fR ⟨rfl,E16⟩;replace hs:=hs.step E16;refine⟨_,rfl,eh (fun c=>?_) (fun c=>?_)⟩
 .have hs:=Ir.join hs;refine hs.put 0 rfl (o:=0) (vs:=gA.cs) rfl (aY 14) fun Mu hs=>?_;refine ym (w:=gA) (Q:=fun cs=>Pc g role kind X h Mu (.tuple ⟨[.agg ⟨cs⟩,.int .i64 1073741824]⟩)) (hs.at 0 rfl (o:=0) (n:=14) rfl) ?_;refine .gJ (fun n hl=>?_) hs.ext;have h9:=(hO _ O3 n).1.2 hl;have cA:=(hO _ O3 n).2 h9;unfold dO at c;rw[h9] at c;simp only[Option.elim] at c;omega
 .obtain⟨k0,xr⟩:∃k0,aG O (gh g)=some k0:=by
   cases hg:aG O (gh g) with
   | none=>unfold dO at c;rw[hg] at c;exact absurd rfl c
   | some k=>exact⟨k,rfl⟩
  have uN:dO O (gh g)=(k0:Int):=by unfold dO;rw[xr];rfl
  have acb:=(hO _ O3 k0).2 xr;refine⟨role,aw hs.ext ED.r.ro,?_⟩;refine hs.ai (vs:=(Wt.cs ⟨kind,role,aB,aB,cL,cL⟩)) rfl rfl fun mm hs=>?_;have hs:=((hs.cN 65 3).cN 65 3).perm (List.perm_append_comm (l₁:=[_,_]) (l₂:=[_,_,_]));refine⟨fun h' μ=>∃(ms:List aV) (p:Pr) (wf ws:Sl) (k:Nat),μ=k/\aG O p=some k/\p∈A/\St h4 h' (FB fR.size h6.size h4.size ob kind role wf ws p (facts g ms) (eZ g ms))/\mS (cO g role) (dY X kind) (dO O) (gh g) ms p/\ms.length+k<=8388608,⟨_,[],gh g,aB,aB,k0,rfl,xr,O3,?_,.nil,?_⟩,?_⟩
  .unfold FB;rw[RQ];exact hs
  .simp only[List.length_nil];omega
  clear hs;rintro-sU k ⟨ms,p,wf,ws,k9,rfl,pB,oH,hs,hG,Cr⟩;have hdp:dO O p=(k:Int):=by unfold dO;rw[pB];rfl
  have Bz:=(hO p oH k).2 pB;have hLp:=(hO p oH k).1.1 pB;have ie:=BN g ms;have pt:=AM g ms
  have stp:∀(n4:Heap),St h4 n4 (FB fR.size h6.size h4.size ob kind role wf ws p (facts g ms) (eZ g ms))->dY X kind p≠some (dO O p) ->
    F3 n4 h6 (some mb) h4 fR ⟨b,0,none⟩ k (fun h' μ=>∃(ms:List aV) (p:Pr) (wf ws:Sl) (k:Nat),μ=k/\aG O p=some k/\p∈A/\St h4 h' (FB fR.size h6.size h4.size ob kind role wf ws p (facts g ms) (eZ g ms))/\mS (cO g role) (dY X kind) (dO O) (gh g) ms p/\ms.length+k<=8388608):=by
   intro n4 hs bz;have LD:dZ X kind p≠some k:=fun e=>by
    unfold dZ at e;cases zl:dY X kind p with
    | none=>rw[zl] at e;cases e
    | some c=>
     have h1:=hC.c p oH c zl;rw[zl] at e;simp only[Option.map_some,Option.some.injEq] at e;exact bz (by rw[zl,hdp];congr 1;omega)
   obtain⟨m,hm,n,VK,hnk⟩:=Dn.XX hLp LD;have hmA:=ew p oH m hm;have hgn:=(hO _ hmA n).1.2 VK;have pA:Bd (dO O) p m=true:=by
    unfold Bd;refine decide_eq_true ?_;rw[hdp];have:dO O (bp m)=(n:Int):=by unfold dO;rw[hgn];rfl
    omega
   cases je:(cO g role p).findIdx? (Bd (dO O) p) with
   | none=>
    rw[List.findIdx?_eq_none_iff] at je;rw[je m hm] at pA;cases pA
   | some k2=>
    obtain⟨h1,h2,_⟩:=List.findIdx?_eq_some_iff_getElem.1 je;have gm2:(cO g role p)[k2]?=some (cO g role p)[k2]:=Yi h1;generalize mi:(cO g role p)[k2]=m2 at *;have h3:(bu m2:Int)+dO O (bp m2)=dO O p:=bM h2;have Y3:=ew p oH m2 (Yb gm2);have sR:=cV m2;obtain⟨k',mX⟩:∃k',aG O (bp m2)=some k':=by
     cases hg:aG O (bp m2) with
     | none=>unfold dO at h3;rw[hg,pB] at h3;simp only[Option.elim,a7] at h3;omega
     | some k'=>exact⟨k',rfl⟩
    have G3:dO O (bp m2)=(k':Int):=by unfold dO;rw[mX];rfl
    refine Hr hs ED hV hM4 Kj hk hn oH je gm2 (by omega) (by omega) IJ fun h' Ci WA hs=>⟨k',by omega,ms++[m2],bp m2,Ci,WA,k',rfl,mX,Y3,?_,.snoc hG bz je gm2,by rw[Yh,Yv];omega⟩;rw[xK,wz];exact hs
  refine⟨(p.1:Nat),(p.2:Nat),hs.at 1 rfl (o:=0) (n:=2) rfl,?_⟩;refine (vj b g role X kind p sU (ED.ext hs.ext) (zg p oH) hC.a).mono ?_;rintro _ xz ⟨E,rfl⟩;replace hs:=hs.step E;refine⟨_,_,rfl,aa (fun c1=>?_) (fun c1=>?_)⟩
  .obtain⟨n1,LH⟩:=Option.isSome_iff_exists.1 c1;refine⟨some ob,hs.rd 2 rfl (i:=0) rfl,(p.1:Nat),(p.2:Nat),hs.at 1 rfl (o:=0) (n:=2) rfl,?_⟩;refine (zH ob O p xz (Kj.bH fun b hb=>hs.ext.2 b (Kj.lt hb)) hk hn (rJ p oH)).mono ?_;rintro _ n4 ⟨rfl,E50⟩;replace hs:=hs.step E50;refine⟨_,rfl,eh (fun c2=>?_) (fun c2=>?_)⟩
   .have hcp:dY X kind p=some (dO O p):=by rw[LH] at c2 ⊢;exact congrArg some c2
    have hs:=(Ir.join hs).perm (List.perm_append_comm (l₁:=[_]) (l₂:=FB fR.size h6.size h4.size ob kind role wf ws p (facts g ms) (eZ g ms)));refine IX hs hA hx hV (zg p oH) hC.a IL (fun _=>c1) (by omega) fun h' w L h1 h2 h3 h4 hs=>?_;rw[uN];exact .hit ((hO _ O3 k0).1.1 xr) (by omega) hdL hG hcp h1 h2 h3 h4 hs
   .exact stp n4 hs fun e=>c2 (by rw[e];rfl)
  .exact CS (stp xz hs fun e=>by rw[e] at c1;cases c1)
end Go.VC
end

section
namespace Go.VC
inductive qK (es:List Ed) (MX:Nat->Prop):Nat->Nat->Prop
 | base {s:Nat}:MX s->qK es MX s 0
 | step {s:Nat} {e:Ed} {n:Nat}:e∈es->e.f=(s:Int)->qK es MX e.t.toNat n->qK es MX s (n+1)
def fy(es:List Ed)(MX:Nat->Prop)(s n:Nat):Prop:=qK es MX s n/\∀k,qK es MX s k->n<=k
def cP:Int:=1073741824
structure lX (g:Gl) (MX:Nat->Prop) (LF:List Int) (Q:List Nat) (hd c:Nat):Prop where
 ln:LF.length=g.n.toNat
 d:∀(s:Nat) x,LF[s]?=some x->x=cP\/(∃k:Nat,x=(k:Int)/\qK g.es MX s k/\k<=c)
 q:∀s:Nat,s∈Q ↔ ∃x,LF[s]?=some x/\x≠cP
 nd:Q.Nodup
 m:∀s:Nat,s<g.n.toNat->MX s->LF[s]?=some 0
 so:∀(i j s t:Nat) x y,i<=j->Q[i]?=some s->Q[j]?=some t->LF[s]?=some x->LF[t]?=some y->x<=y
 hi:∀(s t:Nat) x y,Q[hd]?=some s->t∈Q->LF[s]?=some x->LF[t]?=some y->y<=x+1
 cl:∀(i t:Nat) x,i<hd->Q[i]?=some t->LF[t]?=some x->∀e∈g.es,e.t=(t:Int)->∃y,LF[e.f.toNat]?=some y/\y<=x+1
theorem lX.lt{g:Gl}{MX:Nat->Prop}{LF:List Int}{Q:List Nat}{hd c:Nat}(h:lX g MX LF Q hd c){s:Nat}(hs:s∈Q):s<g.n.toNat:=by
 obtain⟨x,hx,_⟩:=(h.q s).1 hs;have:=(Ya.1 hx).1;rw[h.ln] at this;exact this
theorem lX.len{g:Gl}{MX:Nat->Prop}{LF:List Int}{Q:List Nat}{hd c:Nat}(h:lX g MX LF Q hd c):Q.length<=g.n.toNat:=by
 have:=List.Nodup.length_le_of_subset h.nd (l₂:=List.range g.n.toNat) fun s hs=>List.mem_range.2 (h.lt hs)
 rwa [mG] at this
theorem lX.val{g:Gl}{MX:Nat->Prop}{LF:List Int}{Q:List Nat}{hd c:Nat}(h:lX g MX LF Q hd c){s:Nat}(hs:s∈Q):∃k:Nat,LF[s]?=some (k:Int)/\qK g.es MX s k/\k<=c:=by
 obtain⟨x,hx,hf⟩:=(h.q s).1 hs;rcases h.d s x hx with rfl | ⟨k,rfl,hk⟩
 .exact absurd rfl hf
 .exact⟨k,hx,hk⟩
theorem lX.Pg{g:Gl}{MX:Nat->Prop}{LF:List Int}{Q:List Nat}{hd c c':Nat}(h:lX g MX LF Q hd c)(hc:c<=c'):lX g MX LF Q hd c':=
 { h with d:=fun s x hx=>(h.d s x hx).imp id fun ⟨k,h1,h2,h3⟩=>⟨k,h1,h2,by omega⟩ }
theorem lX.put{g:Gl}{MX:Nat->Prop}{LF:List Int}{Q:List Nat}{hd c:Nat}(h:lX g MX LF Q hd c){t s:Nat}{e:Ed}{x:Nat}(ht:Q[hd]?=some t)(hx:LF[t]?=some (x:Int))(hxc:x+1<=c)(hc:c<=100000)(he:e∈g.es)(h1:e.t=(t:Int))(h2:e.f=(s:Int))(hs:LF[s]?=some cP):
  lX g MX (LF.set s ((x:Int)+1)) (Q++[s]) hd c:=by
 have pt:=(Ya.1 hs).1;have fQ:s∉Q:=fun hm=>by
  obtain⟨y,hy,hf⟩:=(h.q s).1 hm;rw[hs] at hy;cases hy;exact hf rfl
 have hdt:qK g.es MX t x:=by
  rcases h.d t _ hx with h9 | ⟨k,h9,cA,_⟩
  .exact absurd h9 (by unfold cP;omega)
  .have:k=x:=by omega
   subst this;exact cA
 have v8:∀ {u:Nat},u∈Q->(LF.set s ((x:Int)+1))[u]?=LF[u]?:=fun {u} hu=>Yy (fun e=>fQ (by rw[e];exact hu));have LV:=(Ya.1 ht).1;refine⟨by rw[mF];exact h.ln,fun u y hu=>?_,fun u=>?_,?_,fun u hu hm=>?_,fun i j a b y z zh ha hb hy hz=>?_,fun a b y z ha hb hy hz=>?_,fun i a y hi ha hy e' IC oG=>?_⟩
 .by_cases e1:s=u
  .subst e1;rw[Yq pt] at hu;cases hu;refine .inr ⟨x+1,by omega,.step he h2 ?_,hxc⟩;rw[h1,Ys];exact hdt
  .rw[Yy e1] at hu;exact h.d u y hu
 .rw[Yk,Ye];by_cases e1:s=u
  .subst e1;rw[Yq pt];exact iff_of_true (.inr rfl) ⟨_,rfl,by unfold cP;omega⟩
  .rw[Yy e1,<-h.q u];exact⟨fun h9=>h9.elim id fun e=>absurd e.symm e1,.inl⟩
 .rw[List.nodup_append];exact⟨h.nd,by simp,fun a ha b hb e=>by rw[Ye] at hb;subst hb;subst e;exact fQ ha⟩
 .have h9:=h.m u hu hm;rw[Yy (fun e=>by subst e;rw[hs] at h9;exact absurd (eU h9) (by unfold cP;decide))];exact h9
 .rcases Nat.lt_or_ge j Q.length with hj | hj
  .rw[jw hj] at hb;rw[jw (by omega)] at ha;rw[v8 (Yb ha)] at hy;rw[v8 (Yb hb)] at hz;exact h.so i j a b y z zh ha hb hy hz
  .have Eo:=(Ya.1 hb).1;rw[Yh,Yv] at Eo;rw[qJ hj,show j-Q.length=0 by omega] at hb;cases hb;rw[Yq pt] at hz;cases hz;rcases Nat.lt_or_ge i Q.length with hi | hi
   .rw[jw hi] at ha;rw[v8 (Yb ha)] at hy;exact h.hi t a _ y ht (Yb ha) hx hy
   .rw[qJ hi,show i-Q.length=0 by omega] at ha;cases ha;rw[Yq pt] at hy;cases hy;omega
 .rw[jw LV,ht] at ha;cases ha;rw[v8 (Yb ht),hx] at hy;cases hy;rcases Yk.1 hb with hb | hb
  .rw[v8 hb] at hz;exact h.hi t b _ z ht hb hx hz
  .rw[Ye] at hb;subst hb;rw[Yq pt] at hz;cases hz;omega
 .rw[jw (by omega)] at ha;rw[v8 (Yb ha)] at hy;obtain⟨z,h3,h4⟩:=h.cl i a y hi ha hy e' IC oG;have hyb:y<=c:=by
   obtain⟨k,h5,_,h6⟩:=h.val (Yb ha);rw[h5] at hy;cases hy;omega
  refine⟨z,?_,h4⟩;rw[Yy (fun e=>by rw[<-e,hs] at h3;cases h3;unfold cP at h4;omega)];exact h3
theorem lX.next{g:Gl}{MX:Nat->Prop}{LF:List Int}{Q:List Nat}{hd c:Nat}(h:lX g MX LF Q hd c){t x:Nat}(ht:Q[hd]?=some t)(hx:LF[t]?=some (x:Int))(ew:∀e∈g.es,e.t=(t:Int)->∃y,LF[e.f.toNat]?=some y/\y<=x+1):lX g MX LF Q (hd+1) c:=by
 refine⟨h.ln,h.d,h.q,h.nd,h.m,h.so,fun s u y z hs hu hy hz=>?_,fun i a y hi ha hy e he het=>?_⟩
 .have h1:=h.hi t u _ z ht hu hx hz;have h2:=h.so hd (hd+1) t s _ y (by omega) ht hs hx hy;omega
 .by_cases e1:i=hd
  .subst e1;rw[ht] at ha;cases ha;rw[hx] at hy;cases hy;exact ew e he het
  .exact h.cl i a y (by omega) ha hy e he het
theorem lX.fin{g:Gl}{MX:Nat->Prop}{LF:List Int}{Q:List Nat}{c:Nat}(h:lX g MX LF Q Q.length c)(hc:c<=100000)(hE:∀e∈g.es,0<=e.f/\0<=e.t/\e.t<g.n){s k:Nat}(hd:qK g.es MX s k):s<g.n.toNat->∃y:Nat,LF[s]?=some (y:Int)/\y<=k/\y<=c/\qK g.es MX s y:=by
 induction hd with
 | base hm=>exact fun hs=>⟨0,h.m _ hs hm,aY _,Nat.zero_le _,.base hm⟩
 | @step s e k he hf hd ih=>
  intro hs;have hE1:=hE e he;obtain⟨y,h1,h2,V7,h3⟩:=ih (by omega);have hq:e.t.toNat∈Q:=(h.q _).2 ⟨_,h1,fun e9=>by unfold cP at e9;omega⟩;obtain⟨i,hi⟩:=Yf.1 hq;obtain⟨z,h4,h5⟩:=h.cl i e.t.toNat _ (Ya.1 hi).1 hi h1 e he (by omega);have Km:e.f.toNat=s:=by omega
  rw[Km] at h4;rcases h.d s z h4 with rfl | ⟨k',rfl,h6,h7⟩
  .unfold cP at h5;omega
  .exact⟨k',h4,by omega,h7,h6⟩
theorem lX.XX{g:Gl}{MX:Nat->Prop}{LF:List Int}{Q:List Nat}{c:Nat}(h:lX g MX LF Q Q.length c)(hc:c<=100000)(hE:∀e∈g.es,0<=e.f/\0<=e.t/\e.t<g.n){s:Nat}(hs:s<g.n.toNat):
  (LF[s]?=some cP/\∀k,¬qK g.es MX s k)\/∃k:Nat,LF[s]?=some (k:Int)/\fy g.es MX s k/\k<=c:=by
 obtain⟨x,hx⟩:=get_some (l:=LF) (i:=s) (by rw[h.ln];exact hs);rcases h.d s x hx with rfl | ⟨k,rfl,h1,h2⟩
 .refine .inl ⟨hx,fun k hk=>?_⟩;obtain⟨y,h3,_,h4,_⟩:=h.fin hc hE hk hs;rw[hx] at h3;have:=eU h3;unfold cP at this;omega
 .refine .inr ⟨k,hx,⟨h1,fun j hj=>?_⟩,h2⟩;obtain⟨y,h3,h4,_⟩:=h.fin hc hE hj hs;rw[hx] at h3;have:=eU h3;omega
theorem fy.next{es:List Ed}{MX:Nat->Prop}{s k:Nat}(h:fy es MX s (k+1)):∃e∈es,e.f=(s:Int)/\fy es MX e.t.toNat k:=by
 obtain⟨hd,hl⟩:=h;cases hd with
 | step he hf hn=>exact⟨_,he,hf,hn,fun j hj=>by have:=hl _ (.step he hf hj);omega⟩
theorem fy.uniq{es:List Ed}{MX:Nat->Prop}{s k n:Nat}(h1:fy es MX s k)(h2:fy es MX s n):k=n:=Nat.le_antisymm (h1.2 n h2.1) (h2.2 k h1.1)
theorem lX.init{g:Gl}{MX:Nat->Prop}{LF:List Int}{Q:List Nat}{c:Nat}(ln:LF.length=g.n.toNat)(h:∀s:Nat,s<g.n.toNat->(MX s/\LF[s]?=some 0/\s∈Q)\/(¬MX s/\LF[s]?=some cP/\s∉Q))(hq:∀s∈Q,s<g.n.toNat)(nd:Q.Nodup):lX g MX LF Q 0 c:=by
 have hv:∀ {s:Nat} {x:Int},s∈Q->LF[s]?=some x->x=0:=fun {s x} hs hx=>by
  rcases h s (hq s hs) with ⟨_,h2,_⟩ | ⟨_,_,h2⟩
  .rw[hx] at h2;exact eU h2
  .exact absurd hs h2
 refine⟨ln,fun s x hx=>?_,fun s=>?_,nd,fun s hs hm=>?_,fun i j s t x y _ hs ht hx hy=>?_,fun s t x y hs ht hx hy=>?_,fun i t x hi=>by omega⟩
 .have hs:s<g.n.toNat:=by rw[<-ln];exact (Ya.1 hx).1
  rcases h s hs with ⟨h1,h2,_⟩ | ⟨_,h2,_⟩
  .rw[hx] at h2;exact .inr ⟨0,eU h2,.base h1,Nat.zero_le _⟩
  .rw[hx] at h2;exact .inl (eU h2)
 .constructor
  .intro hs;rcases h s (hq s hs) with ⟨_,h2,_⟩ | ⟨_,_,h2⟩
   .exact⟨0,h2,by unfold cP;decide⟩
   .exact absurd hs h2
  .rintro⟨x,hx,hf⟩;have hs:s<g.n.toNat:=by rw[<-ln];exact (Ya.1 hx).1
   rcases h s hs with ⟨_,_,h2⟩ | ⟨_,h2,_⟩
   .exact h2
   .rw[hx] at h2;exact absurd (eU h2) hf
 .rcases h s hs with ⟨_,h2,_⟩ | ⟨h2,_,_⟩
  .exact h2
  .exact absurd hm h2
 .rw[hv (Yb hs) hx,hv (Yb ht) hy];exact Int.le_refl _
 .rw[hv (Yb hs) hx,hv ht hy];omega
end Go.VC
end

section
namespace Go.VC
open Go.Proofs Go.LexS
theorem M5(b:Nat)(g:Gl)(k:Nat)(x:Ed)(LF:List Int)(lf:Sl)(s:Nat)(GU kd:Int)(c0 c1 c2:Addr)(h:Heap)(h0:hc h c0=some (Value.slice lf.a lf.n lf.c))(h1:hc h c1=some (Value.pointer (some ⟨b,0,none⟩)))(h2:hc h c2=some (Value.int .i64 (s:Nat)))
  (Cp:hc h ⟨b,6,none⟩=some (Value.slice g.he.a g.he.n g.he.c)) (hg:GI h g) (hr:Rw h 1 lf (LF.map a6)) (hk:g.es[k]?=some x) (ht:0<=x.t) (hx:LF[x.t.toNat]?=some GU) (hs:LF[s]?=some kd) (hb:0<=kd/\kd<=cP) :
  Fn Pz 173 #[.int .i64 (k:Nat),.pointer (some c0),.pointer (some c1),.pointer (some c2)] h fun v h'=>v=.bool (decide (GU=kd-1))/\Ext h h':=by
 apply Qg (k:Nat) c0 c1 c2;unfold UA;have rH:=(Ya.1 hk).1;have Ck:=(Ya.1 hx).1;have pt:=(Ya.1 hs).1;have qk:=hg.e.ln;have R5:=hr.ln;unfold cP at hb;refine⟨lf,h0,some ⟨b,0,none⟩,h1,?_⟩;show ∃x4:Sl,hc h ⟨b,0+6,none⟩=some (.slice x4.a x4.n x4.c)/\_;refine⟨g.he,Cp,?_⟩;refine hg.e.rw.aF (by omega) (by omega) fun b5 o6 x' gx u=>?_;replace gx:g.es[k]?=some x':=gx;rw[hk] at gx;cases gx;refine⟨x.t,u.nth 4 rfl,?_⟩;refine hr.aF (by omega) (by omega) fun b8 o9 d gd u2=>?_;rw[hx] at gd;cases gd;refine⟨GU,u2.hd,lf,h0,(s:Nat),h2,?_⟩;refine hr.aF (by omega) (by omega) fun b13 o14 d gd u3=>?_;replace gd:LF[s]?=some d:=gd;rw[hs] at gd;cases gd;refine⟨kd,u3.hd,?_,.cD⟩;rw[aZ (by omega) (by omega)];congr 1
theorem Ni:au Pz 173=true:=by kernel_rfl
def Dz(LF:List Int)(es:List Ed)(kd:Int)(k:Nat):Bool:=decide (LF.getD (eA es k).t.toNat 0=kd-1)
theorem uz(b:Nat)(g:Gl)(L:List Nat)(LF:List Int)(lf:Sl)(s:Nat)(kd:Int)(c0 c1 c2:Addr)(sl:Sl)(h:Heap)(hL:Rw h 1 sl ((aK L).map a6))(hl:L.length<=1048576)(h0:hc h c0=some (Value.slice lf.a lf.n lf.c))(h1:hc h c1=some (Value.pointer (some ⟨b,0,none⟩)))(h2:hc h c2=some (Value.int .i64 (s:Nat)))
  (Cp:hc h ⟨b,6,none⟩=some (Value.slice g.he.a g.he.n g.he.c)) (hg:GI h g) (hr:Rw h 1 lf (LF.map a6)) (hk:∀k∈L,k<g.es.length) (hE:∀x∈g.es,0<=x.t/\x.t.toNat<LF.length) (hs:LF[s]?=some kd) (hb:0<=kd/\kd<=cP) :
  Fn Pz 172 #[.slice sl.a sl.n sl.c,.func (.func 173) #[] #[.pointer (some c0),.pointer (some c1),.pointer (some c2)]] h fun v h'=>v=.int .i64 (rC (Dz LF g.es kd) L)/\Ext h h':=by
 apply Qh;unfold UB;have VK:sl.n=L.length:=by have:=hL.ln;unfold aK at this;rwa [Yc] at this
 refine⟨fun x h' μ=>∃i:Nat,x=i/\μ=sl.n-i/\i<=sl.n/\Ext h h'/\∀(j:Nat) (y:Nat),j<i->L[j]?=some y->Dz LF g.es kd y=false,⟨_,0,rfl,rfl,Nat.zero_le _,.cD,fun j y hj=>by omega⟩,?_⟩;rintro-_ h5 μ ⟨i,rfl,rfl,hi,E,hd⟩;refine aQ (fun c=>?_) (fun c=>?_)
 .refine (hL.ext E).aF (by omega) (by omega) fun b6 o7 d gd t=>?_;obtain⟨k,gk,rfl⟩:=bS gd;replace gk:L[i]?=some k:=gk;obtain⟨x,hx⟩:=get_some (hk k (Yb gk));have Cl:=hE x (Yb hx);obtain⟨GU,Ru⟩:=get_some Cl.2;refine⟨(k:Int),t.hd,?_⟩;show cond (au Pz 173) _ _;rw[Ni,cond_true];refine (M5 b g k x LF lf s GU kd c0 c1 c2 h5 (aw E h0) (aw E h1) (aw E h2) (aw E Cp) (hg.ext E) (hr.ext E) hx Cl.1 Ru hs hb).mono ?_;rintro _ fR ⟨rfl,E2⟩;have pA:Dz LF g.es kd k=decide (GU=kd-1):=by
   unfold Dz;rw[aI hx,Yo,Ru];rfl
  refine⟨_,rfl,aa (fun c1=>⟨?_,E.trans E2⟩) (fun c1=>⟨_,by omega,i+1,by rw[aZ (by omega) (by omega)];omega,rfl,by omega,E.trans E2,fun j y hj hy=>?_⟩)⟩
  .unfold rC;rw[nU hd gk (by rw[pA];exact c1)]
  .by_cases e1:j=i
   .subst e1;rw[gk] at hy;cases hy;rw[pA];exact c1
   .exact hd j y (by omega) hy
 .refine⟨?_,E⟩;unfold rC;rw[y6 fun j y hj=>hd j y (by have:=(Ya.1 hj).1;omega) hj]
theorem Nh:au Pz 175=true:=by kernel_rfl
theorem D4(L:List Ev)(s:Sl)(h:Heap)(hr:Rw h 3 s (L.map Ev.cs))(hl:L.length<=1048576):
  Fn Pz 174 #[.slice s.a s.n s.c,.func (.func 175) #[] #[]] h fun v h'=>v=.int .i64 (rC (fun x=>!x.send) L)/\Ext h h':=by
 apply Qf;unfold Uz;have hn:=hr.ln;refine⟨fun x h' μ=>∃i:Nat,x=i/\μ=s.n-i/\i<=s.n/\Ext h h'/\∀(j:Nat) (y:Ev),j<i->L[j]?=some y->(!y.send)=false,⟨_,0,rfl,rfl,Nat.zero_le _,.cD,fun j y hj=>by omega⟩,?_⟩;rintro-_ h5 μ ⟨i,rfl,rfl,hi,E,hd⟩;refine aQ (fun c=>?_) (fun c=>?_)
 .refine (hr.ext E).aF (by omega) (by omega) fun b6 o7 q g t=>?_;replace g:L[i]?=some q:=g;refine⟨q.send,q.peer,q.label,t,?_⟩;show cond (au Pz 175) _ _;rw[Nh,cond_true];show Fn Pz 175 #[.agg ⟨q.cs⟩] h5 _;apply Qe q.send q.peer q.label;unfold Uy;refine (St.refl h5).aq fun h4 hs=>?_;refine⟨q.send,hs.rd 0 rfl (i:=0) rfl,?_⟩;refine⟨_,rfl,aa (fun c1=>⟨?_,E.trans hs.ext⟩) (fun c1=>⟨_,by omega,i+1,by rw[aZ (by omega) (by omega)];omega,rfl,by omega,E.trans hs.ext,fun j y hj hy=>?_⟩)⟩
  .unfold rC;rw[nU hd g c1]
  .by_cases e1:j=i
   .subst e1;rw[g] at hy;cases hy;exact c1
   .exact hd j y (by omega) hy
 .refine⟨?_,E⟩;unfold rC;rw[y6 fun j y hj=>hd j y (by have:=(Ya.1 hj).1;omega) hj]
abbrev Hc:=Sl × List Int
def nN(ib lb h1b hb b:Nat)(IN:List Hc)(lf:Sl)(LF:List Int)(q:Sl)(Q:List Nat):List It:=
 [.sl q 3 1 ((aK Q).map a6),.af lb [.slice lf.a lf.n lf.c] 102,.sl lf 3 1 (LF.map a6),.af ib ((IN.map Prod.fst).map iA) 102,.af h1b gA.cs 35,.af hb [.pointer (some ⟨b,0,none⟩)] 89]++IN.map (nest 3 1 a6)++[]
def H4(f:Fs):Bool:=eE f.l 0&&(f.b || !eE f.l (f.l.length-1))
def oP(X:An)(s:Nat):Prop:=∃f,X.fi[s]?=some f/\H4 f=true
def zc(es:List Ed)(t:Nat):List Int:=(es.filter fun e=>decide (e.t=(t:Int))).map (·.f)
theorem y8{es:List Ed}{t:Nat}{p:Int}:p∈zc es t ↔ ∃e∈es,e.t=(t:Int)/\e.f=p:=by
 unfold zc;rw[Yp];constructor
 .rintro⟨e,he,rfl⟩;rw[List.mem_filter,decide_eq_true_eq] at he;exact⟨e,he.1,he.2,rfl⟩
 .rintro⟨e,he,h1,rfl⟩;exact⟨e,List.mem_filter.2 ⟨he,decide_eq_true h1⟩,rfl⟩
theorem y9(es:List Ed)(t:Nat):(zc es t).length<=es.length:=by unfold zc;rw[Yc];exact List.length_filter_le _ _
theorem Lb(n:Nat):ah Pz 3 n=((List.replicate n (0:Int)).map a6).flatten:=by
 rw[DV,List.map_replicate]
 induction n with
 | zero=>rfl
 | succ n ih=>rw[List.replicate_succ,List.replicate_succ,ss,<-ih];rfl
theorem Ic(n:Nat):ah Pz 102 n=(List.replicate n aB).map iA:=by
 rw[y4,List.map_replicate,List.map_replicate]
 induction n with
 | zero=>rfl
 | succ n ih=>rw[List.replicate_succ,List.replicate_succ,ss,ih];rfl
theorem D8(L:List Int):∀r∈L.map a6,r.length=1:=fun r hr=>by obtain⟨x,_,rfl⟩:=Yp.1 hr;rfl
structure Pa (g:Gl) (IN:List Hc):Prop where
 e:IN.map Prod.snd=(List.range g.n.toNat).map (zc g.es)
theorem Pa.len{g:Gl}{IN:List Hc}(h:Pa g IN):IN.length=g.n.toNat:=by have:=congrArg List.length h.e;simpa using this
theorem Pa.at{g:Gl}{IN:List Hc}(h:Pa g IN){t:Nat}(ht:t<g.n.toNat):∃q,IN[t]?=some q/\q.2=zc g.es t:=by
 obtain⟨q,hq⟩:=get_some (l:=IN) (i:=t) (by rw[h.len];exact ht);have h1:=aN h.e ht;rw[Yd,hq] at h1;exact⟨q,hq,eU h1⟩
theorem Nq{h oL h2 cA h1:Heap}{b:Nat}{g:Gl}{X:An}{IN:List Hc}{lf q0:Sl}{LF0:List Int}{Q0:List Nat}{R:Value->Heap->Prop}
  (hs:St h oL (nN h2.size cA.size h1.size h.size b IN lf LF0 q0 Q0)) (hV:ae g) (hI:Pa g IN) (hB:lX g (oP X) LF0 Q0 0 0)
  (hK:∀(jZ:Heap) (q:Sl) (LF:List Int) (Q:List Nat),St h jZ (nN h2.size cA.size h1.size h.size b IN lf LF q Q)->lX g (oP X) LF Q Q.length 1000->FZ jZ h cA h1 R) :
  NP q0 oL g.n h2 cA h h1 R:=by
 unfold NP;have hN:=hV.num.n;have hM:=hV.num.m;have hE:=hV.num.e;refine⟨fun q x h' μ=>∃(hd:Nat) (LF:List Int) (Q:List Nat),x=(hd:Int)/\μ=g.n.toNat-hd/\hd<=Q.length/\St h h' (nN h2.size cA.size h1.size h.size b IN lf LF q Q)/\lX g (oP X) LF Q hd hd,⟨_,0,LF0,Q0,rfl,rfl,Nat.zero_le _,hs,hB⟩,?_⟩;clear hs hB;rintro-q _ jZ μ ⟨hd,LF,Q,rfl,rfl,hhd,hs,hB⟩;have OQ:=hB.len;have py:=(hs.len 0 (s:=q) (e:=3) (n:=1) (rows:=(aK Q).map a6) rfl (by omega)).1;rw[Yc] at py;have Ly:q.n=Q.length:=by unfold aK at py;rwa [Yc] at py
 refine aQ (fun c=>?_) (fun c=>?_)
 .refine (hs.rows 0 rfl (by omega)).aF (by omega) (by omega) fun b76 o77 d gd u=>?_;obtain⟨t,ht,rfl⟩:=bS gd;replace ht:Q[hd]?=some t:=ht;have Bq:=Yb ht;have Lr:=hB.lt Bq;obtain⟨xx,xm,_,hxc⟩:=hB.val Bq;obtain⟨qi,RO,RM⟩:=hI.at Lr;refine⟨(t:Int),u.hd,⟨by omega,by omega⟩,?_⟩;rw[show 0+Int.toNat ((t:Nat):Int)*1=t by omega];refine⟨qi.1,hs.rd 3 rfl (by rw[Yd,Yd,RO];rfl),?_⟩;have jY:∀ {LF:List Int} {q:Sl} {Q:List Nat},.sl qi.1 3 1 (qi.2.map a6)∈nN h2.size cA.size h1.size h.size b IN lf LF q Q:=fun {LF q Q}=>by
   unfold nN;exact List.mem_append_left _ (List.mem_append_right _ (Yp.2 ⟨qi,Yb RO,rfl⟩))
  have dQ:qi.1.n=(zc g.es t).length:=by
   have:=(hs.Dd jY (by omega)).1
   rwa [Yc,RM] at this
  have wh:=y9 g.es t;unfold Vf;refine⟨fun q x h' μ=>∃(j:Nat) (LF:List Int) (Q:List Nat),x=(j:Int)/\μ=qi.1.n-j/\j<=qi.1.n/\St h h' (nN h2.size cA.size h1.size h.size b IN lf LF q Q)/\lX g (oP X) LF Q hd (hd+1)/\Q[hd]?=some t/\LF[t]?=some (xx:Int)/\∀(i:Nat) p,i<j->(zc g.es t)[i]?=some p->∃y,LF[p.toNat]?=some y/\y<=xx+1,⟨_,0,LF,Q,rfl,rfl,Nat.zero_le _,hs,hB.Pg (by omega),ht,xm,fun i p hi=>by omega⟩,?_⟩;clear hs hB OQ py Ly hhd xm ht Bq gd u c;rintro-q h85 h85' μ ⟨j,LF,Q,rfl,rfl,hj,hs,hB,ht,xm,OE⟩;have OQ:=hB.len;have LV:=(Ya.1 ht).1;have py:=(hs.len 0 (s:=q) (e:=3) (n:=1) (rows:=(aK Q).map a6) rfl (by omega)).1;rw[Yc] at py;have Ly:q.n=Q.length:=by unfold aK at py;rwa [Yc] at py
  have Bx:=(hs.len 2 (s:=lf) (e:=3) (n:=1) (rows:=LF.map a6) rfl (by omega)).1;rw[Yc,hB.ln] at Bx;refine aQ (fun c=>?_) (fun c=>?_)
  .refine (hs.Dd jY (by omega)).aF (by omega) (by omega) fun b86 o87 p gp u=>?_;rw[RM] at gp;replace gp:(zc g.es t)[j]?=some p:=gp;obtain⟨e,he,het,LS⟩:=y8.1 (Yb gp);have jT:=hE e he;unfold gN at jT;obtain⟨p',pz⟩:∃p':Nat,p=(p':Int):=⟨p.toNat,by omega⟩;subst pz;refine⟨(p':Int),u.hd,lf,hs.rd 1 rfl (i:=0) rfl,?_⟩;refine (hs.rows 2 rfl (by omega)).aF (by omega) (by omega) fun b90 o91 v gv u2=>?_;replace gv:LF[p']?=some v:=gv;refine⟨v,u2.hd,eh (fun c2=>?_) (fun c2=>?_)⟩
   .have YA:LF[p']?=some cP:=by rw[gv,c2];rfl
    refine⟨lf,hs.rd 1 rfl (i:=0) rfl,lf,hs.rd 1 rfl (i:=0) rfl,?_⟩;refine (hs.rows 0 rfl (by omega)).aF (by omega) (by omega) fun b95 o96 d gd u3=>?_;obtain⟨t',oG,rfl⟩:=bS gd;replace oG:Q[hd]?=some t':=oG;rw[ht] at oG;cases oG;refine⟨(t:Int),u3.hd,?_⟩;refine (hs.rows 2 rfl (by omega)).aF (by omega) (by omega) fun b98 o99 w gw u4=>?_;replace gw:LF[t]?=some w:=gw;rw[xm] at gw;cases gw;refine⟨(xx:Int),u4.hd,?_⟩;rw[aZ (by omega) (by omega)];refine hs.set 2 rfl (by omega) (x:=(p':Int)) (by omega) (by omega) ((xx:Int)+1) rfl rfl (fun Wk Oh SP hs=>?_) rfl;have hs:St h SP (nN h2.size cA.size h1.size h.size b IN lf (LF.set p' ((xx:Int)+1)) q Q):=hs;refine hs.app 0 rfl jv (m:=1) [a6 (p':Int)] rfl rfl (fun r hr=>by rw[Ye] at hr;rw[hr];rfl) rfl (by omega) (by simp only[maxLen];omega) fun abp rQ n105 hs=>?_;have hB':=hB.put ht xm (by omega) (by omega) he het (s:=p') LS YA;refine⟨_,?_,j+1,_,Q++[p'],by rw[aZ (by omega) (by omega)];omega,rfl,by omega,?_,hB',by rw[jw LV];exact ht,?_,fun i r hi gr=>?_⟩
    .omega
    .have e9:(aK (Q++[p'])).map a6=(aK Q).map a6++[a6 (p':Int)]:=by rw[iE,Ym];rfl
     unfold nN;rw[e9];exact hs
    .rw[Yy (fun e9=>by subst e9;rw[YA] at xm;have:=eU xm;unfold cP at this;omega)];exact xm
    .by_cases e9:i=j
     .subst e9;rw[gp] at gr;cases gr;refine⟨(xx:Int)+1,?_,Int.le_refl _⟩;rw[Ys];exact Yq (by rw[hB.ln];omega)
     .obtain⟨y,h5,h6⟩:=OE i r (by omega) gr;by_cases e10:p'=r.toNat
      .rw[<-e10,YA] at h5;have:=eU h5;unfold cP at this;omega
      .exact⟨y,by rw[Yy e10];exact h5,h6⟩
   .refine⟨_,?_,j+1,LF,Q,by rw[aZ (by omega) (by omega)];omega,rfl,by omega,hs,hB,ht,xm,fun i r hi gr=>?_⟩
    .omega
    .by_cases e9:i=j
     .subst e9;rw[gp] at gr;cases gr;refine⟨v,gv,hB.hi t p' _ v ht ((hB.q p').2 ⟨v,gv,c2⟩) xm gv⟩
     .exact OE i r (by omega) gr
  .refine⟨_,?_,hd+1,LF,Q,by rw[aZ (by omega) (by omega)];omega,rfl,by omega,hs,hB.next ht xm fun e he het=>?_⟩
   .omega
   .obtain⟨i,hi⟩:=Yf.1 (y8.2 ⟨e,he,het,rfl⟩);have:=(Ya.1 hi).1;exact OE i e.f (by omega) hi
 .have:hd=Q.length:=by omega
  subst this;exact hK jZ q LF Q hs (hB.Pg (by omega))
theorem pJ{a:Addr}{F:Addr->Prop}(h:F a):NC (some a) F:=h
theorem Lf{h aA h2 cA h1:Heap}{b:Nat}{g:Gl}{role:Int}{X:An}{IN:List Hc}{lf:Sl}{R:Value->Heap->Prop}
  (hs:St h aA (nN h2.size cA.size h1.size h.size b IN lf (List.replicate g.n.toNat 0) aB [])) (hA:s7 h b g role X) (hV:ae g) (hI:Pa g IN)
  (hK:∀(jZ:Heap) (q:Sl) (LF:List Int) (Q:List Nat),St h jZ (nN h2.size cA.size h1.size h.size b IN lf LF q Q)->lX g (oP X) LF Q Q.length 1000->FZ jZ h cA h1 R) :
  NQ aA cA h g.n h2 h1 R:=by
 unfold NQ;have hN:=hV.num.n;have Bx:=(hs.len 2 (s:=lf) (e:=3) (n:=1) (rows:=(List.replicate g.n.toNat 0).map a6) rfl (by omega)).1;rw[Yc,Yg] at Bx;refine⟨lf,hs.rd 1 rfl (i:=0) rfl,?_⟩;refine⟨fun q x h' μ=>∃(s:Nat) (LF:List Int) (Q:List Nat),x=(s:Int)/\μ=g.n.toNat-s/\s<=g.n.toNat/\St h h' (nN h2.size cA.size h1.size h.size b IN lf LF q Q)/\LF.length=g.n.toNat/\(∀t:Nat,t<s->(oP X t/\LF[t]?=some 0/\t∈Q)\/(¬oP X t/\LF[t]?=some cP/\t∉Q))/\(∀t∈Q,t<s)/\Q.Nodup/\Q.length<=s,
  ⟨_,0,_,[],rfl,rfl,Nat.zero_le _,hs,by rw[Yg],fun t ht=>by omega,fun t ht=>(by cases ht),.nil,aY _⟩,?_⟩
 clear hs;rintro-q _ oL μ ⟨s,LF,Q,rfl,rfl,jU,hs,IK,ch,hQs,Iy,OQ⟩;refine aQ (fun c=>?_) (fun c=>?_)
 .refine⟨lf,hs.rd 1 rfl (i:=0) rfl,?_⟩;refine hs.set 2 rfl (by omega) (x:=(s:Int)) (by omega) (by omega) cP rfl rfl (fun Wk Oh n4 hs=>?_) rfl;have hs:St h n4 (nN h2.size cA.size h1.size h.size b IN lf (LF.set s cP) q Q):=hs;refine⟨some ⟨b,0,none⟩,hs.rd 5 rfl (i:=0) rfl,pJ ⟨X.bO,aw hs.ext hA.r.f,?_⟩⟩;have Ct:=hA.r.rf.ln;have YW:=hA.nf;refine (hA.r.rf.ext hs.ext).rw.aF (by omega) (by omega) fun b54 o55 f gf u=>?_;replace gf:X.fi[s]?=some f:=gf;have ie:=hA.r.re f (Yb gf);refine⟨f.s,f.b,u,?_⟩;refine (DR f.l f.b f.s n4 (ie.ext hs.ext).rw ie.sm).mono ?_;rintro _ V6 ⟨rfl,E⟩;replace hs:=hs.step E;have wg:oP X s ↔ H4 f=true:=⟨fun ⟨f',h1,h2⟩=>by rw[gf] at h1;cases h1;exact h2,fun h9=>⟨f,gf,h9⟩⟩;have Sx:∀(v:Int) (t:Nat),t<s->((LF.set s cP).set s v)[t]?=LF[t]?:=fun v t ht=>by rw[Yy (by omega),Yy (by omega)]
  refine⟨_,rfl,aa (fun c2=>?_) (fun c2=>?_)⟩
  .refine⟨lf,hs.rd 1 rfl (i:=0) rfl,?_⟩;refine hs.set 2 rfl (by omega) (x:=(s:Int)) (by omega) (by omega) (0:Int) rfl rfl (fun Wk Oh V5 hs=>?_) rfl;have hs:St h V5 (nN h2.size cA.size h1.size h.size b IN lf ((LF.set s cP).set s 0) q Q):=hs;have py:=(hs.len 0 (s:=q) (e:=3) (n:=1) (rows:=(aK Q).map a6) rfl (by omega)).1;rw[Yc] at py;have Ly:q.n=Q.length:=by unfold aK at py;rwa [Yc] at py
   refine hs.app 0 rfl jv (m:=1) [a6 (s:Int)] rfl rfl (fun r hr=>by rw[Ye] at hr;rw[hr];rfl) rfl (by omega) (by simp only[maxLen];omega) fun s66 ZM n66 hs=>?_;refine⟨_,?_,s+1,(LF.set s cP).set s 0,Q++[s],by rw[aZ (by omega) (by omega)];omega,rfl,by omega,?_,by rw[mF,mF];exact IK,fun t ht=>?_,fun t ht=>?_,?_,by rw[Yh,Yv];omega⟩
   .omega
   .have e9:(aK (Q++[s])).map a6=(aK Q).map a6++[a6 (s:Int)]:=by rw[iE,Ym];rfl
    unfold nN;rw[e9];exact hs
   .by_cases e:t=s
    .subst e;exact .inl ⟨wg.2 c2,Yq (by rw[mF];omega),by simp⟩
    .rw[Sx 0 t (by omega),Yk,Ye];exact (ch t (by omega)).imp (fun ⟨h1,h2,h3⟩=>⟨h1,h2,.inl h3⟩) (fun ⟨h1,h2,h3⟩=>⟨h1,h2,fun h9=>h9.elim h3 e⟩)
   .rcases Yk.1 ht with ht | ht
    .have:=hQs t ht;omega
    .rw[Ye] at ht;omega
   .rw[List.nodup_append];exact⟨Iy,by simp,fun a ha b hb e=>by rw[Ye] at hb;have:=hQs a ha;omega⟩
  .refine⟨_,?_,s+1,LF.set s cP,Q,by rw[aZ (by omega) (by omega)];omega,rfl,by omega,hs,by rw[mF];exact IK,fun t ht=>?_,fun t ht=>?_,Iy,by omega⟩
   .omega
   .by_cases e:t=s
    .subst e;exact .inr ⟨fun h9=>(by rw[wg] at h9;unfold H4 at h9;rw[h9] at c2;cases c2),Yq (by omega),fun h9=>by have:=hQs t h9;omega⟩
    .rw[Yy (by omega)];exact ch t (by omega)
   .have:=hQs t ht;omega
 .have:s=g.n.toNat:=by omega
  subst this;exact Nq hs hV hI (.init IK ch hQs Iy) hK
theorem Bh{b:Nat}{g:Gl}{role:Int}{X:An}{h:Heap}{R:Value->Heap->Prop}(hA:s7 h b g role X)(hV:ae g)
  (hK:∀(jZ cA h1 h2:Heap) (IN:List Hc) (lf q:Sl) (LF:List Int) (Q:List Nat),St h jZ (nN h2.size cA.size h1.size h.size b IN lf LF q Q)->lX g (oP X) LF Q Q.length 1000->FZ jZ h cA h1 R) :
  Fn Pz 97 #[.pointer (some ⟨b,0,none⟩)] h R:=by
 apply WJ ⟨b,0,none⟩;unfold W97;have hN:=hV.num.n;have hM:=hV.num.m;have hE:=hV.num.e;have hg:=hA.gg.gi;have qk:=hg.e.ln;have wg:g.n.toNat<=9223372036854775807:=by omega
 refine (St.refl h).aq fun h1 hs=>?_;refine hs.aq fun h2 hs=>?_;refine⟨some ⟨b,0,none⟩,hs.rd 1 rfl (i:=0) rfl,pJ ⟨g.n,aw hs.ext (hA.gg.at_.nth 3 rfl),⟨by omega,by omega,by omega⟩,?_⟩⟩;refine hs.aq fun h6 hs=>?_;refine⟨some ⟨b,0,none⟩,hs.rd 2 rfl (i:=0) rfl,pJ ⟨g.n,aw hs.ext (hA.gg.at_.nth 3 rfl),⟨by omega,by omega,by omega⟩,?_⟩⟩;refine hs.aq fun cA hs=>?_;refine hs.ai (vs:=[.slice (some ⟨h6.size,0,none⟩) g.n.toNat g.n.toNat]) rfl rfl fun SN hs=>?_;have hs:=hs.qF 1 rfl g.n.toNat 1 ((List.replicate g.n.toNat (0:Int)).map a6) (Lb _) (D8 _) (by rw[Yc,Yg]) wg;have hs:=hs.cN 3 1;have hs:=hs.tS (α:=Int) (e:=3) (k:=1) (cs:=a6) (A:=[_,_,_,_,_,_]) (B:=[]) g.n.toNat;generalize hlf:(⟨some ⟨h6.size,0,none⟩,g.n.toNat,g.n.toNat⟩:Sl)=lf at *;have hs:St h SN (nN h2.size cA.size h1.size h.size b (List.replicate g.n.toNat (aB,[])) lf (List.replicate g.n.toNat 0) aB []):=by
  subst hlf;unfold nN;rw[List.map_replicate (f:=Prod.fst),<-Ic];exact hs
 clear hlf;refine⟨some ⟨b,0,none⟩,hs.rd 5 rfl (i:=0) rfl,pJ ⟨g.he,aw hs.ext (hA.gg.at_.nth 6 rfl),?_⟩⟩;refine⟨fun x h' μ=>∃(j:Nat) (IN:List Hc),x=(j:Int)/\μ=g.es.length-j/\j<=g.es.length/\IN.map Prod.snd=((List.range g.n.toNat).map (zc (g.es.take j)))/\St h h' (nN h2.size cA.size h1.size h.size b IN lf (List.replicate g.n.toNat 0) aB []),
  ⟨_,0,_,rfl,rfl,Nat.zero_le _,?_,hs⟩,?_⟩
 .rw[List.map_replicate];apply wm;intro s;rw[List.getElem?_replicate,Yd];by_cases hs:s<g.n.toNat
  .rw[if_pos hs,xX hs];rfl
  .rw[if_neg hs,Yl (by rw[mG];omega)];rfl
 clear hs;rintro-_ aA μ ⟨j,IN,rfl,rfl,hj,hIN,hs⟩;have hIl:IN.length=g.n.toNat:=by have:=congrArg List.length hIN;simpa using this
 refine aQ (fun c=>?_) (fun c=>?_)
 .refine (hg.e.rw.ext hs.ext).aF (by omega) (by omega) fun b21 o22 x gx u=>?_;replace gx:g.es[j]?=some x:=gx;have jT:=hE x (Yb gx);unfold gN at jT;obtain⟨q,hq⟩:=get_some (l:=IN) (i:=x.t.toNat) (by omega);refine⟨_,_,_,_,_,_,u,?_⟩;refine hs.ai (vs:=x.cs) rfl rfl fun Ky hs=>?_;refine⟨x.t,hs.rd 0 rfl (i:=4) rfl,x.t,hs.rd 0 rfl (i:=4) rfl,⟨by omega,by omega⟩,?_⟩;rw[show 0+Int.toNat x.t*1=x.t.toNat by omega];refine⟨q.1,hs.rd 4 rfl (by rw[Yd,Yd,hq];rfl),x.f,hs.rd 0 rfl (i:=0) rfl,?_⟩;refine hs.ak fun bx E35 hs=>⟨E35.sm,?_⟩;have hs:St h bx ((.af Ky.size [.int .i64 x.f] 3 :: .af aA.size x.cs 67::[.sl aB 3 1 ((aK []).map a6),.af cA.size [.slice lf.a lf.n lf.c] 102,.sl lf 3 1 ((List.replicate g.n.toNat 0).map a6),.af h2.size ((IN.map Prod.fst).map iA) 102,.af h1.size gA.cs 35,.af h.size [.pointer (some ⟨b,0,none⟩)] 89])++IN.map (nest 3 1 a6)++[]):=hs;have py:=(hs.lF hq (by omega)).ln;have jX:q.2=zc (g.es.take j) x.t.toNat:=by
   have h1:=aN hIN (s:=x.t.toNat) (by omega);rw[Yd,hq] at h1;exact eU h1
  have Ei:q.2.length<=400:=by rw[jX];refine mQ (y9 _ _) ?_;rw[Yu];omega
  refine hs.nL hq jv x.f (hs.at 0 rfl (o:=0) (n:=1) rfl) rfl rfl (by omega) (by simp only[maxLen];omega) fun r qs hr mg=>?_;refine⟨fT (hs.same mg 1 1 rfl rfl) lu,⟨by omega,by omega⟩,?_⟩;refine mg.put 5 rfl (o:=x.t.toNat) (vs:=[iA r]) rfl (by rw[Yc,Yc,Yv];omega) fun sU hs=>?_;rw[fW iA (by rw[Yc];omega)] at hs;refine⟨_,by omega,j+1,IN.set x.t.toNat (r,q.2++[x.f]),by rw[aZ (by omega) (by omega)];omega,rfl,by omega,?_,?_⟩
  .rw[List.map_set,hIN];refine ep (by omega) ?_ fun t ht=>?_
   .unfold zc;rw[aj gx,List.filter_append,Ym,jX];unfold zc;rw[List.filter_cons_of_pos (by rw[decide_eq_true_eq];omega)];rfl
   .unfold zc;rw[aj gx,List.filter_append,Ym,List.filter_cons_of_neg (by rw[decide_eq_true_eq];omega)];exact Yw _
  .have hs:=hs.drop 2;unfold nN;rw[List.map_set (f:=Prod.fst)];exact hs
 .rw[Yj (by omega)] at hIN;exact Lf hs hA hV ⟨hIN⟩ fun jZ q LF Q hs hB=>hK jZ cA h1 h2 IN lf q LF Q hs hB
inductive GS (es:List Ed) (LF:List Int) (s0:Nat):List Nat->Nat->Prop
 | nil:GS es LF s0 [] s0
 | snoc {ks:List Nat} {s:Nat} {x:Int} {j i:Nat}:GS es LF s0 ks s->LF[s]?=some x->0<x->(ao es (s:Nat)).findIdx? (Dz LF es x)=some j->(ao es (s:Nat))[j]?=some i->GS es LF s0 (ks++[i]) (eA es i).t.toNat
def kQ(es:List Ed)(ks:List Nat):List Ac:=ks.map fun i=>(eA es i).act
def JW(role:Int)(l:List Ev):Au:=(l.find? fun x=>!x.send).elim ⟨-1,false,0,0⟩ (aR role)
def Ol(wb sb:Nat)(role:Int)(wf:Sl)(s:Nat)(F:List Ac)(R:List It):List It:=
 .sl wf 65 3 (F.map Ac.cs) :: .af wb (Wt.cs ⟨2,role,wf,aB,cL,cL⟩) 35 :: .af sb [.int .i64 (s:Nat)] 3::R
theorem IW{xD h jZ rP h1 h2 cA:Heap}{b:Nat}{g:Gl}{role:Int}{X:An}{wf lf q:Sl}{s:Nat}{F:List Ac}{IN:List Hc}{LF:List Int}{Q:List Nat}{f:Fs}{Hh:Int}{R:Value->Heap->Prop}
  (hs:St h xD (Ol rP.size jZ.size role wf s F (nN h2.size cA.size h1.size h.size b IN lf LF q Q))) (hA:s7 h b g role X) (hf:X.fi[s]?=some f) (hm:H4 f=true)
  (hK:∀(h':Heap) (w:Wt) (e0:Ev) (L:List It),w.k=2->w.r=role->f.l[0]?=some e0->w.e=aR role e0->w.o=JW role f.l->St h h' (.sl w.f 65 3 (F.map Ac.cs) :: .sl w.s 65 3 (([]:List Ac).map Ac.cs)::L)->R (.tuple ⟨[.agg ⟨w.cs⟩,.int .i64 (IntKind.wrap .i64 (2*Hh))]⟩) h') :
  NR xD h jZ rP h1 R Hh:=by
 unfold NR;have Cp:hc h ⟨b,8,none⟩=some (Value.int .i64 role):=hA.r.ro;have Ct:=hA.r.rf.ln;have pt:=(Ya.1 hf).1;have ie:=hA.r.re f (Yb hf);have acd:=ie.ln;have oI:0<f.l.length:=by
  rcases Nat.eq_zero_or_pos f.l.length with h9 | h9
  .rw[List.length_eq_zero_iff] at h9;unfold H4 eE at hm;simp[h9] at hm
  .exact h9
 refine⟨some ⟨b,0,none⟩,hs.rd 8 rfl (i:=0) rfl,pJ ⟨X.bO,aw hs.ext hA.r.f,(s:Nat),hs.rd 2 rfl (i:=0) rfl,?_⟩⟩;refine (hA.r.rf.ext hs.ext).rw.aF (by omega) (by omega) fun b54 o55 f' gf u=>?_;replace gf:X.fi[s]?=some f':=gf;rw[hf] at gf;cases gf;refine⟨f.s,f.b,u,?_⟩;refine hs.ak fun acs E hs=>⟨E.sm,?_⟩;refine hs.put 0 rfl (o:=0) (vs:=f.cs) rfl (aY 2) fun ZP hs=>?_;refine⟨some ⟨b,0,none⟩,hs.rd 9 rfl (i:=0) rfl,f.s,hs.rd 0 rfl (i:=0) rfl,?_⟩;refine (ie.ext hs.ext).rw.aF (by omega) (by omega) fun acO abr e0 ge u2=>?_;replace ge:f.l[0]?=some e0:=ge;refine⟨e0.send,e0.peer,e0.label,u2,?_⟩;refine (kN b role e0 ZP (aw hs.ext Cp)).mono ?_;rintro _ acr ⟨E2,rfl⟩;replace hs:=hs.step E2;refine⟨role,e0.send,e0.peer,e0.label,aB,rfl,?_⟩;refine hs.put 2 rfl (o:=4) (vs:=(aR role e0).cs) rfl (by show 4+5<=14;decide) fun acq hs=>?_;refine hs.put 2 rfl (o:=9) (vs:=Au.cs ⟨-1,false,0,0⟩) rfl (by show 9+5<=14;decide) fun EH hs=>?_;refine⟨f.s,hs.rd 0 rfl (i:=0) rfl,?_⟩;refine (D4 f.l f.s EH (ie.ext hs.ext).rw ie.sm).mono ?_;rintro _ Mt ⟨rfl,E3⟩;replace hs:=hs.step E3;refine⟨_,rfl,?_⟩;unfold rC;cases je:f.l.findIdx? fun x=>!x.send with
 | none=>
  have YR:JW role f.l=⟨-1,false,0,0⟩:=by
   unfold JW;rw[List.findIdx?_eq_none_iff] at je;rw[zv fun j y hj=>je y (Yb hj)];rfl
  refine aQ (fun c=>absurd c (by show ¬(-1:Int)>=0;decide)) (fun _=>?_);refine G9 hs 2 8 (w:=⟨2,role,wf,aB,aR role e0,⟨-1,false,0,0⟩⟩) (w0:=gA) rfl rfl fun pE hs=>?_;refine ym (w:=⟨2,role,wf,aB,aR role e0,⟨-1,false,0,0⟩⟩) (Q:=fun cs=>R (.tuple ⟨[.agg ⟨cs⟩,.int .i64 (IntKind.wrap .i64 (2*Hh))]⟩) pE) (hs.at 8 rfl (o:=0) (n:=14) rfl) ?_;have hs:=(hs.drop 1).cN 65 3;exact hK pE ⟨2,role,wf,aB,aR role e0,⟨-1,false,0,0⟩⟩ e0 _ rfl rfl ge rfl YR.symm (hs.perm (List.Perm.swap _ _ _))
 | some i=>
  obtain⟨h1i,h2i,h3i⟩:=List.findIdx?_eq_some_iff_getElem.1 je;obtain⟨e1,Sq⟩:=get_some h1i;have Zi:=(Ya.1 Sq).2;have YR:JW role f.l=aR role e1:=by
   unfold JW;rw[r3 f.l i e1 (fun j y hj hy=>?_) Sq (by rw[<-Zi];exact h2i)]
   .rfl
   .have h9:=h3i j hj;rw[(Ya.1 hy).2] at h9;simpa using h9
  refine aQ (fun c=>?_) (fun c=>absurd (Int.natCast_nonneg i) c);refine⟨some ⟨b,0,none⟩,hs.rd 9 rfl (i:=0) rfl,f.s,hs.rd 0 rfl (i:=0) rfl,?_⟩;refine (ie.ext hs.ext).rw.aF (x:=(i:Int)) (by omega) (by omega) fun acN abq e1' Wc u3=>?_;replace Wc:f.l[i]?=some e1':=Wc;rw[Sq] at Wc;cases Wc;refine⟨e1.send,e1.peer,e1.label,u3,?_⟩;refine (kN b role e1 Mt (aw hs.ext Cp)).mono ?_;rintro _ acp ⟨E4,rfl⟩;replace hs:=hs.step E4;refine⟨role,e1.send,e1.peer,e1.label,aB,rfl,?_⟩;refine hs.put 2 rfl (o:=9) (vs:=(aR role e1).cs) rfl (by show 9+5<=14;decide) fun aco hs=>?_;refine G9 hs 2 8 (w:=⟨2,role,wf,aB,aR role e0,aR role e1⟩) (w0:=gA) rfl rfl fun pE hs=>?_;refine ym (w:=⟨2,role,wf,aB,aR role e0,aR role e1⟩) (Q:=fun cs=>R (.tuple ⟨[.agg ⟨cs⟩,.int .i64 (IntKind.wrap .i64 (2*Hh))]⟩) pE) (hs.at 8 rfl (o:=0) (n:=14) rfl) ?_;have hs:=(hs.drop 1).cN 65 3;exact hK pE ⟨2,role,wf,aB,aR role e0,aR role e1⟩ e0 _ rfl rfl ge rfl YR.symm (hs.perm (List.Perm.swap _ _ _))
theorem Hq{xD h jZ rP h1 h2 cA:Heap}{b:Nat}{g:Gl}{role:Int}{X:An}{wf lf q:Sl}{s j i:Nat}{kd:Int}{F:List Ac}{IN:List Hc}{LF:List Int}{Q:List Nat}{Rj:Nat}{Vi:Heap->Nat->Prop}
  (hs:St h xD (Ol rP.size jZ.size role wf s F (nN h2.size cA.size h1.size h.size b IN lf LF q Q))) (hA:s7 h b g role X) (hV:ae g) (hL:LF.length=g.n.toNat) (jU:s<g.n.toNat) (hx:LF[s]?=some kd) (Ll:0<=kd/\kd<=cP)
  (je:(ao g.es (s:Nat)).findIdx? (Dz LF g.es kd)=some j) (gi:(ao g.es (s:Nat))[j]?=some i) (hF:F.length<=8388608)
  (hI:∀(h':Heap) (Ci:Sl),St h h' (Ol rP.size jZ.size role Ci (eA g.es i).t.toNat (F++[(eA g.es i).act]) (nN h2.size cA.size h1.size h.size b IN lf LF q Q))->∃m9,m9<Rj/\Vi h' m9):NO xD h jZ cA rP Rj Vi:=by
 unfold NO;have hN:=hV.num.n;have hE:=hV.num.e;have hg:=hA.gg.gi;have qk:=hg.e.ln;have we:=cX g.es (s:Nat);have hM:=hV.num.m;have Eg:Rw h 1 (X.os s) ((aK (ao g.es (s:Nat))).map a6):=hA.gg.rs s jU;have YI:=Eg.ln;have aaC:(X.os s).n=(ao g.es (s:Nat)).length:=by rw[YI];exact Yc _
 have LO:=hA.gg.ro.ln;rw[mG] at LO;have Eo:=(Ya.1 gi).1;obtain⟨x,Ip,sQ⟩:=az.1 (Yb gi);have wh:=(Ya.1 Ip).1;have jT:=aI Ip;have Cl:=hE x (Yb Ip);unfold gN at Cl;rw[jT] at hI;have J9:((x.t.toNat:Nat):Int)=x.t:=by omega
 have VN:rC (Dz LF g.es kd) (ao g.es (s:Nat))=(j:Int):=by unfold rC;rw[je]
 have rH:∀k∈ao g.es (s:Nat),k<g.es.length:=fun k hk=>by
  obtain⟨y,hy,_⟩:=az.1 hk;exact (Ya.1 hy).1
 have hEt:∀y∈g.es,0<=y.t/\y.t.toNat<LF.length:=fun y hy=>by have:=hE y hy;unfold gN at this;rw[hL];omega
 have dq:∀ {hX:Heap},Ext h hX->∀ {F:Nat->Nat->Prop},(∀bb o,hc hX ⟨bb,o+Int.toNat ((s:Nat):Int)*1,none⟩=some (iA (X.os s))->F bb o)->NB X.ho.a fun bb o=>(0<=((s:Nat):Int)/\((s:Nat):Int)<(X.ho.n:Nat))/\F bb o:=fun {hX} E {F} hF=>by
  refine (hA.gg.ro.ext E).aF (by omega) (by omega) fun bb o d gd u=>hF bb o ?_;replace gd:(List.range g.n.toNat)[s]?=some d:=gd;rw[xX jU] at gd;cases gd;exact u.hd
 refine⟨some ⟨b,0,none⟩,hs.rd 8 rfl (i:=0) rfl,pJ ⟨g.he,aw hs.ext (hA.gg.at_.nth 6 rfl),?_⟩⟩;refine⟨some ⟨b,0,none⟩,hs.rd 8 rfl (i:=0) rfl,pJ ⟨X.ho,aw hs.ext (hA.gg.at_.nth 9 rfl),?_⟩⟩;refine⟨(s:Nat),hs.rd 2 rfl (i:=0) rfl,dq hs.ext fun aas XU YK=>⟨X.os s,YK,?_⟩⟩;refine⟨some ⟨b,0,none⟩,hs.rd 8 rfl (i:=0) rfl,pJ ⟨X.ho,aw hs.ext (hA.gg.at_.nth 9 rfl),?_⟩⟩;refine⟨(s:Nat),hs.rd 2 rfl (i:=0) rfl,dq hs.ext fun acQ abu rF=>⟨X.os s,rF,?_⟩⟩;have Bx:(0:Nat)<1:=by decide
 refine⟨?_,?_⟩;refine (uz b g (ao g.es (s:Nat)) LF lf s kd ⟨cA.size,0,none⟩ ⟨h.size,0,none⟩ ⟨jZ.size,0,none⟩ (X.os s) xD (Eg.ext hs.ext) (by omega) (hs.rd 4 rfl (i:=0) rfl) (hs.rd 8 rfl (i:=0) rfl) (hs.rd 2 rfl (i:=0) rfl) (aw hs.ext (hA.gg.at_.nth 6 rfl)) (hg.ext hs.ext) (hs.rows 5 rfl (by omega)) rH hEt hx Ll).mono ?_;rintro _ xC ⟨rfl,E⟩;replace hs:=hs.step E;rw[VN];refine⟨_,rfl,E.sm,?_⟩;refine (Eg.ext hs.ext).aF (by omega) (by omega) fun aar XS d gd u=>?_;obtain⟨i',IU,rfl⟩:=bS gd;replace IU:(ao g.es (s:Nat))[j]?=some i':=IU;rw[gi] at IU;cases IU;refine⟨(i:Int),u.hd,?_⟩;refine (hg.e.rw.ext hs.ext).aF (by omega) (by omega) fun aaq XR x' gx u2=>?_;replace gx:g.es[i]?=some x':=gx;rw[Ip] at gx;cases gx;refine⟨_,_,_,_,_,_,u2,?_⟩;refine hs.ak fun acx aaz hs=>⟨aaz.sm,?_⟩;rotate_left;refine hs.ak fun ZR aay hs=>⟨aay.sm,?_⟩;refine (uz b g (ao g.es (s:Nat)) LF lf s kd ⟨cA.size,0,none⟩ ⟨h.size,0,none⟩ ⟨jZ.size,0,none⟩ (X.os s) ZR (Eg.ext hs.ext) (by omega) (hs.rd 5 rfl (i:=0) rfl) (hs.rd 9 rfl (i:=0) rfl) (hs.rd 3 rfl (i:=0) rfl) (aw hs.ext (hA.gg.at_.nth 6 rfl)) (hg.ext hs.ext) (hs.rows 6 rfl (by omega)) rH hEt hx Ll).mono ?_;rintro _ xC ⟨rfl,E⟩;replace hs:=hs.step E;rw[VN];refine⟨_,rfl,E.sm,?_⟩;refine (Eg.ext hs.ext).aF (by omega) (by omega) fun aar XS d gd u=>?_;obtain⟨i',IU,rfl⟩:=bS gd;replace IU:(ao g.es (s:Nat))[j]?=some i':=IU;rw[gi] at IU;cases IU;refine⟨(i:Int),u.hd,?_⟩;refine (hg.e.rw.ext hs.ext).aF (by omega) (by omega) fun aaq XR x' gx u2=>?_;replace gx:g.es[i]?=some x':=gx;rw[Ip] at gx;cases gx;refine⟨_,_,_,_,_,_,u2,?_⟩;all_goals
  refine hs.put 0 rfl (o:=0) (vs:=x.cs) rfl (aY 6) fun acw hs=>?_;refine⟨wf,hs.rd 2 rfl (i:=2) rfl,x.a,x.b,x.l,hs.at 0 rfl (o:=1) (n:=3) rfl,fun acv e2=>?_⟩;refine hs.FN 2 1 rfl rfl qG (x:=x.act) e2 rfl rfl (by omega) (by decide) 2 (by show 2<14;decide) (by decide) fun s' acu hs=>?_;refine⟨x.t,hs.rd 0 rfl (i:=4) rfl,?_⟩;refine hs.put 3 rfl (o:=0) (vs:=[.int .i64 x.t]) rfl (aY 1) fun ZS hs=>hI ZS s' ?_;have hs:=hs.drop 1;unfold Ol;rw[J9];exact hs
def Cf(g:Gl)(MX:Nat->Prop)(LF:List Int):Prop:=∀s:Nat,s<g.n.toNat->(LF[s]?=some cP/\∀k,¬qK g.es MX s k)\/∃k:Nat,LF[s]?=some (k:Int)/\fy g.es MX s k/\k<=1000
inductive O9 (g:Gl) (role:Int) (X:An) (h h':Heap):Value->Prop
 | gJ (hn:∀n,¬qK g.es (oP X) g.s.toNat n) (E:Ext h h'):O9 g role X h h' (.tuple ⟨[.agg ⟨gA.cs⟩,.int .i64 a7]⟩)
 | hit {n:Nat} {LF:List Int} {ks:List Nat} {s:Nat} {f:Fs} {e0:Ev} {w:Wt} {L:List It} (hl:fy g.es (oP X) g.s.toNat n) (hn:n<=1000) (hF:Cf g (oP X) LF) (hG:GS g.es LF g.s.toNat ks s) (h0:LF[s]?=some 0) (hf:X.fi[s]?=some f) (hm:H4 f=true)
   (hk:w.k=2) (hr:w.r=role) (pD:f.l[0]?=some e0) (he:w.e=aR role e0) (ho:w.o=JW role f.l)
   (hs:St h h' (.sl w.f 65 3 ((kQ g.es ks).map Ac.cs) :: .sl w.s 65 3 (([]:List Ac).map Ac.cs)::L)):O9 g role X h h' (.tuple ⟨[.agg ⟨w.cs⟩,.int .i64 ((2*n:Nat):Int)]⟩)
theorem DS(b:Nat)(g:Gl)(role:Int)(X:An)(h:Heap)(hA:s7 h b g role X)(hV:ae g):Fn Pz 97 #[.pointer (some ⟨b,0,none⟩)] h fun v h'=>O9 g role X h h' v:=by
 refine Bh hA hV fun jZ cA h1 h2 IN lf q LF Q hs hB=>?_;unfold FZ;have hN:=hV.num.n;have hE:=hV.num.e;have hE2:∀e∈g.es,0<=e.f/\0<=e.t/\e.t<g.n:=fun e he=>by have:=hE e he;unfold gN at this;omega
 have SD:Cf g (oP X) LF:=fun s hs=>hB.XX (by decide) hE2 hs;have IK:=hB.ln;have Bx:=(hs.len 2 (s:=lf) (e:=3) (n:=1) (rows:=LF.map a6) rfl (by omega)).1;rw[Yc,IK] at Bx;have hss:((g.s.toNat:Nat):Int)=g.s:=Int.toNat_of_nonneg (by omega);refine⟨some ⟨b,0,none⟩,hs.rd 5 rfl (i:=0) rfl,pJ ⟨g.s,aw hs.ext (hA.gg.at_.nth 4 rfl),?_⟩⟩;refine hs.ai (vs:=[.int .i64 g.s]) rfl rfl fun rP hs=>?_;refine⟨lf,hs.rd 2 rfl (i:=0) rfl,g.s,hs.rd 0 rfl (i:=0) rfl,?_⟩;refine (hs.rows 3 rfl (by omega)).aF (by omega) (by omega) fun aau XW d gd u=>?_;replace gd:LF[g.s.toNat]?=some d:=gd;refine⟨d,u.hd,eh (fun c=>?_) (fun c=>?_)⟩
 .subst c;have fQ:∀n,¬qK g.es (oP X) g.s.toNat n:=by
   rcases SD g.s.toNat (by omega) with ⟨_,h9⟩ | ⟨k,h9,_,hk⟩
   .exact h9
   .rw[gd] at h9;have:=eU h9;omega
  refine hs.put 5 rfl (o:=0) (vs:=gA.cs) rfl (aY 14) fun Mu hs=>?_;refine ym (w:=gA) (Q:=fun cs=>O9 g role X h Mu (.tuple ⟨[.agg ⟨cs⟩,.int .i64 1073741824]⟩)) (hs.at 5 rfl (o:=0) (n:=14) rfl) ?_;exact .gJ fQ hs.ext
 .obtain⟨n,sS,LC,LH⟩:∃k:Nat,LF[g.s.toNat]?=some (k:Int)/\fy g.es (oP X) g.s.toNat k/\k<=1000:=by
   rcases SD g.s.toNat (by omega) with ⟨h9,_⟩ | h9
   .rw[gd] at h9;exact absurd (eU h9) c
   .exact h9
  refine⟨lf,hs.rd 2 rfl (i:=0) rfl,g.s,hs.rd 0 rfl (i:=0) rfl,?_⟩;refine (hs.rows 3 rfl (by omega)).aF (by omega) (by omega) fun aau XW d' G5 u=>?_;replace G5:LF[g.s.toNat]?=some d':=G5;rw[sS] at G5;cases G5;refine⟨(n:Int),u.hd,some ⟨b,0,none⟩,hs.rd 6 rfl (i:=0) rfl,pJ ⟨role,aw hs.ext hA.r.ro,?_⟩⟩;refine hs.ai (vs:=Wt.cs ⟨2,role,aB,aB,cL,cL⟩) rfl rfl fun pG hs=>?_;have hs:=hs.cN 65 3;refine⟨fun h' μ=>∃(ks:List Nat) (s k:Nat) (wf:Sl),k=μ/\s<g.n.toNat/\LF[s]?=some (k:Int)/\St h h' (Ol rP.size jZ.size role wf s (kQ g.es ks) (nN h2.size cA.size h1.size h.size b IN lf LF q Q))/\GS g.es LF g.s.toNat ks s/\ks.length+k<=1000,⟨_,[],g.s.toNat,n,aB,rfl,by omega,sS,?_,.nil,by simp only[List.length_nil];omega⟩,?_⟩
  .unfold Ol;rw[hss];exact hs
  clear hs u c gd;rintro-xD μ ⟨ks,s,k,wf,rfl,jU,Co,hs,hG,rH⟩;have Zh:(kQ g.es ks).length=ks.length:=Yc _;refine⟨lf,hs.rd 4 rfl (i:=0) rfl,(s:Nat),hs.rd 2 rfl (i:=0) rfl,?_⟩;refine (hs.rows 5 rfl (by omega)).aF (by omega) (by omega) fun aat XV v gv u=>?_;replace gv:LF[s]?=some v:=gv;rw[Co] at gv;cases gv;have hLs:fy g.es (oP X) s k:=by
   rcases SD s jU with ⟨h9,_⟩ | ⟨k',h9,cA,_⟩
   .rw[Co] at h9;have:=eU h9;unfold cP at this;omega
   .rw[Co] at h9;have:=eU h9;have:k=k':=by omega
    subst this;exact cA
  refine⟨(k:Int),u.hd,aQ (fun c=>?_) (fun c=>?_)⟩
  .obtain⟨k',rfl⟩:∃k',k=k'+1:=⟨k-1,by omega⟩;obtain⟨e,he,LS,Sk⟩:=hLs.next;have jT:=hE e he;unfold gN at jT;have ZE:LF[e.t.toNat]?=some (k':Int):=by
    rcases SD e.t.toNat (by omega) with ⟨_,h9⟩ | ⟨k2,h9,cA,_⟩
    .exact absurd Sk.1 (h9 _)
    .rw[Sk.uniq cA];exact h9
   obtain⟨i0,Kk⟩:=Yf.1 he;have hmo:i0∈ao g.es (s:Nat):=az.2 ⟨e,Kk,LS⟩;have pA:Dz LF g.es ((k'+1:Nat):Int) i0=true:=by
    unfold Dz;rw[aI Kk,Yo,ZE];exact decide_eq_true (by simp only[Option.getD_some];omega)
   cases je:(ao g.es (s:Nat)).findIdx? (Dz LF g.es ((k'+1:Nat):Int)) with
   | none=>
    rw[List.findIdx?_eq_none_iff] at je;rw[je i0 hmo] at pA;cases pA
   | some j=>
    obtain⟨h1j,h2j,_⟩:=List.findIdx?_eq_some_iff_getElem.1 je;obtain⟨i,gi⟩:=get_some h1j;have Zb:=(Ya.1 gi).2;rw[Zb] at h2j;obtain⟨x,Ip,sQ⟩:=az.1 (Yb gi);have Cl:=hE x (Yb Ip);unfold gN at Cl;have hLx:LF[(eA g.es i).t.toNat]?=some (k':Int):=by
     have h3:LF.getD (eA g.es i).t.toNat 0=((k'+1:Nat):Int)-1:=bM h2j;rw[aI Ip] at h3 ⊢;obtain⟨y,hy⟩:=get_some (l:=LF) (i:=x.t.toNat) (by omega);rw[Yo,hy] at h3;simp only[Option.getD_some] at h3;rw[hy];congr 1;omega
    refine Hq hs hA hV IK jU Co ⟨by omega,by unfold cP;omega⟩ je gi (by omega) fun h' Ci hs=>⟨k',by omega,ks++[i],(eA g.es i).t.toNat,k',Ci,rfl,by rw[aI Ip];omega,hLx,?_,.snoc hG Co (by omega) je gi,by rw[Yh,Yv];omega⟩;have e9:kQ g.es (ks++[i])=kQ g.es ks++[(eA g.es i).act]:=by unfold kQ;rw[Ym];rfl
    rw[e9];exact hs
  .have xr:k=0:=by omega
   subst xr;obtain⟨f,hf,hm⟩:oP X s:=by
    have h9:=hLs.1;cases h9 with
    | base hm=>exact hm
   refine IW hs hA hf hm fun h' w e0 L h1 h2 h3 h4 h5 hs=>?_;have hw:IntKind.wrap .i64 (2*(n:Int))=((2*n:Nat):Int):=by rw[aZ (by omega) (by omega)];omega
   rw[hw];exact .hit LC LH SD hG Co hf hm h1 h2 h3 h4 h5 hs
theorem St.AA{h0 h:Heap}{L L' R:List It}(hs:St h0 h L)(hp:L.Perm (L'++R)):St h0 h L':=by
 have h1:=(hs.perm (hp.trans List.perm_append_comm)).drop R.length
 rwa [List.drop_left] at h1
structure WS where
 k:Int
 r:Int
 F:List Ac
 S:List Ac
 e:Au
 o:Au
def oS:WS:=⟨0,0,[],[],cL,cL⟩
inductive vX (g:Gl) (role kind:Int) (X:An):WS->Int->Prop
 | gJ (hn:∀n,¬lh (cO g role) (dZ X kind) (gh g) n):vX g role kind X oS a7
 | hit {n:Nat} {D:Pr->Int} {ms:List aV} {p:Pr} (hl:lh (cO g role) (dZ X kind) (gh g) n) (hn:n<=8388608) (hD:∀q,mR g role q->D q=dL (cO g role) (dZ X kind) q) (hG:mS (cO g role) (dY X kind) D (gh g) ms p) (hc:dY X kind p=some (D p)) :
   vX g role kind X ⟨kind,role,(sW g role kind X (facts g ms) p).1,eZ g ms,(sW g role kind X (facts g ms) p).2.1,(sW g role kind X (facts g ms) p).2.2⟩ (n:Int)
inductive Oa (g:Gl) (role:Int) (X:An):WS->Int->Prop
 | gJ (hn:∀n,¬qK g.es (oP X) g.s.toNat n):Oa g role X oS a7
 | hit {n:Nat} {LF:List Int} {ks:List Nat} {s:Nat} {f:Fs} {e0:Ev} (hl:fy g.es (oP X) g.s.toNat n) (hn:n<=1000) (hF:Cf g (oP X) LF) (hG:GS g.es LF g.s.toNat ks s) (h0:LF[s]?=some 0) (hf:X.fi[s]?=some f) (hm:H4 f=true) (pD:f.l[0]?=some e0) :
   Oa g role X ⟨2,role,kQ g.es ks,[],aR role e0,JW role f.l⟩ ((2*n:Nat):Int)
def kW(h h':Heap)(W:WS)(n:Int)(v:Value):Prop:=∃w:Wt,w.k=W.k/\w.r=W.r/\w.e=W.e/\w.o=W.o/\v=.tuple ⟨[.agg ⟨w.cs⟩,.int .i64 n]⟩/\∃L,St h h' (.sl w.f 65 3 (W.F.map Ac.cs) :: .sl w.s 65 3 (W.S.map Ac.cs)::L)
theorem kW.zero{h h':Heap}(E:Ext h h')(n:Int):kW h h' oS n (.tuple ⟨[.agg ⟨gA.cs⟩,.int .i64 n]⟩):=
 ⟨gA,rfl,rfl,rfl,rfl,rfl,[],((((St.refl h).step E).cN 65 3).cN 65 3)⟩
theorem Pc.out{g:Gl}{role kind:Int}{X:An}{h h':Heap}{v:Value}(hr:Pc g role kind X h h' v):∃W n,vX g role kind X W n/\kW h h' W n v:=by
 cases hr with
 | gJ hn E=>exact⟨_,_,.gJ hn,.zero E _⟩
 | hit hl hn hD hG hc hk hr he ho hs=>exact⟨_,_,.hit hl hn hD hG hc,_,hk,hr,he,ho,rfl,_,hs⟩
theorem O9.out{g:Gl}{role:Int}{X:An}{h h':Heap}{v:Value}(hr:O9 g role X h h' v):∃W n,Oa g role X W n/\kW h h' W n v:=by
 cases hr with
 | gJ hn E=>exact⟨_,_,.gJ hn,.zero E _⟩
 | hit hl hn hF hG h0 hf hm hk hr pD he ho hs=>exact⟨_,_,.hit hl hn hF hG h0 hf hm pD,_,hk,hr,he,ho,rfl,_,hs⟩
theorem M9(b:Nat)(g:Gl)(role:Int)(X:An)(all:Sl)(mb:Nat)(A:List Pr)(l:List (Pr × Sl))(CB:Nat)(c0 c1 c2:Addr)(h:Heap)(h0:hc h c0=some (Value.pointer (some ⟨b,0,none⟩)))(h1:hc h c1=some (Value.slice all.a all.n all.c))(h2:hc h c2=some (Value.map (some mb)))(hA:s7 h b g role X)(hx:Gm h)(hV:ae g)(hM:Hb h g role all mb A l)(hC:Pb X 1 A CB)(IL:Cg g X):
  Fn Pz 95 #[.pointer (some c0),.pointer (some c1),.pointer (some c2)] h fun v h'=>∃W n,vX g role 1 X W n/\kW h h' W n v:=by
 apply WL c0 c1 c2;unfold W95;refine (St.refl h).aq fun h3 hs=>?_;refine⟨some ⟨b,0,none⟩,aw hs.ext h0,all,aw hs.ext h1,some mb,aw hs.ext h2,?_⟩;refine (j6 b g role X 1 all mb A l CB h3 (hA.ext hs.ext) (hx.ext hs.ext) hV (hM.ext hs.ext) hC IL).mono ?_;intro v mn hr;obtain⟨W,n,hP,w,e1,e2,e3,e4,rfl,L,cp⟩:=hr.out;refine⟨w.k,w.r,w.f,w.s,w.e.r,w.e.s,w.e.p,w.e.l,aB,w.o.r,w.o.s,w.o.p,w.o.l,aB,n,rfl,?_⟩;replace hs:=hs.join cp;refine hs.put 0 rfl (o:=0) (vs:=w.cs) rfl (aY 14) fun fK hs=>?_;refine ym (w:=w) (Q:=fun cs=>∃W n',vX g role 1 X W n'/\kW h fK W n' (.tuple ⟨[.agg ⟨cs⟩,.int .i64 n]⟩)) (hs.at 0 rfl (o:=0) (n:=14) rfl) ?_;exact⟨W,n,hP,w,e1,e2,e3,e4,rfl,L,hs.drop 1⟩
theorem M8(b:Nat)(g:Gl)(role:Int)(X:An)(all:Sl)(mb:Nat)(A:List Pr)(l:List (Pr × Sl))(CB:Nat)(c0 c1 c2:Addr)(h:Heap)(h0:hc h c0=some (Value.pointer (some ⟨b,0,none⟩)))(h1:hc h c1=some (Value.slice all.a all.n all.c))(h2:hc h c2=some (Value.map (some mb)))(hA:s7 h b g role X)(hx:Gm h)(hV:ae g)(hM:Hb h g role all mb A l)(hC:Pb X 3 A CB)(IL:Cg g X):
  Fn Pz 98 #[.pointer (some c0),.pointer (some c1),.pointer (some c2)] h fun v h'=>∃W n,vX g role 3 X W n/\kW h h' W n v:=by
 apply WI c0 c1 c2;unfold W98;refine (St.refl h).aq fun h3 hs=>?_;refine⟨some ⟨b,0,none⟩,aw hs.ext h0,all,aw hs.ext h1,some mb,aw hs.ext h2,?_⟩;refine (j6 b g role X 3 all mb A l CB h3 (hA.ext hs.ext) (hx.ext hs.ext) hV (hM.ext hs.ext) hC IL).mono ?_;intro v mn hr;obtain⟨W,n,hP,w,e1,e2,e3,e4,rfl,L,cp⟩:=hr.out;refine⟨w.k,w.r,w.f,w.s,w.e.r,w.e.s,w.e.p,w.e.l,aB,w.o.r,w.o.s,w.o.p,w.o.l,aB,n,rfl,?_⟩;replace hs:=hs.join cp;refine hs.put 0 rfl (o:=0) (vs:=w.cs) rfl (aY 14) fun fK hs=>?_;refine ym (w:=w) (Q:=fun cs=>∃W n',vX g role 3 X W n'/\kW h fK W n' (.tuple ⟨[.agg ⟨cs⟩,.int .i64 n]⟩)) (hs.at 0 rfl (o:=0) (n:=14) rfl) ?_;exact⟨W,n,hP,w,e1,e2,e3,e4,rfl,L,hs.drop 1⟩
theorem M7(b:Nat)(g:Gl)(role:Int)(X:An)(all:Sl)(mb:Nat)(A:List Pr)(l:List (Pr × Sl))(CB:Nat)(c0 c1 c2:Addr)(h:Heap)(h0:hc h c0=some (Value.pointer (some ⟨b,0,none⟩)))(h1:hc h c1=some (Value.slice all.a all.n all.c))(h2:hc h c2=some (Value.map (some mb)))(hA:s7 h b g role X)(hx:Gm h)(hV:ae g)(hM:Hb h g role all mb A l)(hC:Pb X 4 A CB)(IL:Cg g X):
  Fn Pz 99 #[.pointer (some c0),.pointer (some c1),.pointer (some c2)] h fun v h'=>∃W n,vX g role 4 X W n/\kW h h' W n v:=by
 apply WH c0 c1 c2;unfold W99;refine (St.refl h).aq fun h3 hs=>?_;refine⟨some ⟨b,0,none⟩,aw hs.ext h0,all,aw hs.ext h1,some mb,aw hs.ext h2,?_⟩;refine (j6 b g role X 4 all mb A l CB h3 (hA.ext hs.ext) (hx.ext hs.ext) hV (hM.ext hs.ext) hC IL).mono ?_;intro v mn hr;obtain⟨W,n,hP,w,e1,e2,e3,e4,rfl,L,cp⟩:=hr.out;refine⟨w.k,w.r,w.f,w.s,w.e.r,w.e.s,w.e.p,w.e.l,aB,w.o.r,w.o.s,w.o.p,w.o.l,aB,n,rfl,?_⟩;replace hs:=hs.join cp;refine hs.put 0 rfl (o:=0) (vs:=w.cs) rfl (aY 14) fun fK hs=>?_;refine ym (w:=w) (Q:=fun cs=>∃W n',vX g role 4 X W n'/\kW h fK W n' (.tuple ⟨[.agg ⟨cs⟩,.int .i64 n]⟩)) (hs.at 0 rfl (o:=0) (n:=14) rfl) ?_;exact⟨W,n,hP,w,e1,e2,e3,e4,rfl,L,hs.drop 1⟩
theorem St.wB{α:Type}{h0 h:Heap}{L:List It}(hs:St h0 h L){s:Sl}{e:TypeId}{n:Nat}{cs:α->List Value}{X:List α}(hi:.sl s e n (X.map cs)∈L)(hn:0<n)(hl:X.length<=1048576):RL h n s cs X:=by
 obtain⟨k,hk⟩:=Yf.1 hi;have h1:=hs.len k hk hn;exact⟨hs.Dd hi hn,h1.2.1,h1.2.2,hl⟩
structure lg (g:Gl) (role:Int) (X:An):Prop where
 fi:X.fi.map (fun f=>(f.l,f.b))=(List.range g.n.toNat).map fun s=>(aH g role (s:Nat),bP g role (s:Nat))
 li:X.li=(List.range g.n.toNat).map (cx g role g.ts)
 ag:X.ag=(List.range g.n.toNat).map (du g.es)
 ow:X.ow=(List.range g.n.toNat).map (cW g.es role)
 ar:X.ar.map Prod.snd=(List.range g.n.toNat).map (dt g role)
 an:∀q∈X.ar,∀x∈q.2,0<x.n/\x.n<=1048577
theorem lg.Nt{g:Gl}{role:Int}{X:An}(h:lg g role X):Cg g X:=fun q hq y hy=>by
 have h1:q.2∈X.ar.map Prod.snd:=Yp.2 ⟨q,hq,rfl⟩;rw[h.ar] at h1;obtain⟨s,_,h2⟩:=Yp.1 h1;rw[<-h2] at hy;unfold dt at hy;obtain⟨i,hi,hy⟩:=List.mem_flatMap.1 hy;unfold iv at hy;obtain⟨x,hx,_⟩:=az.1 hi;split at hy
 .unfold vB at hy;obtain⟨m,hm,rfl⟩:=Yp.1 hy;exact⟨i,m,rfl,(Ya.1 hx).1,(List.mem_filter.1 hm).1⟩
 .cases hy
theorem lg.ckB{g:Gl}{role:Int}{X:An}(h:lg g role X)(kind:Int)(A:List Pr):Pb X kind A 1048578:=by
 refine⟨fun q hq x hx=>(h.an q hq x hx).1,fun p _ c hc=>?_,by decide⟩;unfold dY at hc;split at hc
 .split at hc
  .split at hc
   .cases hc;exact⟨by decide,by decide⟩
   .cases hc
  .cases hc
 .split at hc
  .split at hc
   .cases hc;exact⟨by decide,by decide⟩
   .cases hc
  .split at hc
   .rename_i ft q _ gq;obtain⟨y,hy,rfl⟩:=zL.1 hc;have:=h.an q (Yb gq) y (kV hy).1;omega
   .cases hc
def anX(ho bO bE bc bI bV:Sl)(OU:List Ap)(FI:List Fs)(LI:List Lm)(AG OW:List Bool)(AR:List qL):An:=⟨ho,fun i=>((OU[i]?).map Prod.fst).getD ⟨none,0,0⟩,bO,FI,bE,LI,bc,AG,bI,OW,bV,AR⟩
theorem NJ{h0 h:Heap}{ab gb:Nat}{g:Gl}{role:Int}{ho bO bE bc bI bV:Sl}{OU:List Ap}{FI:List Fs}{LI:List Lm}{AG OW:List Bool}{AR:List qL}{R:List It}(hs:St h0 h (qH ab gb g role ho bO bE bc bI bV OU FI LI AG OW AR R))(hg:GI h0 g)(hV:ae g)(hS:sJ g role OU FI LI AG OW)(lK:JB g role (dt g role) AR)(uT:∀q∈AR,q.2.length<=160000):
  s7 h ab g role (anX ho bO bE bc bI bV OU FI LI AG OW AR)/\lg g role (anX ho bO bE bc bI bV OU FI LI AG OW AR):=by
 obtain⟨hO,hF,hL,hAg,hOw⟩:=hS;have hN:=hV.num.n;have VX:FI.length=g.n.toNat:=by have:=congrArg List.length hF;simpa using this
 have IK:LI.length=g.n.toNat:=by rw[hL];simp
 have ZJ:AG.length=g.n.toNat:=by rw[hAg];simp
 have Zy:OW.length=g.n.toNat:=by rw[hOw];simp
 have SG:=lK.len;have ZA:OU.length=g.n.toNat:=by have:=congrArg List.length hO;simpa using this
 have hG:Hd h ab g role ho (fun i=>((OU[i]?).map Prod.fst).getD ⟨none,0,0⟩):=KI (by rw[<-FU];exact hs) hg hO;have m8:∀ {x:It},x∈[.af ab (NK g role ho bO bE bc bI bV) 186,.sl ho 102 1 ((OU.map Prod.fst).map fB),.sl bO 195 2 (FI.map Fs.cs),.sl bE 192 4 (LI.map Lm.cs),.sl bc 4 1 (AG.map bC),.sl bI 4 1 (OW.map bC),.sl bV 274 1 ((AR.map Prod.fst).map fB),.af gb g.cs 27]->x∈qH ab gb g role ho bO bE bc bI bV OU FI LI AG OW AR R:=fun hx=>by
  unfold qH;exact List.mem_append_left _ (List.mem_append_left _ (List.mem_append_left _ (List.mem_append_left _ hx)))
 have mf:∀f∈FI,KA f∈qH ab gb g role ho bO bE bc bI bV OU FI LI AG OW AR R:=fun f hf=>by
  unfold qH;exact List.mem_append_left _ (List.mem_append_left _ (List.mem_append_right _ (Yp.2 ⟨f,hf,rfl⟩)))
 have ma:∀q∈AR,nest 276 4 fk.cs q∈qH ab gb g role ho bO bE bc bI bV OU FI LI AG OW AR R:=fun q hq=>by
  unfold qH;exact List.mem_append_left _ (List.mem_append_right _ (Yp.2 ⟨q,hq,rfl⟩))
 have Eu:∀f∈FI,f.l.length<=1048576:=fun f hf=>by
  have h1:(f.l,f.b)∈FI.map (fun f=>(f.l,f.b)):=Yp.2 ⟨f,hf,rfl⟩;rw[hF] at h1;obtain⟨s,_,h2⟩:=Yp.1 h1;have h3:aH g role (s:Nat)=f.l:=congrArg Prod.fst h2;have h4:(aH g role (s:Nat)).length<=400:=IZ hV;rw[<-h3];omega
 refine⟨⟨hG,⟨?_,?_,?_,?_,?_,?_,fun f hf=>?_,?_,?_,?_⟩,?_,?_,fun q hq=>?_,VX,IK,ZJ,Zy,SG⟩,⟨hF,hL,hAg,hOw,lK.l,lK.b⟩⟩
 .exact hs.rd 0 rfl (i:=8) rfl
 .exact hs.rd 0 rfl (i:=10) rfl
 .exact hs.rd 0 rfl (i:=11) rfl
 .exact hs.rd 0 rfl (i:=12) rfl
 .exact hs.rd 0 rfl (i:=13) rfl
 .exact hs.wB (X:=FI) (cs:=Fs.cs) (s:=bO) (e:=195) (m8 (Yb (i:=2) rfl)) (by decide) (by show FI.length<=_;omega)
 .exact hs.wB (e:=188) (mf f hf) (by decide) (Eu f hf)
 .exact hs.wB (X:=LI) (cs:=Lm.cs) (s:=bE) (e:=192) (m8 (Yb (i:=3) rfl)) (by decide) (by show LI.length<=_;omega)
 .exact hs.wB (X:=AG) (cs:=bC) (s:=bc) (e:=4) (m8 (Yb (i:=4) rfl)) (by decide) (by show AG.length<=_;omega)
 .exact hs.wB (X:=OW) (cs:=bC) (s:=bI) (e:=4) (m8 (Yb (i:=5) rfl)) (by decide) (by show OW.length<=_;omega)
 .exact hs.rd 0 rfl (i:=14) rfl
 .exact hs.wB (X:=AR.map Prod.fst) (cs:=fB) (s:=bV) (e:=274) (m8 (Yb (i:=6) rfl)) (by decide) (by show (AR.map Prod.fst).length<=_;rw[Yc];omega)
 .exact hs.wB (e:=276) (ma q hq) (by decide) (by have:=uT q hq;omega)
def qc(g:Gl)(role:Int)(X:An)(i:Nat)(W:WS)(n:Int):Prop:=
 match i with
 | 0=>vX g role 1 X W n
 | 1=>Oa g role X W n
 | 2=>vX g role 3 X W n
 | _=>vX g role 4 X W n
inductive gu (g:Gl) (role:Int) (X:An):Nat->WS->Int->Prop
 | zero:gu g role X 0 oS a7
 | take {i:Nat} {W W':WS} {n n':Int}:gu g role X i W n->qc g role X i W' n'->n'<n->gu g role X (i+1) W' n'
 | bH {i:Nat} {W W':WS} {n n':Int}:gu g role X i W n->qc g role X i W' n'->¬n'<n->gu g role X (i+1) W n
def dm(g:Gl)(role:Int)(W:WS)(n:Int):Prop:=∃X:An,lg g role X/\gu g role X 4 W n
theorem No:au Pz 95=true:=by kernel_rfl
theorem Nn:au Pz 97=true:=by kernel_rfl
theorem Nl:au Pz 98=true:=by kernel_rfl
theorem Nk:au Pz 99=true:=by kernel_rfl
def fdL(bb ab mb:Nat)(w:Wt)(F S:List Ac)(all:Sl)(m:Nat):List It:=
 [.af bb w.cs 35,.sl w.f 65 3 (F.map Ac.cs),.sl w.s 65 3 (S.map Ac.cs),.af mb [.map (some m)] 93,.af ab [.slice all.a all.n all.c] 92]
def Vj(h h':Heap)(W:WS)(n:Int)(v:Value):Prop:=∃w:Wt,w.k=W.k/\w.r=W.r/\w.e=W.e/\w.o=W.o/\v=.tuple ⟨[.agg ⟨w.cs⟩,.int .i64 n,.int .i64 0]⟩/\∃L,St h h' (.sl w.f 65 3 (W.F.map Ac.cs) :: .sl w.s 65 3 (W.S.map Ac.cs)::L)
theorem JV{α:Type}(a b c d e f x y:α)(L:List α):List.Perm (a::b::c::d::e::f::x::y::L) (b::x::y::e::f::a::c::d::L):=by
 have h1:List.Perm (a::b::c::d::e::f::x::y::L) (b::a::c::d::e::f::x::y::L):=List.Perm.swap _ _ _;refine h1.trans (List.Perm.cons _ ?_);have h2:List.Perm ([a,c,d,e,f]++([x,y]++L)) ([x,y]++([a,c,d,e,f]++L)):=by
  rw[<-Yz,<-Yz];exact List.Perm.append_right _ List.perm_append_comm
 refine h2.trans (List.Perm.cons _ (List.Perm.cons _ ?_));have h3:List.Perm ([a,c,d]++([e,f]++L)) ([e,f]++([a,c,d]++L)):=by
  rw[<-Yz,<-Yz];exact List.Perm.append_right _ List.perm_append_comm
 exact h3
theorem MC(g:Gl)(role:Int)(h:Heap)(hg:GI h g)(hx:Gm h)(hV:ae g)(hr:0<=role/\role<g.rs.length):
  Fn Pz 41 #[g.v,.int .i64 role] h fun v h'=>∃W n,dm g role W n/\Vj h h' W n v:=by
 apply Xg (bs g.nm) g.hr g.hd g.n g.s g.e g.he g.ht role;unfold W41;refine (St.refl h).aq fun h9 hs=>?_;refine hs.aq fun cA hs=>?_;refine⟨_,_,_,_,_,_,_,_,hs.at 1 rfl (o:=0) (n:=8) rfl,?_⟩;refine (xV g role cA (hg.ext hs.ext) (hx.ext hs.ext)).mono ?_;rintro _ fK (⟨fQ,_⟩ | ⟨_,ab,ho,bO,bE,bc,bI,bV,OU,FI,LI,AG,OW,rfl,hsA,hSp⟩)
 .exact absurd ⟨hV,hr.1,hr.2⟩ fQ
 have hEA:=hs.ext;replace hs:=(hs.join hsA).perm List.perm_append_comm;refine⟨some ⟨ab,0,none⟩,0,rfl,?_⟩;refine hs.ai (vs:=[.pointer (some ⟨ab,0,none⟩)]) rfl rfl fun EI hs=>?_;refine iC (fun c=>absurd rfl c) (fun _=>?_);refine⟨some ⟨ab,0,none⟩,hs.rd 0 rfl (i:=0) rfl,?_⟩;have Kb:St h EI (qH ab cA.size g role ho bO bE bc bI bV OU FI LI AG OW (List.replicate g.n.toNat (aB,[])) [.af h9.size gA.cs 35,.af h.size g.cs 27,.af fK.size [.pointer (some ⟨ab,0,none⟩)] 89]):=by
  rw[FU];have hs:=hs.perm (List.perm_append_comm (l₁:=[_]) (l₂:=oO ab cA.size g role ho bO bE bc bI bV OU FI LI AG OW (List.replicate g.n.toNat (aB,[]))++[_,_]));rw[Yz] at hs;exact hs
 refine (Fh Kb hg hx hV hSp.1).mono ?_;rintro _ xA ⟨rfl,AR,jW,lK,uT⟩;refine⟨rfl,?_⟩;obtain⟨hA,hX⟩:=NJ jW hg hV hSp lK uT;generalize anX ho bO bE bc bI bV OU FI LI AG OW AR=X at hA hX;have jW:St h xA [.af h9.size gA.cs 35,.af h.size g.cs 27,.af fK.size [.pointer (some ⟨ab,0,none⟩)] 89]:=jW.AA (by unfold qH;exact List.perm_append_comm);refine⟨some ⟨ab,0,none⟩,jW.rd 2 rfl (i:=0) rfl,?_⟩;refine (wF ab g role X.ho X.os xA hA.gg hV).mono ?_;rintro _ pF ⟨E47,all,mb,A,l,rfl,hM⟩;have cp:=jW.step E47;have hA2:=hA.ext E47;have rD:=hx.ext cp.ext;have Ej:hc pF ⟨fK.size,0,none⟩=some (Value.pointer (some ⟨ab,0,none⟩)):=cp.rd 2 rfl (i:=0) rfl;refine⟨all,some mb,rfl,?_⟩;refine (St.refl pF).aq fun n5 hs=>?_;refine hs.aq fun h49 hs=>?_;refine hs.put 1 rfl (o:=0) (vs:=[.slice all.a all.n all.c]) rfl (aY 1) fun n4 hs=>?_;refine hs.put 0 rfl (o:=0) (vs:=[.map (some mb)]) rfl (aY 1) fun BG hs=>?_;refine hs.ai (vs:=gA.cs) rfl rfl fun Mo hs=>?_;have hs:St pF Mo (fdL BG.size pF.size n5.size gA [] [] all mb):=(((hs.cN 65 3).cN 65 3).perm (List.perm_append_comm (l₁:=[_,_]) (l₂:=[_,_,_]))).AA (R:=[]) (by
  rw[Yw];exact List.Perm.cons _ (List.perm_append_comm (l₁:=[_,_]) (l₂:=[_,_])))
 refine⟨some ⟨ab,0,none⟩,aw hs.ext Ej,?_⟩;refine hs.ai (vs:=[.func (.func 95) #[] #[.pointer (some ⟨fK.size,0,none⟩),.pointer (some ⟨pF.size,0,none⟩),.pointer (some ⟨n5.size,0,none⟩)],.func (.func 97) #[.pointer (some ⟨ab,0,none⟩)] #[],.func (.func 98) #[] #[.pointer (some ⟨fK.size,0,none⟩),.pointer (some ⟨pF.size,0,none⟩),.pointer (some ⟨n5.size,0,none⟩)],.func (.func 99) #[] #[.pointer (some ⟨fK.size,0,none⟩),.pointer (some ⟨pF.size,0,none⟩),.pointer (some ⟨n5.size,0,none⟩)]]) rfl rfl fun oK hs=>?_;refine⟨_,_,_,_,hs.at 0 rfl (o:=0) (n:=4) rfl,?_⟩;refine⟨fun len x h' μ=>∃(i:Nat) (W:WS) (w:Wt),x=(i:Int)/\4-i=μ/\i<=4/\gu g role X i W len/\w.k=W.k/\w.r=W.r/\w.e=W.e/\w.o=W.o/\St pF h' (fdL BG.size pF.size n5.size w W.F W.S all mb),⟨_,0,oS,gA,rfl,rfl,by decide,.zero,rfl,rfl,rfl,rfl,hs.drop 1⟩,?_⟩;clear hs;rintro-len _ xy μ ⟨i,W,w,rfl,rfl,hi,hF,e1,e2,e3,e4,hs⟩;have fin:∀(v:Value) (xw:Heap),(∃W' n',qc g role X i W' n'/\kW xy xw W' n' v)->i<4->∃JL:Int,∃JK:Int,∃sN:Sl,∃sM:Sl,∃JJ:Int,∃JI:Bool,∃JH:Int,∃JG:Int,∃sL:Sl,∃JF:Int,∃JE:Bool,∃Hg:Int,∃JD:Int,∃sK:Sl,∃x86:Int,v=.tuple ⟨[.agg ⟨[.int .i64 JL,.int .i64 JK,.slice sN.a sN.n sN.c,.slice sM.a sM.n sM.c,.int .i64 JJ,.bool JI,.int .i64 JH,.int .i64 JG,.slice sL.a sL.n sL.c,.int .i64 JF,.bool JE,.int .i64 Hg,.int .i64 JD,.slice sK.a sK.n sK.c]⟩,.int .i64 x86]⟩ /\
   NZ xw JL JK sN sM JJ JI JH JG sL JF JE Hg JD sK x86 len BG (4-i) (fun len x h' μ=>∃(i:Nat) (W:WS) (w:Wt),x=(i:Int)/\4-i=μ/\i<=4/\gu g role X i W len/\w.k=W.k/\w.r=W.r/\w.e=W.e/\w.o=W.o/\St pF h' (fdL BG.size pF.size n5.size w W.F W.S all mb)) (i:Int):=by
  rintro _ xw ⟨W',n',pB,w',f1,f2,f3,f4,rfl,L,dW⟩ Er;refine⟨w'.k,w'.r,w'.f,w'.s,w'.e.r,w'.e.s,w'.e.p,w'.e.l,aB,w'.o.r,w'.o.s,w'.o.p,w'.o.l,aB,n',rfl,?_⟩;unfold NZ;have hs:=hs.join dW;refine hs.ai (vs:=w'.cs) rfl rfl fun OT hs=>?_;refine aQ (fun c=>?_) (fun c=>?_)
  .refine G9 hs 0 1 (w:=w') (w0:=w) rfl rfl fun MA hs=>?_;refine⟨_,?_,i+1,W',w',by rw[aZ (by omega) (by omega)];omega,rfl,by omega,.take hF pB c,f1,f2,f3,f4,?_⟩
   .omega
   .refine hs.AA (R:=.af xw.size w'.cs 35 :: .sl w.f 65 3 (W.F.map Ac.cs) :: .sl w.s 65 3 (W.S.map Ac.cs)::L) ?_;show List.Perm (.af xw.size w'.cs 35 :: .af BG.size w'.cs 35 :: .sl w.f 65 3 (W.F.map Ac.cs) :: .sl w.s 65 3 (W.S.map Ac.cs) :: .af n5.size [.map (some mb)] 93 :: .af pF.size [.slice all.a all.n all.c] 92 :: .sl w'.f 65 3 (W'.F.map Ac.cs) :: .sl w'.s 65 3 (W'.S.map Ac.cs)::L) (.af BG.size w'.cs 35 :: .sl w'.f 65 3 (W'.F.map Ac.cs) :: .sl w'.s 65 3 (W'.S.map Ac.cs) :: .af n5.size [.map (some mb)] 93 :: .af pF.size [.slice all.a all.n all.c] 92 :: .af xw.size w'.cs 35 :: .sl w.f 65 3 (W.F.map Ac.cs) :: .sl w.s 65 3 (W.S.map Ac.cs)::L);exact JV _ _ _ _ _ _ _ _ L
  .refine⟨_,?_,i+1,W,w,by rw[aZ (by omega) (by omega)];omega,rfl,by omega,.bH hF pB c,e1,e2,e3,e4,?_⟩
   .omega
   .exact (hs.drop 1).AA (List.Perm.refl _)
 refine aQ (fun c=>?_) (fun c=>?_)
 .refine⟨⟨by omega,by omega⟩,?_⟩;have hP:=Ej;have ZC:=(hM.ext hs.ext);have VZ:=(hA2.ext hs.ext);have xm:=(rD.ext hs.ext);have ig:=aw hs.ext Ej;have uS:hc xy ⟨pF.size,0,none⟩=some (Value.slice all.a all.n all.c):=hs.rd 4 rfl (i:=0) rfl;have OO:hc xy ⟨n5.size,0,none⟩=some (Value.map (some mb)):=hs.rd 3 rfl (i:=0) rfl;have Er:i<4:=by omega
  match i,Er,fin with
  | 0,Er,fin=>
   refine⟨_,rfl,?_⟩;show cond (au Pz 95) _ _;rw[No,cond_true];exact (M9 ab g role X all mb A l 1048578 _ _ _ xy ig uS OO VZ xm hV ZC (hX.ckB 1 A) hX.Nt).mono fun v xw hr=>fin v xw hr Er
  | 1,Er,fin=>
   refine⟨_,rfl,?_⟩;show cond (au Pz 97) _ _;rw[Nn,cond_true];exact (DS ab g role X xy VZ hV).mono fun v xw hr=>fin v xw hr.out Er
  | 2,Er,fin=>
   refine⟨_,rfl,?_⟩;show cond (au Pz 98) _ _;rw[Nl,cond_true];exact (M8 ab g role X all mb A l 1048578 _ _ _ xy ig uS OO VZ xm hV ZC (hX.ckB 3 A) hX.Nt).mono fun v xw hr=>fin v xw hr Er
  | 3,Er,fin=>
   refine⟨_,rfl,?_⟩;show cond (au Pz 99) _ _;rw[Nk,cond_true];exact (M7 ab g role X all mb A l 1048578 _ _ _ xy ig uS OO VZ xm hV ZC (hX.ckB 4 A) hX.Nt).mono fun v xw hr=>fin v xw hr Er
 .have:i=4:=by omega
  subst this;have hs:=cp.join hs;refine G9 hs 3 0 (w:=w) (w0:=gA) rfl rfl fun xF hs=>?_;refine ym (w:=w) (Q:=fun cs=>∃W n,dm g role W n/\Vj h xF W n (.tuple ⟨[.agg ⟨cs⟩,.int .i64 len,.int .i64 0]⟩)) (hs.at 0 rfl (o:=0) (n:=14) rfl) ?_;exact⟨W,len,⟨X,hX,hF⟩,w,e1,e2,e3,e4,rfl,_,hs.drop 4⟩
inductive jj (g:Gl):Nat->WS->Int->Prop
 | zero:jj g 0 oS a7
 | take {i:Nat} {W W':WS} {n n':Int}:jj g i W n->dm g (i:Int) W' n'->(n'<n\/n'=n/\n'<a7/\W'.k<W.k)->jj g (i+1) W' n'
 | bH {i:Nat} {W W':WS} {n n':Int}:jj g i W n->dm g (i:Int) W' n'->¬(n'<n\/n'=n/\n'<a7/\W'.k<W.k)->jj g (i+1) W n
inductive sH (g:Gl) (h h':Heap):Value->Prop
 | bad (hV:¬ae g) (E:Ext h h'):sH g h h' (.tuple ⟨[.agg ⟨gA.cs⟩,.int .i64 1]⟩)
 | ok {W:WS} (hV:ae g) (hC:jj g g.rs.length W a7) (E:Ext h h'):sH g h h' (.tuple ⟨[.agg ⟨gA.cs⟩,.int .i64 0]⟩)
 | err {v:Value} {W:WS} {n:Int} (hV:ae g) (hC:jj g g.rs.length W n) (hn:n≠a7) (hw:kW h h' W 18 v):sH g h h' v
def O6(bb zb gb:Nat)(g:Gl)(w:Wt)(F S:List Ac):List It:=
 [.af bb w.cs 35,.sl w.f 65 3 (F.map Ac.cs),.sl w.s 65 3 (S.map Ac.cs),.af zb gA.cs 35,.af gb g.cs 27]
theorem sc(g:Gl)(h:Heap)(hg:GI h g)(hx:Gm h):Fn Pz 14 #[g.v] h fun v h'=>sH g h h' v:=by
 apply Xp (bs g.nm) g.hr g.hd g.n g.s g.e g.he g.ht;unfold W14 N5;have uG:=hg.r.ln;refine (St.refl h).aq fun h9 hs=>?_;refine hs.aq fun cA hs=>?_;refine⟨_,_,_,_,_,_,_,_,hs.at 1 rfl (o:=0) (n:=8) rfl,?_⟩;refine (mT g cA (hg.ext hs.ext) (hx.ext hs.ext)).mono ?_;rintro _ mn ⟨rfl,E⟩;replace hs:=hs.step E;refine⟨_,rfl,aa (fun c=>?_) (fun c=>?_)⟩
 .refine hs.put 0 rfl (o:=0) (vs:=gA.cs) rfl (aY 14) fun fK hs=>?_;refine ym (w:=gA) (Q:=fun cs=>sH g h fK (.tuple ⟨[.agg ⟨cs⟩,.int .i64 1]⟩)) (hs.at 0 rfl (o:=0) (n:=14) rfl) ?_;exact .bad (eB (bF c)) hs.ext
 have hV:=bM (bT c);have hr6:=hV.GW.n6;refine hs.ai (vs:=gA.cs) rfl rfl fun sU hs=>?_;have hs:St h sU (O6 mn.size h9.size h.size g gA [] []):=((hs.cN 65 3).cN 65 3).perm (by
  show List.Perm ([_,_]++([_]++[_,_])) ([_]++([_,_]++[_,_]));rw[<-Yz,<-Yz];exact List.Perm.append_right _ List.perm_append_comm)
 refine⟨g.hr,hs.rd 4 rfl (i:=1) rfl,?_⟩;refine⟨fun len x h' μ=>∃(i:Nat) (W:WS) (w:Wt),x=(i:Int)/\g.hr.n-i=μ/\i<=g.hr.n/\jj g i W len/\w.k=W.k/\w.r=W.r/\w.e=W.e/\w.o=W.o/\St h h' (O6 mn.size h9.size h.size g w W.F W.S),⟨_,0,oS,gA,rfl,rfl,Nat.zero_le _,.zero,rfl,rfl,rfl,rfl,hs⟩,?_⟩;clear hs;rintro-len _ Mp μ ⟨i,W,w,rfl,rfl,hi,hF,e1,e2,e3,e4,hs⟩;refine aQ (fun c=>?_) (fun c=>?_)
 .refine⟨_,_,_,_,_,_,_,_,hs.at 4 rfl (o:=0) (n:=8) rfl,?_⟩;refine (MC g (i:Int) Mp (hg.ext hs.ext) (hx.ext hs.ext) hV ⟨by omega,by omega⟩).mono ?_;rintro _ Kx ⟨W',n',hP,w',f1,f2,f3,f4,rfl,L,dW⟩;refine⟨w'.k,w'.r,w'.f,w'.s,w'.e.r,w'.e.s,w'.e.p,w'.e.l,aB,w'.o.r,w'.o.s,w'.o.p,w'.o.l,aB,n',0,rfl,?_⟩;have hs:=hs.join dW;refine hs.ai (vs:=w'.cs) rfl rfl fun h73 hs=>?_;have tk:∀ {hZ:Heap},(n'<len\/n'=len/\n'<a7/\W'.k<W.k)->St h hZ ((It.af Kx.size w'.cs 35::(O6 mn.size h9.size h.size g w W.F W.S ++ .sl w'.f 65 3 (W'.F.map Ac.cs) :: .sl w'.s 65 3 (W'.S.map Ac.cs)::L)).set 1 (.af mn.size w'.cs 35)) ->
    ∃m,m<g.hr.n-i/\∃(i':Nat) (W:WS) (w:Wt),IntKind.wrap .i64 ((i:Int)+1)=(i':Int)/\g.hr.n-i'=m/\i'<=g.hr.n/\jj g i' W n'/\w.k=W.k/\w.r=W.r/\w.e=W.e/\w.o=W.o/\St h hZ (O6 mn.size h9.size h.size g w W.F W.S):=fun {hZ} hc hs=>by
   refine⟨_,?_,i+1,W',w',by rw[aZ (by omega) (by omega)];omega,rfl,by omega,.take hF hP hc,f1,f2,f3,f4,?_⟩
   .omega
   .refine hs.AA (R:=.af Kx.size w'.cs 35 :: .sl w.f 65 3 (W.F.map Ac.cs) :: .sl w.s 65 3 (W.S.map Ac.cs)::L) ?_;show List.Perm (.af Kx.size w'.cs 35 :: .af mn.size w'.cs 35 :: .sl w.f 65 3 (W.F.map Ac.cs) :: .sl w.s 65 3 (W.S.map Ac.cs) :: .af h9.size gA.cs 35 :: .af h.size g.cs 27 :: .sl w'.f 65 3 (W'.F.map Ac.cs) :: .sl w'.s 65 3 (W'.S.map Ac.cs)::L) (.af mn.size w'.cs 35 :: .sl w'.f 65 3 (W'.F.map Ac.cs) :: .sl w'.s 65 3 (W'.S.map Ac.cs) :: .af h9.size gA.cs 35 :: .af h.size g.cs 27 :: .af Kx.size w'.cs 35 :: .sl w.f 65 3 (W.F.map Ac.cs) :: .sl w.s 65 3 (W.S.map Ac.cs)::L);exact JV _ _ _ _ _ _ _ _ L
  have kp:∀ {hZ:Heap},¬(n'<len\/n'=len/\n'<a7/\W'.k<W.k)->St h hZ (It.af Kx.size w'.cs 35::(O6 mn.size h9.size h.size g w W.F W.S ++ .sl w'.f 65 3 (W'.F.map Ac.cs) :: .sl w'.s 65 3 (W'.S.map Ac.cs)::L)) ->
    ∃m,m<g.hr.n-i/\∃(i':Nat) (W:WS) (w:Wt),IntKind.wrap .i64 ((i:Int)+1)=(i':Int)/\g.hr.n-i'=m/\i'<=g.hr.n/\jj g i' W len/\w.k=W.k/\w.r=W.r/\w.e=W.e/\w.o=W.o/\St h hZ (O6 mn.size h9.size h.size g w W.F W.S):=fun {hZ} hc hs=>by
   refine⟨_,?_,i+1,W,w,by rw[aZ (by omega) (by omega)];omega,rfl,by omega,.bH hF hP hc,e1,e2,e3,e4,(hs.drop 1).AA (List.Perm.refl _)⟩;omega
  refine aQ (fun c1=>?_) (fun c1=>?_)
  .exact G9 hs 0 1 (w:=w') (w0:=w) rfl rfl fun ZK hs=>tk (.inl c1) hs
  .refine eh (fun c2=>?_) (fun c2=>?_)
   .refine aQ (fun c3=>?_) (fun c3=>?_)
    .refine⟨w'.k,hs.rd 0 rfl (i:=0) rfl,w.k,hs.rd 1 rfl (i:=0) rfl,aQ (fun c4=>?_) (fun c4=>?_)⟩
     .exact G9 hs 0 1 (w:=w') (w0:=w) rfl rfl fun rQ hs=>tk (.inr ⟨c2,c3,by rw[<-e1,<-f1];exact c4⟩) hs
     .exact kp (fun h9=>h9.elim c1 fun h9=>c4 (by rw[e1,f1];exact h9.2.2)) hs
    .exact kp (fun h9=>h9.elim c1 fun h9=>c3 h9.2.1) hs
   .exact kp (fun h9=>h9.elim c1 fun h9=>c2 h9.1) hs
 .have:i=g.rs.length:=by omega
  subst this;refine eh (fun c1=>?_) (fun c1=>?_)
  .refine hs.put 3 rfl (o:=0) (vs:=gA.cs) rfl (aY 14) fun Mz hs=>?_;refine ym (w:=gA) (Q:=fun cs=>sH g h Mz (.tuple ⟨[.agg ⟨cs⟩,.int .i64 0]⟩)) (hs.at 3 rfl (o:=0) (n:=14) rfl) ?_;exact .ok hV (by rw[<-show len=a7 from c1];exact hF) hs.ext
  .refine G9 hs 0 3 (w:=w) (w0:=gA) rfl rfl fun xE hs=>?_;refine ym (w:=w) (Q:=fun cs=>sH g h xE (.tuple ⟨[.agg ⟨cs⟩,.int .i64 18]⟩)) (hs.at 3 rfl (o:=0) (n:=14) rfl) ?_;exact .err hV hF c1 ⟨w,e1,e2,e3,e4,rfl,_,hs.drop 1⟩
/-! ### moves of pairs, and views -/
theorem Re{g:Gl}{role:Int}{s t:Nat}{x:Ed}(hx:x∈g.es)(hv:bm role x=none)(hf:x.f=(s:Int)):∃m∈bA g.es role s t,bp m=(x.t.toNat,t):=by
 obtain⟨i,hi⟩:=Yf.1 hx;refine⟨⟨(i:Int),-1,(eA g.es i).t,(t:Nat)⟩,?_,by unfold bp;rw[aI hi];rfl⟩;unfold bA p6;refine List.mem_append_left _ (List.mem_append_left _ (Yp.2 ⟨i,List.mem_filter.2 ⟨az.2 ⟨x,hi,hf⟩,?_⟩,rfl⟩));unfold v7;rw[aI hi,hv];rfl
theorem Rf{g:Gl}{role:Int}{s t:Nat}{x:Ed}(hx:x∈g.es)(hv:bm role x=none)(hf:x.f=(t:Int)):∃m∈bA g.es role s t,bp m=(s,x.t.toNat):=by
 obtain⟨i,hi⟩:=Yf.1 hx;refine⟨⟨-1,(i:Int),(s:Nat),(eA g.es i).t⟩,?_,by unfold bp;rw[aI hi];rfl⟩;unfold bA yX;refine List.mem_append_left _ (List.mem_append_right _ (Yp.2 ⟨i,List.mem_filter.2 ⟨az.2 ⟨x,hi,hf⟩,?_⟩,rfl⟩));unfold v7;rw[aI hi,hv];rfl
theorem mR.q1{g:Gl}{role:Int}{l:List Int}{t:Nat}{a:Int}(hn:∀x∈g.es,0<=x.f/\0<=x.t)(hl:∀b∈l,0<=b/\mR g role (b.toNat,t))(h:Qr g.es role l a):0<=a/\mR g role (a.toNat,t):=by
 induction h with
 | base hm=>exact hl _ hm
 | @step a b _ hx ih=>
  obtain⟨x,hx,hv,hf,rfl⟩:=hx;obtain⟨m,hm,he⟩:=Re (t:=t) (s:=a.toNat) hx hv (by omega);refine⟨(hn x hx).2,?_⟩;have:=mR.step ih.2 hm
  rwa [he] at this
theorem mR.q2{g:Gl}{role:Int}{l:List Int}{s:Nat}{a:Int}(hn:∀x∈g.es,0<=x.f/\0<=x.t)(hl:∀b∈l,0<=b/\mR g role (s,b.toNat))(h:Qr g.es role l a):0<=a/\mR g role (s,a.toNat):=by
 induction h with
 | base hm=>exact hl _ hm
 | @step a b _ hx ih=>
  obtain⟨x,hx,hv,hf,rfl⟩:=hx;obtain⟨m,hm,he⟩:=Rf (s:=s) (t:=a.toNat) hx hv (by omega);refine⟨(hn x hx).2,?_⟩;have:=mR.step ih.2 hm
  rwa [he] at this
/-! ### nothing is found: no reached pair and no reached state fails -/
theorem gu.all{g:Gl}{role:Int}{X:An}{i:Nat}{W:WS}{n:Int}(h:gu g role X i W n):∀j,j<i->∃W' n',qc g role X j W' n'/\n<=n':=by
 induction h with
 | zero=>intro j hj;omega
 | @take i W W' n n' _ hk cG ih=>
  intro j hj;by_cases e:j=i
  .subst e;exact⟨_,_,hk,Int.le_refl _⟩
  .obtain⟨W2,n2,h1,h2⟩:=ih j (by omega);exact⟨W2,n2,h1,by omega⟩
 | @bH i W W' n n' _ hk cG ih=>
  intro j hj;by_cases e:j=i
  .subst e;exact⟨_,_,hk,by omega⟩
  .exact ih j (by omega)
theorem jj.all{g:Gl}{i:Nat}{W:WS}{n:Int}(h:jj g i W n):∀j:Nat,j<i->∃W' n',dm g (j:Int) W' n'/\n<=n':=by
 induction h with
 | zero=>intro j hj;omega
 | @take i W W' n n' _ hk cG ih=>
  intro j hj;by_cases e:j=i
  .subst e;exact⟨_,_,hk,Int.le_refl _⟩
  .obtain⟨W2,n2,h1,h2⟩:=ih j (by omega);exact⟨W2,n2,h1,by omega⟩
 | @bH i W W' n n' _ hk cG ih=>
  intro j hj;by_cases e:j=i
  .subst e;exact⟨_,_,hk,by omega⟩
  .exact ih j (by omega)
end Go.VC
end

section
namespace Go.VC
def fL(N:Nat)(f:Nat->Int):List Int:=(List.range N).map f
theorem il(N:Nat)(f:Nat->Int):(fL N f).length=N:=by unfold fL;rw[Yc,mG]
theorem lN{N k:Nat}{f:Nat->Int}(h:k<N):(fL N f)[k]?=some (f k):=by unfold fL;rw[Yd,xX h];rfl
theorem r4{N:Nat}{f g:Nat->Int}(h:∀i,i<N->f i=g i):fL N f=fL N g:=List.map_congr_left fun i hi=>h i (List.mem_range.1 hi)
theorem EW{N k:Nat}{f:Nat->Int}(v:Int):(fL N f).set k v=fL N fun i=>if i=k then v else f i:=by
 refine wm fun i=>?_;rw[List.getElem?_set,il];by_cases hi:i<N
 .rw[lN hi,lN hi];by_cases e:k=i
  .subst e;rw[if_pos rfl,if_pos hi,if_pos rfl]
  .rw[if_neg e,if_neg fun c=>e c.symm]
 .rw[Yl (l:=fL N f) (by rw[il];omega),Yl (l:=fL N _) (by rw[il];omega)];split
  .rw[if_neg (by omega)]
  .rfl
theorem S7(l:List Int):l=fL l.length fun i=>l.getD i 0:=by
 refine wm fun i=>?_;by_cases hi:i<l.length
 .rw[lN hi,Yo,Yi hi];rfl
 .rw[Yl (by omega),Yl (by rw[il];omega)]
theorem EX{N:Nat}{f:Nat->Int}{x:Int}:x∈fL N f ↔ ∃i,i<N/\f i=x:=by
 unfold fL;rw[Yp];exact⟨fun ⟨i,h1,h2⟩=>⟨i,List.mem_range.1 h1,h2⟩,fun ⟨i,h1,h2⟩=>⟨i,List.mem_range.2 h1,h2⟩⟩
def Pm(a b:Nat)(f g:Nat->Int):Prop:=∃σ τ:Nat->Nat,(∀i,σ (τ i)=i)/\(∀i,τ (σ i)=i)/\(∀i,i<a\/b<=i->σ i=i)/\∀i,g i=f (σ i)
theorem Pm.refl(a b:Nat)(f:Nat->Int):Pm a b f f:=⟨id,id,fun _=>rfl,fun _=>rfl,fun _ _=>rfl,fun _=>rfl⟩
theorem Pm.trans{a b:Nat}{f g k:Nat->Int}(h1:Pm a b f g)(h2:Pm a b g k):Pm a b f k:=by
 obtain⟨σ,τ,a1,a2,a3,a4⟩:=h1;obtain⟨ς,υ,b1,b2,b3,b4⟩:=h2;exact⟨fun i=>σ (ς i),fun i=>υ (τ i),fun i=>by show σ (ς (υ (τ i)))=i;rw[b1,a1],fun i=>by show υ (τ (σ (ς i)))=i;rw[a2,b2],fun i hi=>by show σ (ς i)=i;rw[b3 i hi,a3 i hi],fun i=>by rw[b4,a4]⟩
theorem Pm.wide{a b c d:Nat}{f g:Nat->Int}(h:Pm a b f g)(hc:c<=a)(hd:b<=d):Pm c d f g:=by
 obtain⟨σ,τ,a1,a2,a3,a4⟩:=h;exact⟨σ,τ,a1,a2,fun i hi=>a3 i (by omega),a4⟩
theorem Pm.out{a b:Nat}{f g:Nat->Int}(h:Pm a b f g){i:Nat}(hi:i<a\/b<=i):g i=f i:=by
 obtain⟨σ,τ,a1,a2,a3,a4⟩:=h;rw[a4,a3 i hi]
theorem Pm.inn{a b:Nat}{f g:Nat->Int}(h:Pm a b f g){i:Nat}(h0:a<=i)(h1:i<b):∃j,a<=j/\j<b/\g i=f j:=by
 obtain⟨σ,τ,a1,a2,a3,a4⟩:=h;refine⟨σ i,?_,?_,a4 i⟩
 .refine Classical.byContradiction fun c=>?_;have e:=a3 (σ i) (by omega);have e2:=congrArg τ e;rw[a2,a2] at e2;omega
 .refine Classical.byContradiction fun c=>?_;have e:=a3 (σ i) (by omega);have e2:=congrArg τ e;rw[a2,a2] at e2;omega
def Cj(p q:Nat)(f:Nat->Int)(i:Nat):Int:=if i=p then f q else if i=q then f p else f i
theorem Pm.swap{a b p q:Nat}(f:Nat->Int)(hp:a<=p/\p<b)(hq:a<=q/\q<b):Pm a b f (Cj p q f):=by
 refine⟨fun i=>if i=p then q else if i=q then p else i,fun i=>if i=p then q else if i=q then p else i,fun i=>?_,fun i=>?_,fun i hi=>?_,fun i=>?_⟩
 .show (if (if i=p then q else if i=q then p else i)=p then q else if (if i=p then q else if i=q then p else i)=q then p else (if i=p then q else if i=q then p else i))=i
  repeat' split
  all_goals omega
 .show (if (if i=p then q else if i=q then p else i)=p then q else if (if i=p then q else if i=q then p else i)=q then p else (if i=p then q else if i=q then p else i))=i
  repeat' split
  all_goals omega
 .show (if i=p then q else if i=q then p else i)=i;rw[if_neg (by omega),if_neg (by omega)]
 .unfold Cj;show _=f (if i=p then q else if i=q then p else i)
  repeat' split
  all_goals rfl
theorem Pm.perm{a b N:Nat}{f g:Nat->Int}(h:Pm a b f g)(hb:b<=N):(fL N g).Perm (fL N f):=by
 obtain⟨σ,τ,a1,a2,a3,a4⟩:=h;have cG:∀i,i<N->σ i<N:=fun i hi=>Classical.byContradiction fun c=>by
  have e:=congrArg τ (a3 (σ i) (by omega));rw[a2,a2] at e;omega
 have e:fL N g=((List.range N).map σ).map f:=by
  unfold fL;rw[List.map_map];exact List.map_congr_left fun i _=>a4 i
 rw[e];refine List.Perm.map f ?_;refine (List.perm_ext_iff_of_nodup ?_ List.nodup_range).2 fun x=>?_
 .exact List.pairwise_map.2 (List.nodup_range.imp fun {i j} zh e=>zh (by have:=congrArg τ e;rwa [a2,a2] at this))
 .rw[Yp,List.mem_range];constructor
  .rintro⟨i,hi,rfl⟩;exact cG i (List.mem_range.1 hi)
  .intro hx;refine⟨τ x,List.mem_range.2 ?_,a1 x⟩;refine Classical.byContradiction fun c=>?_;have e:=a3 (τ x) (by omega);rw[a1] at e;omega
/-! ### two blocks change places; a part is turned round -/
def vZ(a b n:Nat)(f:Nat->Int)(t:Nat):Int:=if a<=t/\t<a+n then f (t-a+b) else if b<=t/\t<b+n then f (t-b+a) else f t
def dz(a m b:Nat)(f:Nat->Int)(t:Nat):Int:=if a<=t/\t<a+(b-m) then f (t+(m-a)) else if a+(b-m)<=t/\t<b then f (t-(b-m)) else f t
theorem Pm.rot{a m b:Nat}(f:Nat->Int)(h1:a<=m)(h2:m<=b):Pm a b f (dz a m b f):=by
 refine⟨fun t=>if a<=t/\t<a+(b-m) then t+(m-a) else if a+(b-m)<=t/\t<b then t-(b-m) else t,fun t=>if a<=t/\t<m then t+(b-m) else if m<=t/\t<b then t-(m-a) else t,fun i=>?_,fun i=>?_,fun i hi=>?_,fun i=>?_⟩
 .show (if a<=(if a<=i/\i<m then i+(b-m) else if m<=i/\i<b then i-(m-a) else i)/\(if a<=i/\i<m then i+(b-m) else if m<=i/\i<b then i-(m-a) else i)<a+(b-m) then (if a<=i/\i<m then i+(b-m) else if m<=i/\i<b then i-(m-a) else i)+(m-a) else if a+(b-m)<=(if a<=i/\i<m then i+(b-m) else if m<=i/\i<b then i-(m-a) else i)/\(if a<=i/\i<m then i+(b-m) else if m<=i/\i<b then i-(m-a) else i)<b then (if a<=i/\i<m then i+(b-m) else if m<=i/\i<b then i-(m-a) else i)-(b-m) else (if a<=i/\i<m then i+(b-m) else if m<=i/\i<b then i-(m-a) else i))=i;generalize hz:(if a<=i/\i<m then i+(b-m) else if m<=i/\i<b then i-(m-a) else i)=z;split at hz
  .rw[if_neg (by omega),if_pos (by omega)];omega
  .split at hz
   .rw[if_pos (by omega)];omega
   .rw[if_neg (by omega),if_neg (by omega)];exact hz.symm
 .show (if a<=(if a<=i/\i<a+(b-m) then i+(m-a) else if a+(b-m)<=i/\i<b then i-(b-m) else i)/\(if a<=i/\i<a+(b-m) then i+(m-a) else if a+(b-m)<=i/\i<b then i-(b-m) else i)<m then (if a<=i/\i<a+(b-m) then i+(m-a) else if a+(b-m)<=i/\i<b then i-(b-m) else i)+(b-m) else if m<=(if a<=i/\i<a+(b-m) then i+(m-a) else if a+(b-m)<=i/\i<b then i-(b-m) else i)/\(if a<=i/\i<a+(b-m) then i+(m-a) else if a+(b-m)<=i/\i<b then i-(b-m) else i)<b then (if a<=i/\i<a+(b-m) then i+(m-a) else if a+(b-m)<=i/\i<b then i-(b-m) else i)-(m-a) else (if a<=i/\i<a+(b-m) then i+(m-a) else if a+(b-m)<=i/\i<b then i-(b-m) else i))=i;generalize hz:(if a<=i/\i<a+(b-m) then i+(m-a) else if a+(b-m)<=i/\i<b then i-(b-m) else i)=z;split at hz
  .rw[if_neg (by omega),if_pos (by omega)];omega
  .split at hz
   .rw[if_pos (by omega)];omega
   .rw[if_neg (by omega),if_neg (by omega)];exact hz.symm
 .show (if a<=i/\i<a+(b-m) then i+(m-a) else if a+(b-m)<=i/\i<b then i-(b-m) else i)=i;rw[if_neg (by omega),if_neg (by omega)]
 .unfold dz;show _=f (if a<=i/\i<a+(b-m) then i+(m-a) else if a+(b-m)<=i/\i<b then i-(b-m) else i)
  repeat' split
  all_goals rfl
def Cz(T:Nat->Int)(m i j:Nat)(g:Nat->Int):Prop:=i<=m/\(∀t,t<m-i\/m+j<=t->g t=T t)/\∀t,m-i<=t->t<m+j->T t=if t<m-i+j then g (t+i) else g (t-j)
theorem Cz.start{a m b:Nat}(f:Nat->Int)(h1:a<=m)(h2:m<=b):Cz (dz a m b f) m (m-a) (b-m) f:=by
 refine⟨by omega,fun t ht=>?_,fun t h3 h4=>?_⟩
 .unfold dz;rw[if_neg (by omega),if_neg (by omega)]
 .unfold dz;by_cases c:t<a+(b-m)
  .rw[if_pos (by omega),if_pos (by omega)]
  .rw[if_neg (by omega),if_pos (by omega),if_neg (by omega)]
theorem Cz.more{T g:Nat->Int}{m i j:Nat}(h:Cz T m i j g)(zh:j<i):Cz T m (i-j) j (vZ (m-i) m j g):=by
 obtain⟨h0,h1,h2⟩:=h;refine⟨by omega,fun t ht=>?_,fun t h3 h4=>?_⟩
 .unfold vZ;by_cases c:m-i<=t/\t<m-i+j
  .rw[if_pos c,h2 t c.1 (by omega),if_pos c.2];congr 1;omega
  .rw[if_neg c,if_neg (by omega)];exact h1 t (by omega)
 .rw[h2 t (by omega) (by omega),if_neg (by omega)];unfold vZ;by_cases c:t<m-(i-j)+j
  .rw[if_pos c,if_neg (by omega),if_pos (by omega)];congr 1;omega
  .rw[if_neg c,if_neg (by omega),if_neg (by omega)]
theorem Cz.less{T g:Nat->Int}{m i j:Nat}(h:Cz T m i j g)(zh:i<j):Cz T m i (j-i) (vZ (m-i) (m+j-i) i g):=by
 obtain⟨h0,h1,h2⟩:=h;refine⟨by omega,fun t ht=>?_,fun t h3 h4=>?_⟩
 .unfold vZ;by_cases c:m+j-i<=t/\t<m+j-i+i
  .rw[if_neg (by omega),if_pos c,h2 t (by omega) (by omega),if_neg (by omega)];congr 1;omega
  .rw[if_neg (by omega),if_neg c];exact h1 t (by omega)
 .rw[h2 t (by omega) (by omega),if_pos (by omega)];unfold vZ;by_cases c:t<m-i+(j-i)
  .rw[if_pos c,if_neg (by omega),if_neg (by omega)]
  .rw[if_neg c,if_pos (by omega)];congr 1;omega
theorem Cz.done{T g:Nat->Int}{m i:Nat}(h:Cz T m i i g):∀t,vZ (m-i) m i g t=T t:=by
 obtain⟨h0,h1,h2⟩:=h;intro t;unfold vZ;by_cases c:m-i<=t/\t<m-i+i
 .rw[if_pos c,h2 t c.1 (by omega),if_pos (by omega)];congr 1;omega
 .rw[if_neg c];by_cases d:m<=t/\t<m+i
  .rw[if_pos d,h2 t (by omega) d.2,if_neg (by omega)];congr 1;omega
  .rw[if_neg d];exact h1 t (by omega)
/-! ### order -/
def So(R:Int->Int->Prop)(f:Nat->Int)(a b:Nat):Prop:=∀i j,a<=i->i<j->j<b->¬R (f j) (f i)
theorem So.of{R:Int->Int->Prop}{f g:Nat->Int}{a b:Nat}(h:So R f a b)(e:∀i,a<=i->i<b->g i=f i):So R g a b:=fun i j h1 h2 h3=>by rw[e i h1 (by omega),e j (by omega) h3];exact h i j h1 h2 h3
structure Wo (R:Int->Int->Prop) (D:Int->Prop):Prop where
 tr:∀x y z,D x->D y->D z->¬R y x->¬R z y->¬R z x
 TE:∀x y,D x->D y->R x y->¬R y x
theorem Wo.Ox{R:Int->Int->Prop}{D:Int->Prop}(h:Wo R D){x:Int}(hx:D x):¬R x x:=fun c=>h.TE x x hx hx c c
theorem So.le{R:Int->Int->Prop}{D:Int->Prop}{f:Nat->Int}{a b:Nat}(h:So R f a b)(hW:Wo R D)(hD:∀i,D (f i)){i j:Nat}(h1:a<=i)(h2:i<=j)(h3:j<b):¬R (f j) (f i):=by
 rcases Nat.lt_or_ge i j with c | c
 .exact h i j h1 c h3
 .rw[show i=j by omega];exact hW.Ox (hD j)
theorem Pm.MU{a b:Nat}{f g:Nat->Int}{D:Int->Prop}(h:Pm a b f g)(hD:∀i,D (f i)):∀i,D (g i):=by
 obtain⟨σ,τ,a1,a2,a3,a4⟩:=h;intro i;rw[a4];exact hD _
structure GP (R:Int->Int->Prop) (f:Nat->Int) (a m b s:Nat):Prop where
 h:a<=s/\s<=m/\s<=(a+b)/2/\m<=(a+b)/2+m-s/\(a+b)/2+m-s<=b
 l:a<s->(a+b)/2+m-s<b->¬R (f ((a+b)/2+m-s)) (f (s-1))
 r:s<m->s<(a+b)/2->R (f ((a+b)/2+m-s-1)) (f s)
theorem BT{R:Int->Int->Prop}{D:Int->Prop}{f:Nat->Int}{a m b s:Nat}(hW:Wo R D)(hD:∀i,D (f i))(hX:So R f a m)(hY:So R f m b)(hC:GP R f a m b s){i j:Nat}(h1:a<=i)(h2:i<(a+b)/2)(h3:(a+b)/2<=j)(h4:j<b):
  ¬R (dz s m ((a+b)/2+m-s) f j) (dz s m ((a+b)/2+m-s) f i):=by
 obtain⟨c0,cl,cr⟩:=hC;generalize hmid:(a+b)/2=d at *;unfold dz;by_cases ci:i<s
 .rw[if_neg (c:=s<=i/\_) (by omega),if_neg (c:=_<=i/\_) (by omega),if_neg (c:=s<=j/\_) (by omega)];by_cases cj:j<d+m-s
  .rw[if_pos (by omega)];exact hX.le hW hD h1 (by omega) (by omega)
  .rw[if_neg (by omega)];have e1:=cl (by omega) (by omega);have e2:=hX.le hW hD h1 (show i<=s-1 by omega) (by omega);have e3:=hY.le hW hD (show m<=d+m-s by omega) (show d+m-s<=j by omega) h4;exact hW.tr _ _ _ (hD _) (hD _) (hD _) e2 (hW.tr _ _ _ (hD _) (hD _) (hD _) e1 e3)
 .rw[if_pos (c:=s<=i/\_) (by omega),if_neg (c:=s<=j/\_) (by omega)];by_cases cj:j<d+m-s
  .rw[if_pos (by omega)];have e1:=hW.TE _ _ (hD _) (hD _) (cr (by omega) (by omega));have e2:=hY.le hW hD (show m<=i+(m-s) by omega) (show i+(m-s)<=d+m-s-1 by omega) (by omega);have e3:=hX.le hW hD (show a<=s by omega) (show s<=j-(d+m-s-m) by omega) (by omega);exact hW.tr _ _ _ (hD _) (hD _) (hD _) e2 (hW.tr _ _ _ (hD _) (hD _) (hD _) e1 e3)
  .rw[if_neg (by omega)];exact hY.le hW hD (by omega) (by omega) h4
theorem Fo{R:Int->Int->Prop}{f:Nat->Int}{a m b s:Nat}(hX:So R f a m)(hY:So R f m b)(hC:GP R f a m b s):So R (dz s m ((a+b)/2+m-s) f) a s/\So R (dz s m ((a+b)/2+m-s) f) s ((a+b)/2):=by
 obtain⟨c0,_,_⟩:=hC;refine⟨fun i j h1 h2 h3=>?_,fun i j h1 h2 h3=>?_⟩
 .unfold dz;rw[if_neg (c:=s<=i/\_) (by omega),if_neg (c:=_<=i/\_) (by omega),if_neg (c:=s<=j/\_) (by omega),if_neg (c:=_<=j/\_) (by omega)];exact hX i j h1 h2 (by omega)
 .unfold dz;rw[if_pos (c:=s<=i/\_) (by omega),if_pos (c:=s<=j/\_) (by omega)];exact hY _ _ (by omega) (by omega) (by omega)
theorem BR{R:Int->Int->Prop}{f:Nat->Int}{a m b s:Nat}(hX:So R f a m)(hY:So R f m b)(hC:GP R f a m b s):So R (dz s m ((a+b)/2+m-s) f) ((a+b)/2) ((a+b)/2+m-s)/\So R (dz s m ((a+b)/2+m-s) f) ((a+b)/2+m-s) b:=by
 obtain⟨c0,_,_⟩:=hC;refine⟨fun i j h1 h2 h3=>?_,fun i j h1 h2 h3=>?_⟩
 .unfold dz;rw[if_neg (c:=s<=i/\_) (by omega),if_pos (c:=_<=i/\_) (by omega),if_neg (c:=s<=j/\_) (by omega),if_pos (c:=_<=j/\_) (by omega)];exact hX _ _ (by omega) (by omega) (by omega)
 .unfold dz;rw[if_neg (c:=s<=i/\_) (by omega),if_neg (c:=_<=i/\_) (by omega),if_neg (c:=s<=j/\_) (by omega),if_neg (c:=_<=j/\_) (by omega)];exact hY i j (by omega) h2 h3
theorem zD{R:Int->Int->Prop}{D:Int->Prop}{f g k:Nat->Int}{a m b s:Nat}(hW:Wo R D)(hD:∀i,D (f i))(hX:So R f a m)(hY:So R f m b)(hC:GP R f a m b s)
  (p1:Pm a ((a+b)/2) (dz s m ((a+b)/2+m-s) f) g) (s1:So R g a ((a+b)/2)) (p2:Pm ((a+b)/2) b g k) (s2:So R k ((a+b)/2) b):Pm a b f k/\So R k a b:=by
 have c0:=hC.h;refine⟨(((Pm.rot f (by omega) (by omega)).wide (by omega) (by omega)).trans (p1.wide (aY _) (by omega))).trans (p2.wide (by omega) (aY _)),fun i j h1 h2 h3=>?_⟩;by_cases ci:i<(a+b)/2
 .by_cases cj:j<(a+b)/2
  .rw[p2.out (.inl ci),p2.out (.inl cj)];exact s1 i j h1 h2 cj
  .obtain⟨j',d1,d2,d3⟩:=p2.inn (i:=j) (by omega) h3;obtain⟨i',e1,e2,e3⟩:=p1.inn h1 ci;rw[p2.out (.inl ci),e3,d3,p1.out (.inr d1)];exact BT hW hD hX hY hC e1 e2 d1 d2
 .exact s2 i j (by omega) h2 h3
def H5(a p:Nat)(f:Nat->Int)(t:Nat):Int:=if a<=t/\t<p then f (t+1) else if t=p then f a else f t
theorem xd{R:Int->Int->Prop}{D:Int->Prop}{f:Nat->Int}{a b i:Nat}(hW:Wo R D)(hD:∀i,D (f i))(hY:So R f (a+1) b)(h1:a+1<=i)(h2:i<=b)(hl:i=a+1\/R (f (i-1)) (f a))(hr:i=b\/¬R (f i) (f a)):So R (H5 a (i-1) f) a b:=by
 intro x y hx J5 hy;unfold H5;by_cases c1:x<i-1
 .rw[if_pos (c:=a<=x/\_) ⟨hx,c1⟩];by_cases c2:y<i-1
  .rw[if_pos (by omega)];exact hY _ _ (by omega) (by omega) (by omega)
  .rw[if_neg (by omega)];by_cases c3:y=i-1
   .rw[if_pos c3];rcases hl with hl | hl
    .omega
    .have e1:=hY.le hW hD (show a+1<=x+1 by omega) (show x+1<=i-1 by omega) (by omega);exact hW.tr _ _ _ (hD _) (hD _) (hD _) e1 (hW.TE _ _ (hD _) (hD _) hl)
   .rw[if_neg c3];exact hY _ _ (by omega) (by omega) hy
 .rw[if_neg (c:=a<=x/\_) (by omega),if_neg (c:=a<=y/\_) (by omega)];by_cases c3:x=i-1
  .rw[if_pos c3,if_neg (by omega)];rcases hr with hr | hr
   .omega
   .have e1:=hY.le hW hD (show a+1<=i by omega) (show i<=y by omega) hy;exact hW.tr _ _ _ (hD _) (hD _) (hD _) hr e1
  .rw[if_neg c3,if_neg (by omega)];exact hY _ _ (by omega) J5 hy
def H6(p m:Nat)(f:Nat->Int)(t:Nat):Int:=if t=p then f m else if p<t/\t<=m then f (t-1) else f t
theorem xe{R:Int->Int->Prop}{D:Int->Prop}{f:Nat->Int}{a m i:Nat}(hW:Wo R D)(hD:∀i,D (f i))(hX:So R f a m)(h1:a<=i)(h2:i<=m)(hl:i=a\/¬R (f m) (f (i-1)))(hr:i=m\/R (f m) (f i)):So R (H6 i m f) a (m+1):=by
 intro x y hx J5 hy;unfold H6;by_cases c1:x<i
 .rw[if_neg (c:=x=i) (by omega),if_neg (c:=i<x/\_) (by omega)];by_cases c2:y=i
  .rw[if_pos c2];rcases hl with hl | hl
   .omega
   .have e1:=hX.le hW hD hx (show x<=i-1 by omega) (by omega);exact hW.tr _ _ _ (hD _) (hD _) (hD _) e1 hl
  .rw[if_neg c2];by_cases c3:i<y
   .rw[if_pos ⟨c3,by omega⟩];exact hX.le hW hD hx (by omega) (by omega)
   .rw[if_neg (by omega)];exact hX _ _ hx J5 (by omega)
 .by_cases c2:x=i
  .rw[if_pos c2,if_neg (by omega),if_pos (by omega)];rcases hr with hr | hr
   .omega
   .have e1:=hX.le hW hD h1 (show i<=y-1 by omega) (by omega);exact hW.tr _ _ _ (hD _) (hD _) (hD _) (hW.TE _ _ (hD _) (hD _) hr) e1
  .rw[if_neg c2,if_neg (c:=y=i) (by omega),if_pos (c:=i<y/\_) (by omega),if_pos (by omega)];exact hX _ _ (by omega) (by omega) (by omega)
end Go.VC
end

section
namespace Go.VC
open Go.Proofs Go.LexS
theorem rM{x:Int}(h0:0<=x)(h1:x<=4611686018427387903):IntKind.wrap .i64 (bQ .u64 (IntKind.wrap .u64 (IntKind.wrap .i64 x)) 1)=x/2:=by
 rw[aZ (n:=x) (by omega) (by omega)];have e1:IntKind.wrap .u64 x=x:=by
  simp[IntKind.wrap,IntKind.signed,IntKind.bits];omega
 rw[e1];have e2:bQ .u64 x 1=x/2:=by
  show x.fdiv (2^1)=x/2;rw[Int.fdiv_eq_ediv_of_nonneg _ (by decide)];rfl
 rw[e2,aZ (by omega) (by omega)]
abbrev bZ(s:Sl)(N:Nat)(f:Nat->Int):It:=.sl s 3 1 ((fL N f).map a6)
theorem bZ.n{h0 h:Heap}{I:List It}{s:Sl}{N:Nat}{f:Nat->Int}(hs:St h0 h (bZ s N f::I)):s.n=N:=by
 have:=(hs.rows 0 (s:=s) (cs:=a6) (l:=fL N f) rfl (by decide)).ln
 rwa [il] at this
theorem bZ.get{h0 h hZ:Heap}{I:List It}{s:Sl}{N:Nat}{f:Nat->Int}{x:Int}{F:Nat->Nat->Prop}(hs:St h0 h (bZ s N f::I))(E:Ext h hZ)(k:Nat)(hx:x=(k:Int))(hk:k<N)(hF:∀b o,hc hZ ⟨b,o+x.toNat*1,none⟩=some (.int .i64 (f k))->F b o):
  NB s.a fun b o=>(0<=x/\x<(s.n:Nat))/\F b o:=by
 have hn:=bZ.n hs;subst hx;refine ((hs.rows 0 (s:=s) (cs:=a6) (l:=fL N f) rfl (by decide)).ext E).aF (by omega) (by omega) fun b o d gd t=>hF b o ?_;rw[show ((k:Int)).toNat=k from rfl,lN hk] at gd;cases gd;exact t.hd
theorem bZ.swap{h0 h:Heap}{I:List It}{s:Sl}{N:Nat}{f:Nat->Int}{x y u v:Int}{K:Heap->Prop}(hs:St h0 h (bZ s N f::I))(p q:Nat)(hx:x=(p:Int))(hy:y=(q:Int))(hp:p<N)(hq:q<N)(hu:u=f q)(hv:v=f p)(hpq:p≠q)
  (hK:∀h',St h0 h' (bZ s N (Cj p q f)::I)->K h') :
  NB s.a fun b o=>(0<=x/\x<(s.n:Nat))/\(fG h ⟨b,o+x.toNat*1,none⟩ 1/\∀h1,h1=bh h ⟨b,o+x.toNat*1,none⟩ 0 [.int .i64 u] ->
   NB s.a fun b o=>(0<=y/\y<(s.n:Nat))/\(fG h1 ⟨b,o+y.toNat*1,none⟩ 1/\∀h2,h2=bh h1 ⟨b,o+y.toNat*1,none⟩ 0 [.int .i64 v]->K h2)):=by
 have hn:=bZ.n hs;subst hx hy hu hv;refine hs.set 0 (cs:=a6) (l:=fL N f) rfl (by decide) (by omega) (by omega) (f q) rfl rfl (fun _ _ h1 jW=>?_) rfl;rw[show ((p:Int)).toNat=p from rfl,EW] at jW;refine St.set (cs:=a6) (l:=fL N fun i=>if i=p then f q else f i) jW 0 rfl (by decide) (by omega) (by omega) (f p) rfl rfl (fun _ _ h2 cp=>hK h2 ?_) rfl;rw[show ((q:Int)).toNat=q from rfl,EW] at cp;have e:fL N (fun i=>if i=q then f p else if i=p then f q else f i)=fL N (Cj p q f):=r4 fun i _=>by
  unfold Cj;by_cases c:i=p
  .rw[if_pos c,if_neg (by omega),if_pos c]
  .rw[if_neg c,if_neg c]
 show St h0 h2 (.sl s 3 1 ((fL N (Cj p q f)).map a6)::I);rw[<-e];exact cp
theorem qO(s:Sl)(N a b n:Nat)(f:Nat->Int)(fv:Value){h0 h:Heap}{I:List It}(hs:St h0 h (bZ s N f::I))(iO:a+n<=b)(hb:b+n<=N)(hN:N<=1048576):
  Fn Pz 307 #[.slice s.a s.n s.c,.int .i64 (a:Nat),.int .i64 (b:Nat),.int .i64 (n:Nat),fv] h fun v h'=>v=.tuple ⟨[]⟩/\St h0 h' (bZ s N (vZ a b n f)::I):=by
 apply Po s (a:Nat) (b:Nat) (n:Nat) fv;unfold TL;refine cQ (n:=n) (fun i h'=>∃g,St h0 h' (bZ s N g::I)/\∀t,g t=vZ a b i f t) ⟨f,hs,fun t=>by unfold vZ;rw[if_neg (by omega),if_neg (by omega)]⟩ ?_;clear hs;rintro-i h5 hi ⟨g,hs,hg⟩;refine aa (fun c=>?_) (fun c=>?_)
 .replace c:=ba c;have e1:IntKind.wrap .i64 ((b:Int)+(i:Int))=((b+i:Nat):Int):=by rw[aZ (by omega) (by omega)];omega
  have e2:IntKind.wrap .i64 ((a:Int)+(i:Int))=((a+i:Nat):Int):=by rw[aZ (by omega) (by omega)];omega
  refine bZ.get hs .cD (b+i) e1 (by omega) fun _ _ t=>⟨_,t,?_⟩;refine bZ.get hs .cD (a+i) e2 (by omega) fun _ _ t=>⟨_,t,?_⟩;refine bZ.swap hs (a+i) (b+i) e2 e1 (by omega) (by omega) rfl rfl (by omega) fun Mu hs=>?_;refine Up.next c (by omega) ⟨_,hs,fun t=>?_⟩;have g1:g (b+i)=f (b+i):=by rw[hg];unfold vZ;rw[if_neg (by omega),if_neg (by omega)]
  have g2:g (a+i)=f (a+i):=by rw[hg];unfold vZ;rw[if_neg (by omega),if_neg (by omega)]
  unfold Cj;rw[g1,g2,hg];unfold vZ;by_cases c1:t=a+i
  .rw[if_pos c1,if_pos (by omega)];congr 1;omega
  .rw[if_neg c1];by_cases c2:t=b+i
   .rw[if_pos c2,if_neg (by omega),if_pos (by omega)];congr 1;omega
   .rw[if_neg c2];by_cases c3:a<=t/\t<a+i
    .rw[if_pos c3,if_pos (by omega)]
    .rw[if_neg c3,if_neg (c:=a<=t/\_) (by omega)];by_cases c4:b<=t/\t<b+i
     .rw[if_pos c4,if_pos (by omega)]
     .rw[if_neg c4,if_neg (by omega)]
 .replace c:=bd c;have:i=n:=by omega
  subst this;refine⟨rfl,?_⟩;rw[show bZ s N (vZ a b i f)=bZ s N g by unfold bZ;rw[r4 fun t _=>hg t]];exact hs
theorem AP(s:Sl)(N a m b:Nat)(f:Nat->Int)(fv:Value){h0 h:Heap}{I:List It}(hs:St h0 h (bZ s N f::I))(ham:a<m)(hmb:m<b)(hb:b<=N)(hN:N<=1048576):
  Fn Pz 294 #[.slice s.a s.n s.c,.int .i64 (a:Nat),.int .i64 (m:Nat),.int .i64 (b:Nat),fv] h fun v h'=>v=.tuple ⟨[]⟩/\St h0 h' (bZ s N (dz a m b f)::I):=by
 apply Pw s (a:Nat) (m:Nat) (b:Nat) fv;unfold TT;refine⟨fun x y h' μ=>∃(i j:Nat) (g:Nat->Int),x=(i:Int)/\y=(j:Int)/\μ=i+j/\0<i/\0<j/\i<=m-a/\j<=b-m/\St h0 h' (bZ s N g::I)/\Cz (dz a m b f) m i j g,⟨_,m-a,b-m,f,by rw[aZ (by omega) (by omega)];omega,by rw[aZ (by omega) (by omega)];omega,rfl,by omega,by omega,aY _,aY _,hs,Cz.start f (by omega) (by omega)⟩,?_⟩;clear hs;rintro-_ _ h6 μ ⟨i,j,g,rfl,rfl,rfl,hi,hj,hia,hjb,hs,hR⟩;have e1:IntKind.wrap .i64 ((m:Int)-(i:Int))=((m-i:Nat):Int):=by rw[aZ (by omega) (by omega)];omega
 refine iC (fun c=>?_) (fun c=>?_)
 .refine aQ (fun c2=>?_) (fun c2=>?_)
  .rw[e1];refine (qO s N (m-i) m j g fv hs (by omega) (by omega) hN).mono ?_;rintro _ h8 ⟨rfl,hs⟩;exact⟨rfl,_,(show i-j+j<i+j by omega),i-j,j,_,by rw[aZ (by omega) (by omega)];omega,rfl,rfl,by omega,hj,by omega,hjb,hs,hR.more (by omega)⟩
  .have e2:IntKind.wrap .i64 ((IntKind.wrap .i64 ((m:Int)+(j:Int)))-(i:Int))=((m+j-i:Nat):Int):=by rw[aZ (n:=(m:Int)+(j:Int)) (by omega) (by omega),aZ (by omega) (by omega)];omega
   rw[e1,e2];refine (qO s N (m-i) (m+j-i) i g fv hs (by omega) (by omega) hN).mono ?_;rintro _ h8 ⟨rfl,hs⟩;exact⟨rfl,_,(show i+(j-i)<i+j by omega),i,j-i,_,rfl,by rw[aZ (by omega) (by omega)];omega,rfl,hi,by omega,hia,by omega,hs,hR.less (by omega)⟩
 .have:i=j:=by omega
  subst this;rw[e1];refine (qO s N (m-i) m i g fv hs (by omega) (by omega) hN).mono ?_;rintro _ h8 ⟨rfl,hs⟩;refine⟨rfl,rfl,?_⟩;rw[show bZ s N (dz a m b f)=bZ s N (vZ (m-i) m i g) by unfold bZ;rw[r4 fun t _=>(hR.done t).symm]];exact hs
def Aw(fv:Value)(s:Sl)(N:Nat)(I:List It)(h0:Heap)(R:Int->Int->Prop)(D:Int->Prop):Prop:=∃(g:Nat) (fa fc:Array Value),fv=.func (.func g) fa fc/\au Pz g=true /\
 ∀(h:Heap) (k:Nat->Int) (x y:Int),D x->D y->0<N->St h0 h (bZ s N k::I)->Fn Pz g (fa ++ #[.int .i64 x,.int .i64 y]++fc) h fun v h'=>∃c:Int,v=.int .i64 c/\Ext h h'/\(c<0 ↔ R x y)
theorem qe(s:Sl)(N a b:Nat)(f:Nat->Int)(fv:Value){h0 h:Heap}{I:List It}{R:Int->Int->Prop}{D:Int->Prop}(hW:Wo R D)(hD:∀i,D (f i))(hC:Aw fv s N I h0 R D)(hs:St h0 h (bZ s N f::I))(iO:a<=b)(hb:b<=N)(hN:N<=1048576):
  Fn Pz 261 #[.slice s.a s.n s.c,.int .i64 (a:Nat),.int .i64 (b:Nat),fv] h fun v h'=>v=.tuple ⟨[]⟩/\∃g,St h0 h' (bZ s N g::I)/\Pm a b f g/\So R g a b:=by
 obtain⟨cg,fa,fc,rfl,uQ,xu⟩:=hC;apply PO s (a:Nat) (b:Nat);unfold Ua Gz;have e1:IntKind.wrap .i64 ((a:Int)+1)=((a+1:Nat):Int):=by rw[aZ (by omega) (by omega)];omega
 rw[e1];refine⟨fun x h' μ=>∃(i:Nat) (g:Nat->Int),x=(i:Int)/\μ=b+1-i/\a+1<=i/\i<=b+1/\St h0 h' (bZ s N g::I)/\Pm a b f g/\So R g a (min i b),⟨_,a+1,f,rfl,rfl,aY _,by omega,hs,Pm.refl _ _ _,fun i j h1 h2 h3=>by omega⟩,?_⟩;clear hs;rintro-_ h5 μ ⟨i,g,rfl,rfl,hai,hib,hs,hP,hS⟩;refine aa (fun c=>?_) (fun c=>?_)
 .replace c:=ba c;rw[Nat.min_eq_left (by omega)] at hS;refine⟨fun x h' μ=>∃(j:Nat) (k:Nat->Int),x=(j:Int)/\μ=0+j/\a<=j/\j<=i/\St h0 h' (bZ s N k::I)/\Pm a b f k/\(∀u v,a<=u->u<v->v<=i->v≠j->¬R (k v) (k u)),⟨_,i,g,rfl,rfl,by omega,aY _,hs,hP,fun u v h1 h2 h3 h4=>hS u v h1 h2 (by omega)⟩,?_⟩;clear hs;rintro-_ cA μ ⟨j,k,rfl,rfl,haj,hji,hs,hP,hK⟩;have Mj:=hP.MU hD;have fin:(∀u v,a<=u->u<v->v<=i->¬R (k v) (k u))->∀ {hZ:Heap},Ext cA hZ->∃m32,m32<b+1-i/\∃(Rr:Nat) (g:Nat->Int),IntKind.wrap .i64 ((i:Int)+1)=(Rr:Int)/\m32=b+1-Rr/\a+1<=Rr/\Rr<=b+1/\St h0 hZ (bZ s N g::I)/\Pm a b f g/\So R g a (min Rr b):=fun hq {hZ} E=>
   ⟨_,(show b+1-(i+1)<b+1-i by omega),i+1,k,by rw[aZ (by omega) (by omega)];omega,rfl,by omega,by omega,hs.step E,hP,fun u v h1 h2 h3=>hq u v h1 h2 (by omega)⟩
  refine aQ (fun c2=>?_) (fun c2=>?_)
  .have e2:IntKind.wrap .i64 ((j:Int)-1)=((j-1:Nat):Int):=by rw[aZ (by omega) (by omega)];omega
   refine bZ.get hs .cD j rfl (by omega) fun _ _ t=>⟨_,t,?_⟩;refine bZ.get hs .cD (j-1) e2 (by omega) fun _ _ t=>⟨_,t,?_⟩;show (bif au Pz cg then _ else _);rw[uQ,cond_true];refine (xu cA k (k j) (k (j-1)) (Mj _) (Mj _) (by omega) hs).mono ?_;rintro _ fK ⟨cc,rfl,E,sT⟩;have hs:=hs.step E;refine⟨cc,rfl,aQ (fun c3=>?_) (fun c3=>?_)⟩
   .have hR:=sT.1 c3;refine bZ.get hs .cD (j-1) e2 (by omega) fun _ _ t=>⟨_,t,?_⟩;refine bZ.get hs .cD j rfl (by omega) fun _ _ t=>⟨_,t,?_⟩;refine bZ.swap hs j (j-1) rfl e2 (by omega) (by omega) rfl rfl (by omega) fun mm hs=>?_;refine⟨_,(show 0+(j-1)<0+j by omega),j-1,_,e2,rfl,by omega,by omega,hs,hP.trans (Pm.swap k ⟨by omega,by omega⟩ ⟨by omega,by omega⟩),fun u v h1 h2 h3 h4=>?_⟩;unfold Cj;by_cases v1:v=j
    .rw[if_pos v1];by_cases u1:u=j-1
     .rw[if_neg (by omega),if_pos u1];exact hW.TE _ _ (Mj _) (Mj _) hR
     .rw[if_neg (by omega),if_neg u1];exact hK u (j-1) h1 (by omega) (by omega) (by omega)
    .rw[if_neg v1,if_neg h4];by_cases u1:u=j
     .rw[if_pos u1];exact hK (j-1) v (by omega) (by omega) h3 v1
     .rw[if_neg u1];by_cases u2:u=j-1
      .rw[if_pos u2];exact hK j v (by omega) (by omega) h3 v1
      .rw[if_neg u2];exact hK u v h1 h2 h3 v1
   .refine fin (fun u v h1 h2 h3=>?_) E;by_cases v1:v=j
    .subst v1;have hR:¬R (k v) (k (v-1)):=fun c=>c3 (sT.2 c);by_cases u1:u=v-1
     .subst u1;exact hR
     .exact hW.tr _ _ _ (Mj _) (Mj _) (Mj _) (hK u (v-1) h1 (by omega) (by omega) (by omega)) hR
    .exact hK u v h1 h2 h3 v1
  .exact fin (fun u v h1 h2 h3=>hK u v h1 h2 h3 (by omega)) .cD
 .replace c:=bd c;rw[Nat.min_eq_right (by omega)] at hS;exact⟨rfl,g,hs,hP,hS⟩
theorem DE{a p:Nat}{f g:Nat->Int}(hap:a<=p)(hg:∀t,g t=H5 a p f t):∀t,Cj p (p+1) g t=H5 a (p+1) f t:=by
 intro t;have g1:g p=f a:=by
  rw[hg];unfold H5;rw[if_neg (by omega),if_pos rfl]
 have g2:g (p+1)=f (p+1):=by rw[hg];unfold H5;rw[if_neg (by omega),if_neg (by omega)]
 unfold Cj;rw[g1,g2,hg];unfold H5;by_cases c1:t=p
 .rw[if_pos c1,if_pos (by omega),c1]
 .rw[if_neg c1];by_cases c2:t=p+1
  .rw[if_pos c2,if_neg (by omega),if_pos c2]
  .rw[if_neg c2,if_neg c1,if_neg c2];by_cases c3:a<=t/\t<p
   .rw[if_pos c3,if_pos (by omega)]
   .rw[if_neg c3,if_neg (by omega)]
theorem DF{p m:Nat}{f g:Nat->Int}(h0:0<p)(oH:p<=m)(hg:∀t,g t=H6 p m f t):∀t,Cj p (p-1) g t=H6 (p-1) m f t:=by
 intro t;have g1:g p=f m:=by rw[hg];unfold H6;rw[if_pos rfl]
 have g2:g (p-1)=f (p-1):=by rw[hg];unfold H6;rw[if_neg (by omega),if_neg (by omega)]
 unfold Cj;rw[g1,g2,hg];unfold H6;by_cases c1:t=p
 .rw[if_pos c1,if_neg (by omega),if_pos (by omega),c1]
 .rw[if_neg c1];by_cases c2:t=p-1
  .rw[if_pos c2,if_pos c2]
  .rw[if_neg c2,if_neg c1,if_neg c2];by_cases c3:p<t/\t<=m
   .rw[if_pos c3,if_pos (by omega)]
   .rw[if_neg c3,if_neg (by omega)]
theorem ue{R:Int->Int->Prop}{D:Int->Prop}(hW:Wo R D)(s:Sl)(N:Nat)(fv:Value){h0:Heap}{I:List It}(hC:Aw fv s N I h0 R D)(hN:N<=1048576):∀(z a m b:Nat) (f:Nat->Int) (h:Heap),b-a<=z->a<m->m<b->b<=N->(∀i,D (f i))->So R f a m->So R f m b->St h0 h (bZ s N f::I) ->
  Fn Pz 262 #[.slice s.a s.n s.c,.int .i64 (a:Nat),.int .i64 (m:Nat),.int .i64 (b:Nat),fv] h fun v h'=>v=.tuple ⟨[]⟩/\∃g,St h0 h' (bZ s N g::I)/\Pm a b f g/\So R g a b:=by
 obtain⟨cg,fa,fc,rfl,uQ,xu⟩:=hC;intro z
 induction z with
 | zero=>intro a m b f h hz ham hmb;omega
 | succ z ih=>
 intro a m b f h hz ham hmb hb hD hX hY hs;have ih':∀(a m b:Nat) (f:Nat->Int) (h:Heap),b-a<=z->a<m->m<b->b<=N->(∀i,D (f i))->So R f a m->So R f m b->St h0 h (bZ s N f::I) ->
  Fn Pz 262 #[.slice s.a s.n s.c,.int .i64 (a:Nat),.int .i64 (m:Nat),.int .i64 (b:Nat),.func (.func cg) fa fc] h fun v h'=>v=.tuple ⟨[]⟩/\∃g,St h0 h' (bZ s N g::I)/\Pm a b f g/\So R g a b:=ih
 clear ih;apply PN s (a:Nat) (m:Nat) (b:Nat);unfold T9 Gy Al vP;have s1:IntKind.wrap .i64 ((m:Int)-(a:Int))=((m-a:Nat):Int):=by rw[aZ (by omega) (by omega)];omega
 have s2:IntKind.wrap .i64 ((b:Int)-(m:Int))=((b-m:Nat):Int):=by rw[aZ (by omega) (by omega)];omega
 rw[s1,s2];refine aa (fun c0=>?_) (fun c0=>?_)
 .-- one element on the left
  have c0:m=a+1:=by have:=eq_of_beq c0;omega
  subst c0;refine⟨fun x y h' μ=>∃i j:Nat,x=(i:Int)/\y=(j:Int)/\μ=j-i/\a+1<=i/\i<=j/\j<=b/\St h0 h' (bZ s N f::I)/\(i=a+1\/R (f (i-1)) (f a))/\(j=b\/¬R (f j) (f a)),⟨_,a+1,b,rfl,rfl,rfl,aY _,by omega,aY _,hs,.inl rfl,.inl rfl⟩,?_⟩;clear hs;rintro-_ _ h6 μ ⟨i,j,rfl,rfl,rfl,hai,zh,hjb,hs,hl,hr⟩;have e1:IntKind.wrap .i64 (bQ .u64 (IntKind.wrap .u64 (IntKind.wrap .i64 ((i:Int)+(j:Int)))) 1)=(((i+j)/2:Nat):Int):=by rw[rM (by omega) (by omega)];omega
  rw[e1];refine aa (fun c=>?_) (fun c=>?_)
  .replace c:=ba c;refine⟨by decide,?_⟩;refine bZ.get hs .cD ((i+j)/2) rfl (by omega) fun _ _ t=>⟨_,t,?_⟩;refine bZ.get hs .cD a rfl (by omega) fun _ _ t=>⟨_,t,?_⟩;show (bif au Pz cg then _ else _);rw[uQ,cond_true];refine (xu h6 f (f ((i+j)/2)) (f a) (hD _) (hD _) (by omega) hs).mono ?_;rintro _ xB ⟨cc,rfl,E,sT⟩;have hs:=hs.step E;refine⟨cc,rfl,aQ (fun c3=>?_) (fun c3=>?_)⟩
   .refine⟨_,(show j-((i+j)/2+1)<j-i by omega),(i+j)/2+1,j,by rw[aZ (by omega) (by omega)];omega,rfl,rfl,by omega,by omega,hjb,hs,.inr ?_,hr⟩;rw[Nat.add_sub_cancel];exact sT.1 c3
   .exact⟨_,(show (i+j)/2-i<j-i by omega),i,(i+j)/2,rfl,rfl,rfl,hai,by omega,by omega,hs,hl,.inr fun c=>c3 (sT.2 c)⟩
  .replace c:=bd c;have:j=i:=by omega
   subst this;have e2:IntKind.wrap .i64 ((j:Int)-1)=((j-1:Nat):Int):=by rw[aZ (by omega) (by omega)];omega
   rw[e2];refine⟨fun x h' μ=>∃(k:Nat) (g:Nat->Int),x=(k:Int)/\μ=j-k/\a<=k/\k<=j-1/\St h0 h' (bZ s N g::I)/\(∀t,g t=H5 a k f t)/\Pm a b f g,⟨_,a,f,rfl,rfl,aY _,by omega,hs,fun t=>by
    unfold H5;rw[if_neg (by omega)];by_cases c:t=a
    .rw[if_pos c,c]
    .rw[if_neg c],Pm.refl _ _ _⟩,?_⟩
   clear hs;rintro-_ h25 μ ⟨k,g,rfl,rfl,hak,hkj,hs,hg,hP⟩;have e3:IntKind.wrap .i64 ((k:Int)+1)=((k+1:Nat):Int):=by rw[aZ (by omega) (by omega)];omega
   refine aa (fun c4=>?_) (fun c4=>?_)
   .replace c4:=ba c4;refine bZ.get hs .cD (k+1) e3 (by omega) fun _ _ t=>⟨_,t,?_⟩;refine bZ.get hs .cD k rfl (by omega) fun _ _ t=>⟨_,t,?_⟩;refine bZ.swap hs k (k+1) rfl e3 (by omega) (by omega) rfl rfl (by omega) fun qs hs=>?_;exact⟨_,(show j-(k+1)<j-k by omega),k+1,_,e3,rfl,by omega,by omega,hs,DE hak hg,hP.trans (Pm.swap g ⟨by omega,by omega⟩ ⟨by omega,by omega⟩)⟩
   .replace c4:=bd c4;have:k=j-1:=by omega
    subst this;exact⟨rfl,g,hs,hP,(xd hW hD hY hai hjb hl hr).of fun i _ _=>hg i⟩
 refine aa (fun c1=>?_) (fun c1=>?_)
 .-- one element on the right
  have c1:b=m+1:=by have:=eq_of_beq c1;omega
  subst c1;refine⟨fun x y h' μ=>∃i j:Nat,x=(i:Int)/\y=(j:Int)/\μ=j-i/\a<=i/\i<=j/\j<=m/\St h0 h' (bZ s N f::I)/\(i=a\/¬R (f m) (f (i-1)))/\(j=m\/R (f m) (f j)),⟨_,a,m,rfl,rfl,rfl,aY _,by omega,aY _,hs,.inl rfl,.inl rfl⟩,?_⟩;clear hs;rintro-_ _ xz μ ⟨i,j,rfl,rfl,rfl,hai,zh,hjm,hs,hl,hr⟩;have e1:IntKind.wrap .i64 (bQ .u64 (IntKind.wrap .u64 (IntKind.wrap .i64 ((i:Int)+(j:Int)))) 1)=(((i+j)/2:Nat):Int):=by rw[rM (by omega) (by omega)];omega
  rw[e1];refine aa (fun c=>?_) (fun c=>?_)
  .replace c:=ba c;refine⟨by decide,?_⟩;refine bZ.get hs .cD m rfl (by omega) fun _ _ t=>⟨_,t,?_⟩;refine bZ.get hs .cD ((i+j)/2) rfl (by omega) fun _ _ t=>⟨_,t,?_⟩;show (bif au Pz cg then _ else _);rw[uQ,cond_true];refine (xu xz f (f m) (f ((i+j)/2)) (hD _) (hD _) (by omega) hs).mono ?_;rintro _ oK ⟨cc,rfl,E,sT⟩;have hs:=hs.step E;refine⟨cc,rfl,aa (fun c3=>?_) (fun c3=>?_)⟩
   .have c3:=eB (bF c3);refine⟨_,(show j-((i+j)/2+1)<j-i by omega),(i+j)/2+1,j,by rw[aZ (by omega) (by omega)];omega,rfl,rfl,by omega,by omega,hjm,hs,.inr ?_,hr⟩;rw[Nat.add_sub_cancel];exact fun c=>c3 (sT.2 c)
   .have c3:=bM (bT c3);exact⟨_,(show (i+j)/2-i<j-i by omega),i,(i+j)/2,rfl,rfl,rfl,hai,by omega,by omega,hs,hl,.inr (sT.1 c3)⟩
  .replace c:=bd c;have:j=i:=by omega
   subst this;refine⟨fun x h' μ=>∃(k:Nat) (g:Nat->Int),x=(k:Int)/\μ=0+k/\j<=k/\k<=m/\St h0 h' (bZ s N g::I)/\(∀t,g t=H6 k m f t)/\Pm a (m+1) f g,⟨_,m,f,rfl,rfl,hjm,aY _,hs,fun t=>by
    unfold H6;by_cases c:t=m
    .rw[if_pos c,c]
    .rw[if_neg c,if_neg (by omega)],Pm.refl _ _ _⟩,?_⟩
   clear hs;rintro-_ qm μ ⟨k,g,rfl,rfl,VO,VL,hs,hg,hP⟩;refine aQ (fun c4=>?_) (fun c4=>?_)
   .have e3:IntKind.wrap .i64 ((k:Int)-1)=((k-1:Nat):Int):=by rw[aZ (by omega) (by omega)];omega
    refine bZ.get hs .cD (k-1) e3 (by omega) fun _ _ t=>⟨_,t,?_⟩;refine bZ.get hs .cD k rfl (by omega) fun _ _ t=>⟨_,t,?_⟩;refine bZ.swap hs k (k-1) rfl e3 (by omega) (by omega) rfl rfl (by omega) fun jZ hs=>?_;exact⟨_,(show 0+(k-1)<0+k by omega),k-1,_,e3,rfl,by omega,by omega,hs,DF (by omega) VL hg,hP.trans (Pm.swap g ⟨by omega,by omega⟩ ⟨by omega,by omega⟩)⟩
   .have:k=j:=by omega
    subst this;exact⟨rfl,g,hs,hP,(xe hW hD hX hai hjm hl hr).of fun i _ _=>hg i⟩
 have c0:m≠a+1:=fun e=>by rw[e,Nat.add_sub_cancel_left] at c0;exact absurd c0 (by decide)
 have c1:b≠m+1:=fun e=>by rw[e,Nat.add_sub_cancel_left] at c1;exact absurd c1 (by decide)
 have e1:IntKind.wrap .i64 (bQ .u64 (IntKind.wrap .u64 (IntKind.wrap .i64 ((a:Int)+(b:Int)))) 1)=(((a+b)/2:Nat):Int):=by rw[rM (by omega) (by omega)];omega
 rw[e1];generalize hd:(a+b)/2=d;have e2:IntKind.wrap .i64 ((d:Int)+(m:Int))=((d+m:Nat):Int):=by rw[aZ (by omega) (by omega)];omega
 rw[e2];refine⟨by decide,fun x y h'=>∃i j:Nat,x=(i:Int)/\y=(j:Int)/\h'=h/\((d<m/\i=d+m-b/\j=d)\/(m<=d/\i=a/\j=m)),?_,?_⟩
 .refine aQ (fun c=>?_) (fun c=>?_)
  .exact⟨d+m-b,d,by rw[aZ (by omega) (by omega)];omega,rfl,rfl,.inl ⟨by omega,rfl,rfl⟩⟩
  .exact⟨a,m,rfl,rfl,rfl,.inr ⟨by omega,rfl,rfl⟩⟩
 rintro-_ _ _ ⟨i0,j0,rfl,rfl,rfl,Bs⟩;have Br:a<=i0/\i0<=j0/\j0<=m/\j0<=d/\d+m-i0<=b/\(i0=a\/d+m-i0=b)/\(j0=m\/j0=d):=by omega
 clear Bs;refine⟨fun x y h' μ=>∃i j:Nat,x=(i:Int)/\y=(j:Int)/\μ=j-i/\i0<=i/\i<=j/\j<=j0/\St h0 h' (bZ s N f::I)/\(i=i0\/¬R (f (d+m-i)) (f (i-1)))/\(j=j0\/R (f (d+m-1-j)) (f j)),⟨_,i0,j0,rfl,rfl,rfl,aY _,Br.2.1,aY _,hs,.inl rfl,.inl rfl⟩,?_⟩;clear hs;rintro-_ _ pE μ ⟨i,j,rfl,rfl,rfl,Kk,zh,hj0,hs,hl,hr⟩;have e3:IntKind.wrap .i64 (bQ .u64 (IntKind.wrap .u64 (IntKind.wrap .i64 ((i:Int)+(j:Int)))) 1)=(((i+j)/2:Nat):Int):=by rw[rM (by omega) (by omega)];omega
 have e4:IntKind.wrap .i64 (((d+m:Nat):Int)-1)=((d+m-1:Nat):Int):=by rw[aZ (by omega) (by omega)];omega
 rw[e3,e4];refine aa (fun c=>?_) (fun c=>?_)
 .replace c:=ba c;have e5:IntKind.wrap .i64 (((d+m-1:Nat):Int)-(((i+j)/2:Nat):Int))=((d+m-1-(i+j)/2:Nat):Int):=by rw[aZ (by omega) (by omega)];omega
  refine⟨by decide,?_⟩;refine bZ.get hs .cD (d+m-1-(i+j)/2) e5 (by omega) fun _ _ t=>⟨_,t,?_⟩;refine bZ.get hs .cD ((i+j)/2) rfl (by omega) fun _ _ t=>⟨_,t,?_⟩;show (bif au Pz cg then _ else _);rw[uQ,cond_true];refine (xu pE f (f (d+m-1-(i+j)/2)) (f ((i+j)/2)) (hD _) (hD _) (by omega) hs).mono ?_;rintro _ h98 ⟨cc,rfl,E,sT⟩;have hs:=hs.step E;refine⟨cc,rfl,aa (fun c3=>?_) (fun c3=>?_)⟩
  .have c3:=eB (bF c3);refine⟨_,(show j-((i+j)/2+1)<j-i by omega),(i+j)/2+1,j,by rw[aZ (by omega) (by omega)];omega,rfl,rfl,by omega,by omega,hj0,hs,.inr ?_,hr⟩;rw[Nat.add_sub_cancel,show d+m-((i+j)/2+1)=d+m-1-(i+j)/2 by omega];exact fun c=>c3 (sT.2 c)
  .have c3:=bM (bT c3);exact⟨_,(show (i+j)/2-i<j-i by omega),i,(i+j)/2,rfl,rfl,rfl,Kk,by omega,by omega,hs,hl,.inr (sT.1 c3)⟩
 .replace c:=bd c;have:j=i:=by omega
  subst this;have Ml:GP R f a m b j:=by
   refine⟨by rw[hd];omega,fun h1 h2=>?_,fun h1 h2=>?_⟩
   .rw[hd] at h2 ⊢;rcases hl with hl | hl
    .omega
    .exact hl
   .rw[hd] at h2 ⊢;rcases hr with hr | hr
    .omega
    .rw[show d+m-j-1=d+m-1-j by omega];exact hr
  have e6:IntKind.wrap .i64 (((d+m:Nat):Int)-(j:Int))=((d+m-j:Nat):Int):=by rw[aZ (by omega) (by omega)];omega
  rw[e6];obtain⟨Jy,pK⟩:=Fo hX hY Ml;obtain⟨R1,R2⟩:=BR hX hY Ml;have fin:=@zD R D f;have YH:=Pm.rot (a:=j) (m:=m) (b:=d+m-j) f (by omega) (by omega);rw[hd] at Jy pK R1 R2;have Q5:(j=m\/m=d+m-j)->∀t,dz j m (d+m-j) f t=f t:=fun hc t=>by
   unfold dz;rcases hc with hc | hc
   .subst hc;by_cases c2:j<=t/\t<j+(d+j-j-j)
    .rw[if_pos c2,Nat.sub_self,Nat.add_zero]
    .rw[if_neg c2,if_neg (by omega)]
   .rw[if_neg (by omega)];by_cases c2:j+(d+m-j-m)<=t/\t<d+m-j
    .rw[if_pos c2];congr 1;omega
    .rw[if_neg c2]
  refine⟨fun h'=>St h0 h' (bZ s N (dz j m (d+m-j) f)::I),?_,?_⟩
  .have stay:(j=m\/m=d+m-j)->St h0 pE (bZ s N (dz j m (d+m-j) f)::I):=fun hc=>by
    rw[show bZ s N (dz j m (d+m-j) f)=bZ s N f by unfold bZ;rw[r4 fun t _=>Q5 hc t]];exact hs
   refine aa (fun c2=>?_) (fun c2=>stay ?_)
   .replace c2:=ba c2;refine aa (fun c3=>?_) (fun c3=>stay ?_)
    .replace c3:=ba c3;refine (AP s N j m (d+m-j) f _ hs c2 c3 (by omega) hN).mono ?_;rintro _ SP ⟨rfl,hs⟩;exact⟨rfl,hs⟩
    .replace c3:=bd c3;omega
   .replace c2:=bd c2;omega
  clear hs;rintro-MA hs;have hD2:=YH.MU hD;generalize hF:dz j m (d+m-j) f=F at *;refine⟨fun h'=>∃g,St h0 h' (bZ s N g::I)/\Pm a d F g/\So R g a d,?_,?_⟩
  .have stay:(a=j\/j=d)->So R F a d:=fun hc=>by
    rcases hc with hc | hc
    .rw[hc];exact pK
    .rw[<-hc];exact Jy
   refine aa (fun c2=>?_) (fun c2=>⟨F,hs,Pm.refl _ _ _,stay ?_⟩)
   .replace c2:=ba c2;refine aa (fun c3=>?_) (fun c3=>⟨F,hs,Pm.refl _ _ _,stay ?_⟩)
    .replace c3:=ba c3;refine (ih' a j d F MA (by omega) c2 c3 (by omega) hD2 Jy pK hs).mono ?_;rintro _ SO ⟨rfl,g,hs,hP,hS⟩;exact⟨rfl,g,hs,hP,hS⟩
    .replace c3:=bd c3;omega
   .replace c2:=bd c2;omega
  clear hs;rintro-h108 ⟨g,hs,hP,hS⟩;have hD3:=hP.MU hD2;have R1':So R g d (d+m-j):=R1.of fun i h1 h2=>hP.out (.inr h1);have R2':So R g (d+m-j) b:=R2.of fun i h1 h2=>hP.out (.inr (by omega));have done:∀ {hZ:Heap} {k:Nat->Int},St h0 hZ (bZ s N k::I)->Pm d b g k->So R k d b->(Value.tuple ⟨[]⟩=.tuple ⟨[]⟩/\∃g,St h0 hZ (bZ s N g::I)/\Pm a b f g/\So R g a b):=fun {hZ k} hs hP2 hS2=>by
   have:=zD (k:=k) (g:=g) hW hD hX hY Ml (by rw[hd,hF];exact hP) (by rw[hd];exact hS) (by rw[hd];exact hP2) (by rw[hd];exact hS2);exact⟨rfl,k,hs,this.1,this.2⟩
  have stay:(d=d+m-j\/d+m-j=b)->So R g d b:=fun hc=>by
   rcases hc with hc | hc
   .rw[<-hc] at R2';exact R2'
   .rw[<-hc];exact R1'
  refine aa (fun c2=>?_) (fun c2=>done hs (Pm.refl _ _ _) (stay ?_))
  .replace c2:=ba c2;refine aa (fun c3=>?_) (fun c3=>done hs (Pm.refl _ _ _) (stay ?_))
   .replace c3:=ba c3;refine (ih' d (d+m-j) b g h108 (by omega) c2 c3 hb hD3 R1' R2' hs).mono ?_;rintro _ acK ⟨rfl,k,hs,hP2,hS2⟩;exact⟨rfl,done hs hP2 hS2⟩
   .replace c3:=bd c3;omega
  .replace c2:=bd c2;omega
theorem AE{R:Int->Int->Prop}{D:Int->Prop}(hW:Wo R D)(s:Sl)(N:Nat)(fv:Value)(f:Nat->Int){h0 h:Heap}{I:List It}(hC:Aw fv s N I h0 R D)(hN:N<=1048576)(hD:∀i,D (f i))(hs:St h0 h (bZ s N f::I)):
  Fn Pz 212 #[.slice s.a s.n s.c,.int .i64 (N:Nat),fv] h fun v h'=>v=.tuple ⟨[]⟩/\∃g,St h0 h' (bZ s N g::I)/\Pm 0 N f g/\So R g 0 N:=by
 apply P3 s (N:Nat) fv;unfold Um;refine⟨fun x y h' μ=>∃(k:Nat) (g:Nat->Int),x=((20*k:Nat):Int)/\y=((20*k+20:Nat):Int)/\μ=N-20*k/\20*k<=N/\St h0 h' (bZ s N g::I)/\Pm 0 N f g/\∀i,i<k->So R g (20*i) (20*i+20),⟨_,0,f,rfl,rfl,rfl,Nat.zero_le _,hs,Pm.refl _ _ _,fun i hi=>by omega⟩,?_⟩;clear hs;rintro-_ _ h6 μ ⟨k,g,rfl,rfl,rfl,hk,hs,hP,hB⟩;refine aQ (fun c=>?_) (fun c=>?_)
 .refine (qe s N (20*k) (20*k+20) g fv hW (hP.MU hD) hC hs (by omega) (by omega) hN).mono ?_;rintro _ h8 ⟨rfl,g',hs,hP',hS'⟩;refine⟨rfl,_,(show N-20*(k+1)<N-20*k by omega),k+1,g',by omega,by rw[aZ (by omega) (by omega)];omega,rfl,by omega,hs,hP.trans (hP'.wide (by omega) (by omega)),fun i hi=>?_⟩;by_cases e:i=k
  .subst e;exact hS'
  .exact (hB i (by omega)).of fun t h1 h2=>hP'.out (.inl (by omega))
 refine (qe s N (20*k) N g fv hW (hP.MU hD) hC hs hk (aY _) hN).mono ?_;rintro _ xG ⟨rfl,g1,hs,hP1,hS1⟩;refine⟨rfl,?_⟩;have SF:∀i,20*i<N->So R g1 (20*i) (min (20*i+20) N):=fun i hi=>by
  rcases Nat.lt_trichotomy i k with e | e | e
  .rw[Nat.min_eq_left (by omega)];exact (hB i e).of fun t h1 h2=>hP1.out (.inl (by omega))
  .subst e;rw[Nat.min_eq_right (by omega)];exact hS1
  .omega
 refine⟨fun x h' μ=>∃(z:Nat) (g:Nat->Int),x=(z:Int)/\μ=N-z/\20<=z/\z<=4194304/\St h0 h' (bZ s N g::I)/\Pm 0 N f g/\∀i,z*i<N->So R g (z*i) (min (z*i+z) N),⟨_,20,g1,rfl,rfl,aY _,by decide,hs,hP.trans (hP1.wide (by omega) (by omega)),SF⟩,?_⟩;clear hs hP hB hP1 hS1 SF;rintro-_ fR μ ⟨z,g,rfl,rfl,hz,J4,hs,hP,hB⟩;refine aQ (fun c2=>?_) (fun c2=>?_)
 .refine⟨fun x y h' μ=>∃(k:Nat) (g:Nat->Int),x=((2*z*k:Nat):Int)/\y=((2*z*k+2*z:Nat):Int)/\μ=N-2*z*k/\2*z*k<=N/\St h0 h' (bZ s N g::I)/\Pm 0 N f g/\(∀i,i<k->So R g (2*z*i) (2*z*i+2*z))/\∀i,2*k<=i->z*i<N->So R g (z*i) (min (z*i+z) N),
   ⟨_,0,g,by rw[Nat.mul_zero];rfl,by rw[Nat.mul_zero,aZ (by omega) (by omega)];omega,rfl,by rw[Nat.mul_zero];exact Nat.zero_le _,hs,hP,fun i hi=>by omega,fun i _=>hB i⟩,?_⟩
  clear hs hP hB;rintro-_ _ fK μ ⟨k,g,rfl,rfl,rfl,hk,hs,hP,hA,hB⟩;have Od:z*(2*k)=2*z*k:=by rw[Nat.mul_comm 2 z,Nat.mul_assoc]
  have Hf:z*(2*k+1)=2*z*k+z:=by rw[Nat.mul_add,Nat.mul_one,Od]
  have Ww:z*(2*k+2)=2*z*k+2*z:=by rw[Nat.mul_add,Od,Nat.mul_comm z 2]
  have q8:2*z*(k+1)=2*z*k+2*z:=by rw[Nat.mul_add,Nat.mul_one]
  have up:∀ {i j:Nat},i+1<=j->2*z*i+2*z<=2*z*j:=fun {i j} h=>by
   have:=Nat.mul_le_mul_left (2*z) h
   rwa [Nat.mul_add,Nat.mul_one] at this
  have e3:IntKind.wrap .i64 (((2*z*k:Nat):Int)+(z:Int))=((2*z*k+z:Nat):Int):=by rw[aZ (by omega) (by omega)];omega
  rw[e3];have b1:2*z*k+z<=N->So R g (2*z*k) (2*z*k+z):=fun hle=>by
   have:=hB (2*k) (aY _) (by rw[Od];omega);rw[Od,Nat.min_eq_left (by omega)] at this;exact this
  refine aQ (fun c3=>?_) (fun c3=>?_)
  .have b2:So R g (2*z*k+z) (2*z*k+2*z):=by
    have:=hB (2*k+1) (by omega) (by rw[Hf];omega);rw[Hf,Nat.min_eq_left (by omega),show 2*z*k+z+z=2*z*k+2*z by omega] at this;exact this
   refine (ue hW s N fv hC hN _ (2*z*k) (2*z*k+z) (2*z*k+2*z) g fK (aY _) (by omega) (by omega) (by omega) (hP.MU hD) (b1 (by omega)) b2 hs).mono ?_;rintro _ EI ⟨rfl,g',hs,hP',hS'⟩;refine⟨rfl,_,(show N-2*z*(k+1)<N-2*z*k by rw[q8];omega),k+1,g',by rw[q8],by rw[q8,aZ (n:=2*(z:Int)) (by omega) (by omega),aZ (by omega) (by omega)];omega,rfl,by rw[q8];omega,hs,hP.trans (hP'.wide (by omega) (by omega)),fun i hi=>?_,fun i hi cG=>?_⟩
   .by_cases e:i=k
    .subst e;exact hS'
    .have:=up (show i+1<=k by omega);exact (hA i (by omega)).of fun t h1 h2=>hP'.out (.inl (by omega))
   .have:=Nat.mul_le_mul_left z (show 2*k+2<=i by omega);rw[Ww] at this;exact (hB i (by omega) cG).of fun t h1 h2=>hP'.out (.inr (by omega))
  .have fin:∀ {hZ:Heap} {g':Nat->Int},St h0 hZ (bZ s N g'::I)->Pm 0 N f g'->(∀i,2*z*i<N->So R g' (2*z*i) (min (2*z*i+2*z) N))->∃m29,m29<N-z/\∃(JC:Nat) (g:Nat->Int),IntKind.wrap .i64 ((z:Int)*2)=(JC:Int)/\m29=N-JC/\20<=JC/\JC<=4194304/\St h0 hZ (bZ s N g::I)/\Pm 0 N f g/\∀i,JC*i<N->So R g (JC*i) (min (JC*i+JC) N):=fun {hZ g'} hs hP hq=>
    ⟨_,(show N-2*z<N-z by omega),2*z,g',by rw[aZ (by omega) (by omega)];omega,rfl,by omega,by omega,hs,hP,hq⟩
   refine aQ (fun c4=>?_) (fun c4=>?_)
   .have b2:So R g (2*z*k+z) N:=by
     have:=hB (2*k+1) (by omega) (by rw[Hf];omega);rw[Hf,Nat.min_eq_right (by omega)] at this;exact this
    refine (ue hW s N fv hC hN _ (2*z*k) (2*z*k+z) N g fK (aY _) (by omega) (by omega) (aY _) (hP.MU hD) (b1 (by omega)) b2 hs).mono ?_;rintro _ IP ⟨rfl,g',hs,hP',hS'⟩;refine⟨rfl,fin hs (hP.trans (hP'.wide (by omega) (by omega))) fun i hi=>?_⟩;rcases Nat.lt_trichotomy i k with e | e | e
    .have:=up (show i+1<=k by omega);rw[Nat.min_eq_left (by omega)];exact (hA i e).of fun t h1 h2=>hP'.out (.inl (by omega))
    .subst e;rw[Nat.min_eq_right (by omega)];exact hS'
    .have:=up (show k+1<=i by omega);omega
   .refine fin hs hP fun i hi=>?_;rcases Nat.lt_trichotomy i k with e | e | e
    .have:=up (show i+1<=k by omega);rw[Nat.min_eq_left (by omega)];exact hA i e
    .subst e;have:=hB (2*i) (aY _) (by rw[Od];omega);rw[Od,Nat.min_eq_right (by omega)] at this;rw[Nat.min_eq_right (by omega)];exact this
    .have:=up (show k+1<=i by omega);omega
 .refine⟨rfl,g,hs,hP,?_⟩;by_cases e:N=0
  .subst e;exact fun i j _ _ h3=>by omega
  .have:=hB 0 (by rw[Nat.mul_zero];omega);rw[Nat.mul_zero,Nat.zero_add,Nat.min_eq_right (by omega)] at this;exact this
theorem oT{R:Int->Int->Prop}{D:Int->Prop}(hW:Wo R D)(s:Sl)(N:Nat)(fv:Value)(f:Nat->Int){h0 h:Heap}{I:List It}(hC:Aw fv s N I h0 R D)(hN:N<=1048576)(hD:∀i,D (f i))(hs:St h0 h (bZ s N f::I)):
  Fn Pz 142 #[.slice s.a s.n s.c,fv] h fun v h'=>v=.tuple ⟨[]⟩/\∃g,St h0 h' (bZ s N g::I)/\Pm 0 N f g/\So R g 0 N:=by
 apply QA s fv;unfold UT;rw[show (s.n:Int)=((N:Nat):Int) by rw[bZ.n hs]];refine (AE hW s N fv f hC hN hD hs).mono ?_;rintro _ h2 ⟨rfl,hq⟩;exact⟨rfl,rfl,hq⟩
theorem qT{h h1 h2:Heap}{al:List Addr}(E1:Ext h h1)(E2:Ext h h2)(ha:∀a∈al,a.block<h.size):Sm al h1 h2:=fun a hm k v hv=>by
 have hb:=ha a hm;have e:h2[(ef a k).block]?=h1[(ef a k).block]?:=by rw[dM,E1.2 _ hb,E2.2 _ hb]
 rw[dI e];exact hv
def Ff(g:Gl)(x y:Int):Prop:=∃p q,g.es[x.toNat]?=some p/\g.es[y.toNat]?=some q/\(p.b<q.b\/(p.b=q.b/\p.l<q.l))
def edD(g:Gl)(x:Int):Prop:=g.es=[]\/(0<=x/\x<(g.es.length:Nat))
theorem fM{g:Gl}{x y:Int}{p q:Ed}(hp:g.es[x.toNat]?=some p)(hq:g.es[y.toNat]?=some q):Ff g x y ↔ (p.b<q.b\/(p.b=q.b/\p.l<q.l)):=by
 constructor
 .rintro⟨p',q',h1,h2,h3⟩;rw[hp] at h1;rw[hq] at h2;cases h1;cases h2;exact h3
 .exact fun h=>⟨p,q,hp,hq,h⟩
theorem vh{g:Gl}{x y:Int}(h:g.es=[]):¬Ff g x y:=by
 rintro⟨p,q,h1,_⟩;rw[h] at h1;cases h1
theorem kP{g:Gl}{x:Int}(h:edD g x)(hn:g.es≠[]):∃p,g.es[x.toNat]?=some p:=by
 rcases h with h | h
 .exact absurd h hn
 .exact get_some (by omega)
theorem Pf(g:Gl):Wo (Ff g) (edD g):=by
 by_cases hn:g.es=[]
 .exact⟨fun _ _ _ _ _ _ _ _=>vh hn,fun _ _ _ _ _=>vh hn⟩
 .refine⟨fun x y z hx hy hz h1 h2=>?_,fun x y hx hy h1=>?_⟩
  .obtain⟨p,gp⟩:=kP hx hn;obtain⟨q,gq⟩:=kP hy hn;obtain⟨r,gr⟩:=kP hz hn;rw[fM gq gp] at h1;rw[fM gr gq] at h2;rw[fM gr gp];omega
  .obtain⟨p,gp⟩:=kP hx hn;obtain⟨q,gq⟩:=kP hy hn;rw[fM gp gq] at h1;rw[fM gq gp];omega
theorem zF{p q:Ed}:di (bK p.b q.b) (di (bK p.l q.l) 0)<0 ↔ (p.b<q.b\/(p.b=q.b/\p.l<q.l)):=by
 unfold di bK
 repeat' split
 all_goals omega
theorem MZ(g:Gl)(b:Nat)(x y:Int){h:Heap}(hg:GI h g)(hb:a8 h ⟨b,0,none⟩ g.cs)(hx:0<=x/\x<(g.es.length:Nat))(hy:0<=y/\y<(g.es.length:Nat)):
  Fn Pz 143 #[.int .i64 x,.int .i64 y,.pointer (some ⟨b,0,none⟩)] h fun v h'=>∃c:Int,v=.int .i64 c/\Ext h h'/\(c<0 ↔ Ff g x y):=by
 apply Qz x y ⟨b,0,none⟩;unfold US GF;have qk:=hg.e.ln;have h6:hc h ⟨b,0+6,none⟩=some (.slice g.he.a g.he.n g.he.c):=hb.nth 6 rfl;have l0:b<h.size:=uR h6;refine⟨g.he,h6,?_⟩;refine hg.e.rw.aF (by omega) (by omega) fun b2 o3 p gp t=>⟨p.a,p.b,p.l,t.sub 1 3 rfl,g.he,h6,?_⟩;refine hg.e.rw.aF (by omega) (by omega) fun b8 o9 q gq t2=>⟨q.a,q.b,q.l,t2.sub 1 3 rfl,?_⟩;have l1:b2<h.size:=uR (t.nth 1 rfl);have l2:b8<h.size:=uR (t2.nth 1 rfl);have a4:∀a∈[(⟨b8,o9+Int.toNat y*6+1,none⟩:Addr),⟨b,0+6,none⟩,⟨b2,o3+Int.toNat x*6+1,none⟩,⟨b,0+6,none⟩],a.block<h.size:=fun a ha=>by
  rcases Yr.1 ha with rfl | ha
  .exact l2
  rcases Yr.1 ha with rfl | ha
  .exact l0
  rcases Yr.1 ha with rfl | ha
  .exact l1
  rw[Ye.1 ha];exact l0
 have a2:∀a∈[(⟨b8,o9+Int.toNat y*6+1,none⟩:Addr),⟨b,0+6,none⟩],a.block<h.size:=fun a ha=>by
  rcases Yr.1 ha with rfl | ha
  .exact l2
  rw[Ye.1 ha];exact l0
 have hR:=fM gp gq;refine⟨?_,?_⟩
 .refine (St.refl h).aq fun EL hs=>⟨hs.ext.sm,?_⟩;have E13:=hs.ext;refine hs.aq fun zu hs=>⟨qT E13 hs.ext a4,?_⟩;have Vk:=hs.ext;refine hs.put 1 rfl (o:=0) (vs:=[.int .i64 p.a,.int .i64 p.b,.int .i64 p.l]) rfl (aY 3) fun mq hs=>⟨qT Vk hs.ext a2,?_⟩;refine hs.put 0 rfl (o:=0) (vs:=[.int .i64 q.a,.int .i64 q.b,.int .i64 q.l]) rfl (aY 3) fun fR hs=>?_;refine⟨p.b,hs.rd 1 rfl (i:=1) rfl,q.b,hs.rd 0 rfl (i:=1) rfl,p.l,hs.rd 1 rfl (i:=2) rfl,q.l,hs.rd 0 rfl (i:=2) rfl,?_⟩;refine (dh _ _ _).mono ?_;rintro _ _ ⟨rfl,rfl⟩;refine⟨_,rfl,Ext.sm .cD,?_⟩;refine (dh _ _ _).mono ?_;rintro _ _ ⟨rfl,rfl⟩;refine⟨_,rfl,Ext.sm .cD,?_⟩;refine hs.aq fun IP hs=>?_;have hs:=hs.fx 2 1 ([bK p.b q.b,bK p.l q.l].map a6) rfl (cy _) rfl (by decide);refine (nI [bK p.b q.b,bK p.l q.l] _ IP (hs.rows 0 rfl (by decide)) (show 2<=1048576 by decide)).mono ?_;rintro _ _ ⟨rfl,rfl⟩;exact⟨_,rfl,_,rfl,hs.ext,zF.trans hR.symm⟩
 .refine (St.refl h).aq fun IM hs=>⟨hs.ext.sm,?_⟩;have E13:=hs.ext;refine hs.aq fun OZ hs=>⟨qT E13 hs.ext a4,?_⟩;have Vk:=hs.ext;refine hs.put 0 rfl (o:=0) (vs:=[.int .i64 p.a,.int .i64 p.b,.int .i64 p.l]) rfl (aY 3) fun OY hs=>⟨qT Vk hs.ext a2,?_⟩;refine hs.put 1 rfl (o:=0) (vs:=[.int .i64 q.a,.int .i64 q.b,.int .i64 q.l]) rfl (aY 3) fun mm hs=>?_;refine⟨p.b,hs.rd 0 rfl (i:=1) rfl,q.b,hs.rd 1 rfl (i:=1) rfl,p.l,hs.rd 0 rfl (i:=2) rfl,q.l,hs.rd 1 rfl (i:=2) rfl,?_⟩;refine (dh _ _ _).mono ?_;rintro _ _ ⟨rfl,rfl⟩;refine⟨_,rfl,Ext.sm .cD,?_⟩;refine (dh _ _ _).mono ?_;rintro _ _ ⟨rfl,rfl⟩;refine⟨_,rfl,Ext.sm .cD,?_⟩;refine hs.aq fun Mp hs=>?_;have hs:=hs.fx 2 1 ([bK p.b q.b,bK p.l q.l].map a6) rfl (cy _) rfl (by decide);refine (nI [bK p.b q.b,bK p.l q.l] _ Mp (hs.rows 0 rfl (by decide)) (show 2<=1048576 by decide)).mono ?_;rintro _ _ ⟨rfl,rfl⟩;exact⟨_,rfl,_,rfl,hs.ext,zF.trans hR.symm⟩
theorem call108:au Pz 143=true:=by kernel_rfl
theorem DD{g:Gl}{O:List Nat}(h:∀n∈O,n<g.es.length)(i:Nat):edD g ((aK O).getD i 0):=by
 by_cases hn:g.es=[]
 .exact .inl hn
 .have fq:0<g.es.length:=List.length_pos_iff.2 hn;refine .inr ?_;rw[Yo];cases hc:(aK O)[i]? with
  | none=>show 0<=(0:Int)/\(0:Int)<_;omega
  | some d=>
   obtain⟨c,gc,rfl⟩:=bS hc;have:=h c (Yb gc);show 0<=((c:Nat):Int)/\((c:Nat):Int)<_;omega
theorem I9(g:Gl)(st:Int)(h:Heap)(hg:GI h g):Fn Pz 80 #[g.v,.int .i64 st] h fun v h'=>∃(r:Sl) (O:List Nat),v=.slice r.a r.n r.c/\St h h' [.sl r 3 1 ((aK O).map a6)]/\O.Perm (ao g.es st)/\O.Pairwise fun (i j:Nat)=>¬Ff g (j:Int) (i:Int):=by
 apply WX (bs g.nm) g.hr g.hd g.n g.s g.e g.he g.ht;unfold W80;have qk:=hg.e.ln;have Kn:=hg.e.sm;refine (St.refl h).aq fun h9 hs=>?_;refine⟨g.he,hs.rd 0 rfl (i:=6) rfl,?_⟩;have hs:=hs.cN 3 1;refine gP (n:=g.he.n) hs (fun i rows=>rows=(aK ((List.range i).filter (dD g.es st))).map a6) rfl ?_;clear hs;rintro-i out mq rows hi hs rfl;have RS:=hs.len 0 (s:=out) (e:=3) (n:=1) rfl (by omega);rw[Yc,show (aK ((List.range i).filter (dD g.es st))).length=((List.range i).filter (dD g.es st)).length from Yc _] at RS;have we:((List.range i).filter (dD g.es st)).length<=i:=mQ (List.length_filter_le _ _) (by rw[mG];exact aY _);refine aQ (fun c=>?_) (fun c=>?_)
 .refine (hg.e.rw.ext hs.ext).aF (by omega) (by omega) fun b o x gx t=>?_;replace gx:g.es[i]?=some x:=gx;have wc:(List.range (i+1)).filter (dD g.es st)=if x.f=st then (List.range i).filter (dD g.es st)++[i] else (List.range i).filter (dD g.es st):=by
   rw[List.range_succ,List.filter_append];have hp:dD g.es st i=decide (x.f=st):=by unfold dD;rw[gx]
   by_cases e:x.f=st
   .rw[if_pos e,List.filter_cons_of_pos (by rw[hp];exact decide_eq_true e)];rfl
   .rw[if_neg e,List.filter_cons_of_neg (by rw[hp,decide_eq_false e];simp)];simp
  refine⟨x.f,x.a,x.b,x.l,x.t,x.ag,t,?_⟩;refine hs.ai (vs:=x.cs) rfl rfl fun G4 hs=>?_;refine⟨x.f,hs.rd 0 rfl (i:=0) rfl,eh (fun c2=>?_) (fun c2=>?_)⟩
  .have hs:=hs.drop 1;refine hs.app 0 rfl jv (m:=1) [a6 (i:Int)] rfl rfl (fun r hr=>by rw[Ye] at hr;rw[hr];rfl) rfl (by omega) (by simp only[maxLen];omega) fun r IP ns hs=>?_;refine Ha.next (by omega) (by omega) ⟨_,hs,?_⟩;rw[wc,if_pos c2,iE,Ym];rfl
  .exact Ha.next (by omega) (by omega) ⟨_,hs.drop 1,by rw[wc,if_neg c2]⟩
 .have hie:i=g.es.length:=by omega
  subst hie;have hO:(List.range g.es.length).filter (dD g.es st)=ao g.es st:=rfl;rw[hO] at hs we;have cG:∀n∈ao g.es st,n<g.es.length:=fun n hn=>by
   obtain⟨x,gx,_⟩:=az.1 hn;exact (Ya.1 gx).1
  have hNl:(aK (ao g.es st)).length=(ao g.es st).length:=Yc _;have hf:=S7 (aK (ao g.es st));have hs:St h mq (bZ out (aK (ao g.es st)).length (fun i=>(aK (ao g.es st)).getD i 0)::[.af h.size g.cs 27]):=by
   unfold bZ;rw[<-hf];exact hs
  refine (oT (Pf g) out _ (.func (.func 143) #[] #[.pointer (some ⟨h.size,0,none⟩)]) _ ⟨143,#[],#[.pointer (some ⟨h.size,0,none⟩)],rfl,call108,fun h1 k x y dx dy hN jW=>?_⟩ (by omega) (DD cG) hs).mono ?_
  .have bz:g.es≠[]:=fun e=>by
    rw[hNl] at hN;have h2:g.es.length=0:=by rw[e];rfl
    omega
   rcases dx with dx | dx
   .exact absurd dx bz
   rcases dy with dy | dy
   .exact absurd dy bz
   exact MZ g h.size x y (hg.ext jW.ext) (jW.at 1 rfl (o:=0) (n:=8) rfl) dx dy
  rintro _ mm ⟨rfl,k,hs,hP,hS⟩;have uJ:=hP.perm (aY _);rw[<-hf] at uJ;have LG:∀x∈fL (aK (ao g.es st)).length k,0<=x:=fun x hx=>by
   have:=uJ.subset hx;obtain⟨c,_,rfl⟩:=Yp.1 this;omega
  have Sw:aK ((fL (aK (ao g.es st)).length k).map Int.toNat)=fL (aK (ao g.es st)).length k:=by
   unfold aK;rw[List.map_map]
   conv=>rhs;rw[<-List.map_id (fL _ k)]
   refine List.map_congr_left fun x hx=>?_;have:=LG x hx;show ((x.toNat:Nat):Int)=x;omega
  refine⟨rfl,out,(fL (aK (ao g.es st)).length k).map Int.toNat,rfl,?_,?_,?_⟩
  .rw[Sw];exact hs.sub (.cons_cons _ (List.nil_sublist _))
  .have h1:=uJ.map Int.toNat;have e:(aK (ao g.es st)).map Int.toNat=ao g.es st:=by
    unfold aK;rw[List.map_map]
    conv=>rhs;rw[<-List.map_id (ao g.es st)]
    exact List.map_congr_left fun n _=>rfl
   rw[e] at h1;exact h1
  .rw[List.pairwise_map];refine List.pairwise_iff_getElem.2 fun i j hi hj zh=>?_;rw[il] at hi hj;have ei:(fL (aK (ao g.es st)).length k)[i]'(by rw[il];exact hi)=k i:=eU (by rw[<-Yi,lN hi]);have ej:(fL (aK (ao g.es st)).length k)[j]'(by rw[il];exact hj)=k j:=eU (by rw[<-Yi,lN hj]);rw[ei,ej];have n1:=LG (k i) (EX.2 ⟨i,hi,rfl⟩);have n2:=LG (k j) (EX.2 ⟨j,hj,rfl⟩);rw[show ((Int.toNat (k j):Nat):Int)=k j by omega,show ((Int.toNat (k i):Nat):Int)=k i by omega];exact hS i j (Nat.zero_le _) zh hj
theorem NH:cn Pz 22 9 1 16=true:=by kernel_rfl
theorem Js:cn Pz 49 52 2 16=true:=by kernel_rfl
theorem NG:cn Pz 23 171 5 96=true:=by kernel_rfl
theorem r9{α:Type}{t e:TypeId}{n bytes:Nat}{cs:α->List Value}{L:List α}{s:Sl}{h:Heap}(hr:RL h n s cs L)(hT:cn Pz t e n bytes=true)(dq:∀r∈L.map cs,r.length=n)(uK:(L.map cs).flatten.all fF=true)(hn:0<n)(hb:bytes<=96)
  {R:Value->Heap->Prop} (hR:∀(r:Sl) (h':Heap),St h h' [.sl r e n (L.map cs)]->R (.slice r.a r.n r.c) h') :
  sB (Option.isNone s.a) (R (.slice none 0 0) h) (∀h1:Heap,h1=h.push (.cells ⟨[]⟩ e)->App Pz t t (.slice (some ⟨h.size,0,none⟩) 0 0) (.slice s.a s.n s.c) h1 fun s2 h3=>R (.slice s2.a s2.n s2.c) h3):=by
 have R5:=hr.ln;have RB:=hr.sm;refine aa (fun c=>?_) (fun c=>?_)
 .have Ek:s.a=none:=by
   cases ha:s.a with
   | none=>rfl
   | some a=>rw[ha] at c;cases c
  have h0:=(hr.nil Ek).1;have hL:L=[]:=List.length_eq_zero_iff.1 (by omega);refine hR ⟨none,0,0⟩ h ?_;rw[hL];exact (St.refl h).cN e n
 .refine (St.refl h).aq fun h1 hs=>?_;have hs:=hs.fx 0 n [] rfl (fun r hr=>by cases hr) rfl (Nat.zero_le _);refine hs.oz 0 rfl hT (hr.ext hs.ext).rw dq hr.nil uK ?_ (by show 0+s.n<=_;simp only[maxLen];omega) fun r h3 _ cp=>hR r h3 cp;have h1:(0+s.n)*bytes<=1048576*96:=Nat.mul_le_mul (by omega) hb;exact mQ h1 (by decide)
theorem HS(L:List Nm):∀r∈L.map oE,r.length=1:=fun r hr=>by obtain⟨x,_,rfl⟩:=Yp.1 hr;rfl
theorem MO(L:List sG):∀r∈L.map sG.cs,r.length=2:=fun r hr=>by obtain⟨x,_,rfl⟩:=Yp.1 hr;rfl
theorem vr(L:List Nm)(s:Sl)(h:Heap)(hr:RL h 1 s oE L):Fn Pz 137 #[.slice s.a s.n s.c] h fun v h'=>∃r:Sl,v=.slice r.a r.n r.c/\St h h' [.sl r 9 1 (L.map oE)]:=by
 apply QE s;unfold UY;exact r9 (R:=fun v h'=>∃r:Sl,v=.slice r.a r.n r.c/\St h h' [.sl r 9 1 (L.map oE)]) hr NH (HS _) (jQ (fun _=>rfl) _) (by decide) (by decide) fun r h' hs=>⟨r,rfl,hs⟩
theorem Fu(L:List jx)(s:Sl)(h:Heap)(hr:RL h 4 s jx.cs L):Fn Pz 138 #[.slice s.a s.n s.c] h fun v h'=>∃r:Sl,v=.slice r.a r.n r.c/\St h h' [.sl r 260 4 (L.map jx.cs)]:=by
 apply QD s;unfold UX;exact r9 (R:=fun v h'=>∃r:Sl,v=.slice r.a r.n r.c/\St h h' [.sl r 260 4 (L.map jx.cs)]) hr FP (rX _) (jQ (fun _=>rfl) _) (by decide) (by decide) fun r h' hs=>⟨r,rfl,hs⟩
theorem Ft(L:List Df)(s:Sl)(h:Heap)(hr:RL h 3 s Df.cs L):Fn Pz 139 #[.slice s.a s.n s.c] h fun v h'=>∃r:Sl,v=.slice r.a r.n r.c/\St h h' [.sl r 263 3 (L.map Df.cs)]:=by
 apply QC s;unfold UW;exact r9 (R:=fun v h'=>∃r:Sl,v=.slice r.a r.n r.c/\St h h' [.sl r 263 3 (L.map Df.cs)]) hr si (Fl _) (jQ (fun _=>rfl) _) (by decide) (by decide) fun r h' hs=>⟨r,rfl,hs⟩
theorem Fq(L:List sG)(s:Sl)(h:Heap)(hr:RL h 2 s sG.cs L):Fn Pz 140 #[.slice s.a s.n s.c] h fun v h'=>∃r:Sl,v=.slice r.a r.n r.c/\St h h' [.sl r 52 2 (L.map sG.cs)]:=by
 apply QB s;unfold UU;exact r9 (R:=fun v h'=>∃r:Sl,v=.slice r.a r.n r.c/\St h h' [.sl r 52 2 (L.map sG.cs)]) hr Js (MO _) (jQ (fun _=>rfl) _) (by decide) (by decide) fun r h' hs=>⟨r,rfl,hs⟩
theorem St.aaw{h0 h h2:Heap}{L:List It}(hs:St h0 h L)(kb ks:Nat){cb:Nat}{xs:List Value}{e0 t e:TypeId}{n bytes:Nat}{α:Type}{cs:α->List Value}{so:Sl}{X:List α}{x:α}(Bz:L[kb]?=some (.af cb xs e0))(G2:L[ks]?=some (.sl so e n (X.map cs)))
  (hT:cn Pz t e n bytes=true) (e2:h2=h.push (.cells ⟨cs x⟩ e)) (hc:(cs x).length=n) (ho:(cs x).all fF=true) (hn:X.length<=1048576) (Ki:0<n/\bytes<=128) (f:Nat) (hf:f<xs.length) (bz:ks≠kb) {K:Heap->Prop}
  (hK:∀(s':Sl) (h':Heap),St h0 h' ((L.set ks (.sl s' e n ((X++[x]).map cs))).set kb (.af cb (ay xs f [.slice s'.a s'.n s'.c]) e0))->K h') :
  App Pz t t (.slice so.a so.n so.c) (.slice (some ⟨h.size,0,none⟩) 1 1) h2 fun ko oK=>fG oK ⟨cb,f,none⟩ 1/\∀wk:Heap,wk=bh oK ⟨cb,f,none⟩ 0 [.slice ko.a ko.n ko.c]->K wk:=by
 have cp:St h0 h2 (.af h.size (cs x) e::L):=hs.aq (K:=fun h2=>St h0 h2 (.af h.size (cs x) e::L)) (fun _ h=>h) h2 e2;have hl:=(hs.len ks (s:=so) G2 Ki.1).1;rw[Yc] at hl;have rL:(so.n+1)*bytes<=1048577*128:=Nat.mul_le_mul (by omega) Ki.2;refine cp.appended (ks+1) (s:=so) G2 hT (x:=⟨h.size,0,none⟩) (m:=1) (c:=1) (news:=[cs x]) (cp.at 0 rfl (o:=0) (n:=n) (by rw[List.drop_zero,<-hc,xW];simp)) rfl (by intro r hr;rw[Ye.1 hr];exact hc) (by simpa using ho) (by omega) (by simp only[maxLen];omega) fun ko oK n55 mg=>?_;have mg:St h0 oK (L.set ks (.sl ko e n (X.map cs++[cs x]))):=mg.drop 1;refine mg.put kb (by rw[Yy bz];exact Bz) (o:=f) (vs:=[.slice ko.a ko.n ko.c]) rfl (by show f+1<=xs.length;omega) fun wk Ir=>hK ko wk ?_;rw[Ym];exact Ir
def GN(d c:Dc):Prop:=c.nm=d.nm/\c.first=d.first/\c.fs=d.fs/\c.ds=d.ds/\c.es=d.es
def r7(d:Dc):List It:=[.sl d.hf 260 4 (d.fs.map jx.cs),.sl d.hd 263 3 (d.ds.map Df.cs),.sl d.he 52 2 (d.es.map sG.cs)]
def z8:List Value:=[.string ⟨#[]⟩,.slice none 0 0,.slice none 0 0,.int .i64 0,.int .i64 0,.int .i64 0,.slice none 0 0,.slice none 0 0]
def o8(g:Gl)(r hd:Sl):List Value:=[.string (bs g.nm),.slice r.a r.n r.c,.slice hd.a hd.n hd.c,.int .i64 0,.int .i64 0,.int .i64 0,.slice none 0 0,.slice none 0 0]
def CpR(g:Gl)(h:Heap)(v:Value)(h':Heap):Prop:=∃(r hd:Sl) (D:List Dc) (A:List It),v=.agg ⟨o8 g r hd⟩/\St h h' (.sl hd 171 5 (D.map Dc.cs) :: .sl r 9 1 (g.rs.map oE)::A)/\D.length=g.ds.length/\(∀(i:Nat) d c,g.ds[i]?=some d->D[i]?=some c->GN d c)/\∀d∈D,∀x∈r7 d,x∈A
abbrev cpS(ob rb gb:Nat)(g:Gl)(r hd:Sl)(D:List Dc)(A:List It):List It:=
 .sl hd 171 5 (D.map Dc.cs) :: .af ob (o8 g r hd) 27 :: .af rb z8 27 :: .af gb g.cs 27 :: .sl r 9 1 (g.rs.map oE)::A
theorem vk(g:Gl)(r:Sl){h h9 mq fR:Heap}(hg:GI h g)(hs:St h fR [.af mq.size z8 27,.af h9.size z8 27,.af h.size g.cs 27,.sl r 9 1 (g.rs.map oE)]):Jw fR mq (bs g.nm) r h h9 (CpR g h):=by
 unfold Jw;have hdn:=hg.d.r.ln;have LU:=hg.d.r.sm;refine hs.put 0 rfl (o:=0) (vs:=o8 g r ⟨none,0,0⟩) rfl (show 8<=8 by decide) fun Mu hs=>?_;have hs:St h Mu (cpS mq.size h9.size h.size g r ⟨none,0,0⟩ [] []):=hs.cN 171 5;refine⟨g.hd,hs.rd 3 rfl (i:=2) rfl,?_⟩;refine cQ (n:=g.hd.n) (fun i h'=>∃(hd:Sl) (D:List Dc) (A:List It),St h h' (cpS mq.size h9.size h.size g r hd D A)/\D.length=i/\(∀(j:Nat) d c,g.ds[j]?=some d->D[j]?=some c->GN d c)/\∀d∈D,∀x∈r7 d,x∈A) ⟨_,[],[],hs,rfl,fun j d c _ hc=>(by cases hc),fun d hd=>(by cases hd)⟩ ?_;clear hs;rintro-i qt hi ⟨hd,D,A,hs,hD,hS,hA⟩;refine aa (fun c=>?_) (fun c=>?_)
 .replace c:=ba c;refine (hg.d.r.ext hs.ext).rw.aF (by omega) (by omega) fun b o d gd t=>?_;replace gd:g.ds[i]?=some d:=gd;have Zl:=hg.d.i d (Yb gd);refine⟨bs d.nm,d.hf,d.first,d.hd,d.he,t,?_⟩;refine hs.ai (vs:=d.cs) rfl rfl fun OZ hs=>?_;refine⟨d.hf,hs.rd 0 rfl (i:=1) rfl,?_⟩;refine (Fu d.fs d.hf OZ (Zl.pf.ext hs.ext)).mono ?_;rintro _ fA ⟨f',rfl,h1⟩;have hs:=hs.join h1;refine⟨f',rfl,?_⟩;refine hs.put 0 rfl (o:=1) (vs:=[.slice f'.a f'.n f'.c]) rfl (show 2<=5 by decide) fun qs hs=>?_;refine⟨d.hd,hs.rd 0 rfl (i:=3) rfl,d.he,hs.rd 0 rfl (i:=4) rfl,?_⟩;refine (Ft d.ds d.hd qs (Zl.pd.ext hs.ext)).mono ?_;rintro _ xA ⟨d',rfl,h2⟩;refine⟨d',rfl,h2.ext.sm,?_⟩;have hs:=hs.join h2;refine (Fq d.es d.he xA (Zl.pe.ext hs.ext)).mono ?_;rintro _ Mp ⟨e',rfl,h3⟩;refine⟨e',rfl,h3.ext.sm,?_⟩;have hs:=hs.join h3;refine hs.put 0 rfl (o:=3) (vs:=[.slice d'.a d'.n d'.c,.slice e'.a e'.n e'.c]) rfl (show 5<=5 by decide) fun oL hs=>?_;refine⟨hd,hs.rd 2 rfl (i:=2) rfl,bs d.nm,f',d.first,d',e',hs.at 0 rfl (o:=0) (n:=5) rfl,fun Mo e53=>?_⟩;refine hs.aaw 2 1 rfl rfl (cs:=Dc.cs) (x:=⟨d.nm,f',d.first,d',e',d.fs,d.ds,d.es⟩) NG e53 rfl rfl (by omega) (by decide) 2 (show 2<8 by decide) (by decide) fun G3 oK hs=>?_;have hs:St h oK (cpS mq.size h9.size h.size g r G3 (D++[(⟨d.nm,f',d.first,d',e',d.fs,d.ds,d.es⟩:Dc)]) (A++[It.sl f' 260 4 (d.fs.map jx.cs)]++[It.sl d' 263 3 (d.ds.map Df.cs)]++[It.sl e' 52 2 (d.es.map sG.cs)])):=hs.drop 1;refine Up.next c (by omega) ⟨G3,_,_,hs,by rw[Yh,hD];rfl,fun j x y gx gy=>?_,fun x hx y hy=>?_⟩
  .by_cases e:j=i
   .subst e;rw[gd] at gx;cases gx;rw[qJ (by omega),hD,Nat.sub_self] at gy;cases gy;exact⟨rfl,rfl,rfl,rfl,rfl⟩
   .have hj:j<D.length:=by
     have:=(Ya.1 gy).1;rw[Yh] at this;have e1:([(⟨d.nm,f',d.first,d',e',d.fs,d.ds,d.es⟩:Dc)]).length=1:=rfl;omega
    rw[jw hj] at gy;exact hS j x y gx gy
  .rcases Yk.1 hx with hx | hx
   .have:=hA x hx y hy;simp only[Yk];exact .inl (.inl (.inl this))
   .rw[Ye.1 hx] at hy;unfold r7 at hy;simp only[Yk];rcases Yr.1 hy with rfl | hy
    .exact .inl (.inl (.inr (Ye.2 rfl)))
    rcases Yr.1 hy with rfl | hy
    .exact .inl (.inr (Ye.2 rfl))
    rw[Ye.1 hy];exact .inr (Ye.2 rfl)
 .replace c:=bd c;refine⟨bs g.nm,r,hd,0,0,0,⟨none,0,0⟩,⟨none,0,0⟩,hs.at 1 rfl (o:=0) (n:=8) rfl,?_⟩;refine hs.put 2 rfl (o:=0) (vs:=o8 g r hd) rfl (show 8<=8 by decide) fun xy hs=>?_;refine⟨bs g.nm,r,hd,0,0,0,⟨none,0,0⟩,⟨none,0,0⟩,hs.at 2 rfl (o:=0) (n:=8) rfl,r,hd,D,A,rfl,?_,by omega,hS,hA⟩;refine hs.sub (.cons_cons _ (.cons _ (.cons _ (.cons _ (.cons_cons _ (List.Sublist.refl _))))))
theorem Fp(g:Gl)(h:Heap)(hg:GI h g):Fn Pz 76 #[g.v] h (CpR g h):=by
 apply W4 (bs g.nm) g.hr g.hd g.n g.s g.e g.he g.ht;unfold W76;refine (St.refl h).aq fun h9 hs=>?_;refine hs.aq fun cA hs=>?_;refine⟨bs g.nm,hs.rd 1 rfl (i:=0) rfl,g.hr,hs.rd 1 rfl (i:=1) rfl,?_,?_⟩
 .refine (vr g.rs g.hr cA (hg.r.ext hs.ext)).mono ?_;rintro _ mq ⟨r,rfl,h1⟩;refine⟨r,rfl,h1.ext.sm,?_⟩;have hs:=hs.join h1;intro fR e16;have hx:St mq fR [.af mq.size z8 27]:=(St.refl mq).aq (K:=fun h2=>St mq h2 [.af mq.size z8 27]) (fun _ h=>h) fR e16;exact⟨hx.ext.sm,vk g r hg ((hs.join hx).perm List.perm_append_comm)⟩
 .intro jZ e75;have hx:St cA jZ [.af cA.size z8 27]:=(St.refl cA).aq (K:=fun h2=>St cA h2 [.af cA.size z8 27]) (fun _ h=>h) jZ e75;refine⟨hx.ext.sm,?_⟩;have hs:=(hs.join hx).perm List.perm_append_comm;refine (vr g.rs g.hr jZ (hg.r.ext hs.ext)).mono ?_;rintro _ h78 ⟨r,rfl,h1⟩;exact⟨r,rfl,h1.ext.sm,vk g r hg (hs.join h1)⟩
end Go.VC
end
