/- SyCh SyCi SyIa SyIs SyI SyCj SyD SyE SyF SyG SyCk SxArgs. -/
import Derived.Test.YtajglkbckhgboaaGreatDoorGM10
import Derived.Test.YtajglkbckhgboaaGreatDoorRows
set_option linter.all false
set_option maxRecDepth 100000
set_option maxHeartbeats 8000000

section
namespace Go.VC
open Go.Proofs Go.LexS
theorem wJ(role:Int)(x:Ev)(l:List Ev):yx role (x::l)=if x.send=true then yx role l else aI role x:=by
 unfold yx;rw[List.find?_cons];cases h:x.send with
 | true=>simp
 | false=>simp
theorem Mh{h qW kh:Heap}{fb gb:Nat}{g:Gl}{role:Int}{ev en l seen q:Sl}{V:List (Sl × Vq)}{x:Sl × Vq}{i:Nat}{E:List Ev}{e0:Ev}{K:Value->Heap->Prop}
  (hs:St h qW (yw kh.size fb gb g ev en l seen V [])) (hx:V[i]?=some x) (hV:V.length<=1000) (hE:Rw h 5 q (E.map (aC role))) (hEl:E.length<=1000) (h0:E[0]?=some e0)
  (hK:∀w h',RV h h' ⟨2,role,cJ g.es x.2.2,[],aI role e0,yx role E⟩ true (.tuple ⟨[.agg ⟨Wt.cs w⟩,.bool true]⟩)->K (.tuple ⟨[.agg ⟨Wt.cs w⟩,.bool true]⟩) h') :
  IK l (i:Nat) qW q role kh K:=by
 unfold IK;have oU:=(Ya.1 hx).1;have sx:=(hs.len 0 (s:=l) (e:=221) (n:=2) rfl (by decide)).1;rw[Yc] at sx;have nz:=hE.ln;have h0l:=(Ya.1 h0).1;refine (hs.rows 0 (s:=l) (cs:=Dg) (l:=V) rfl (by decide)).aA (by omega) (by omega) fun b39 o40 d gd u=>?_;replace gd:V[i]?=some d:=gd;rw[hx] at gd;cases gd;refine⟨x.1,u.nth 1 rfl,?_⟩;refine (hE.ext hs.ext).aA (by omega) (by omega) fun b42 o43 d gd u2=>?_;replace gd:E[0]?=some d:=gd;rw[h0] at gd;cases gd;refine⟨_,_,_,_,⟨none,0,0⟩,u2,fun Td e49=>⟨(show Ext qW Td by rw[e49];exact Ext.push _ _).sm,?_⟩⟩;have hs:=hs.dj e49;refine hs.put 0 rfl (o:=0) (vs:=Wt.cs ⟨2,role,x.1,au,aI role e0,yx role []⟩) rfl (bc 14) fun oo hs=>?_;refine⟨fun y h' μ=>∃r:Nat,y=(r:Int)-1/\r=μ/\r<=E.length/\St h h' (.ae qW.size (Wt.cs ⟨2,role,x.1,au,aI role e0,yx role (E.drop r)⟩) 39::yw kh.size fb gb g ev en l seen V []),⟨_,E.length,by rw[a7 (by omega) (by omega)];omega,rfl,bc _,by rw[List.drop_length];exact hs⟩,?_⟩;clear hs u u2;rintro-_ h55 μ ⟨r,rfl,rfl,hr,hs⟩;refine aM (fun c=>?_) (fun c=>?_)
 .obtain⟨k,rfl⟩:∃k,r=k+1:=⟨r-1,by omega⟩;rw[show ((k+1:Nat):Int)-1=(k:Int) by omega];obtain⟨y,gy⟩:=get_some (l:=E) (i:=k) (by omega);have hdr:E.drop k=y::E.drop (k+1):=by
   rw[List.drop_eq_getElem_cons (by omega),(Ya.1 gy).2]
  have rd:∀ {h':Heap} {K':Nat->Nat->Prop},Ext h h'->(∀b o,aZ h' ⟨b,o+Int.toNat (k:Int)*5,none⟩ (aC role y)->K' b o)->NB q.a fun b o=>(0<=(k:Int)/\(k:Int)<(q.n:Nat))/\K' b o:=fun {h' K'} X hK'=>by
   refine (hE.ext X).aA (by omega) (by omega) fun b o d gd t=>?_;replace gd:E[k]?=some d:=gd;rw[gy] at gd;cases gd;exact hK' b o t
  refine rd hs.ext fun b56 o57 u=>⟨_,u.nth 1 rfl,aa (fun c2=>?_) (fun c2=>?_)⟩
  .have SS:¬y.send=true:=by intro h9;rw[h9] at c2;cases c2
   refine rd hs.ext fun b59 o60 u2=>⟨_,_,_,_,⟨none,0,0⟩,u2,?_⟩;refine hs.put 0 rfl (o:=9) (vs:=aC role y) rfl (show 9+5<=14 by decide) fun xz hs=>?_;refine⟨_,(show k<k+1 by omega),k,by rw[a7 (by omega) (by omega)],rfl,by omega,?_⟩;rw[hdr,wJ,if_neg SS];exact hs
  .have kY:y.send=true:=by cases h9:y.send with
    | true=>rfl
    | false=>rw[h9] at c2;cases c2
   refine⟨_,(show k<k+1 by omega),k,by rw[a7 (by omega) (by omega)],rfl,by omega,?_⟩;rw[hdr,wJ,if_pos kY];exact hs
 .have Pu:r=0:=by omega
  subst Pu;rw[List.drop_zero] at hs;refine Ah hs 0 3 (w:=⟨2,role,x.1,au,aI role e0,yx role E⟩) (w0:=cq) rfl rfl fun Qd hs=>?_;refine oL (w:=⟨2,role,x.1,au,aI role e0,yx role E⟩) (Q:=fun cs=>K (.tuple ⟨[.agg ⟨cs⟩,.bool true]⟩) Qd) (hs.at 3 rfl (o:=0) (n:=14) rfl) ?_;refine hK _ Qd ⟨_,rfl,rfl,rfl,rfl,rfl,?_⟩;have hm:AV g x∈V.map (AV g)++([]:List It):=List.mem_append_left _ (Yp.2 ⟨x,Yb hx,rfl⟩);obtain⟨L',bI⟩:=hs.pick (x:=AV g x) (List.mem_append_right [_,_,_,_,_,_] hm);exact⟨L',(bI.bH 65 3).perm (List.Perm.swap _ _ _)⟩
theorem FB{α:Type}{n s l r1 r2 r3:α}:([n,s,l,r1,r2,r3]:List α).Perm [l,s,r1,r2,r3,n]:=
 (List.perm_append_comm (l₁:=[n]) (l₂:=[s,l,r1,r2,r3])).trans (List.Perm.swap _ _ _)
theorem La(g:Gl)(role:Int)(ev en ar:Sl)(E:List (Sl × List Ev))(B:List Bool)(MS:List (Sl × List gF))(h:Heap)(hg:GI h g)(hV:af g)(hM:VfM h g role ev en ar E B MS)(hP:RX g role E B MS):
  Fn Pz 61 #[g.v,.int .i64 role,.agg ⟨[.slice ev.a ev.n ev.c,.slice en.a en.n en.c]⟩] h fun v h'=>∃W n,tW g role W n/\RV h h' W (decide (n<aH)) v:=by
 apply abA (bs g.nm) g.hr g.hd g.n g.s g.e g.he g.ht role ev en;unfold W61;have hN:=hV.num.n;refine (St.refl h).aj fun iT hs=>?_;refine hs.aj fun kh hs=>?_;refine hs.aj fun Fu hs=>?_;refine⟨g.s,hs.rd 2 rfl (i:=4) rfl,?_⟩;refine hs.aj fun rY hs=>?_;refine⟨g.s,hs.rd 3 rfl (i:=4) rfl,?_⟩;refine hs.aj fun iQ hs=>?_;have hs:=hs.km 0 rfl 1 1 [aO g.s] rfl (fun r hr=>by rw[Ye.1 hr];rfl) rfl (by decide);have hs:=hs.km 1 rfl 1 2 [[.int .i64 g.s,.slice none 0 0]] rfl (fun r hr=>by rw[Ye.1 hr];rfl) rfl (by decide);have hs:=hs.bH 65 3;have hs:St h iQ (yw kh.size iT.size h.size g ev en ⟨some ⟨Fu.size,0,none⟩,1,1⟩ ⟨some ⟨rY.size,0,none⟩,1,1⟩ [(au,(g.s.toNat,[]))] []):=by
  have e1:([(au,(g.s.toNat,[]))]:List (Sl × Vq)).map Dg=[[.int .i64 g.s,.slice none 0 0]]:=by
   unfold Dg;rw[List.map_singleton,show ((g.s.toNat:Nat):Int)=g.s by omega]
  have e2:(aw (([(au,(g.s.toNat,[]))]:List (Sl × Vq)).map fun x=>x.2.1)).map aO=[aO g.s]:=by
   show [aO ((g.s.toNat:Nat):Int)]=_;rw[show ((g.s.toNat:Nat):Int)=g.s by omega]
  unfold yw;rw[e1,e2];refine hs.perm ?_;exact FB
 refine⟨fun l seen y h' μ=>∃(i:Nat) (V:List (Sl × Vq)) (par:Nat->Nat),y=(i:Int)/\g.n.toNat-i=μ/\i<=V.length/\St h h' (yw kh.size iT.size h.size g ev en l seen V [])/\gW g (wT g role) (V.map Prod.snd) par i 0,⟨_,0,_,_,rfl,rfl,Nat.zero_le _,hs,gW.init hV⟩,?_⟩;clear hs;rintro-l seen _ qW μ ⟨i,V,par,rfl,rfl,hi,hs,hB⟩;have hVl:=hB.len;rw[Yc] at hVl;have sx:=(hs.len 0 (s:=l) (e:=221) (n:=2) rfl (by decide)).1;rw[Yc] at sx;refine aM (fun c=>?_) (fun c=>?_)
 .obtain⟨x,gx⟩:=get_some (l:=V) (i:=i) (by omega);have Pl:(V.map Prod.snd)[i]?=some x.2:=by rw[Yd,gx];rfl
  have bU:=hB.lt _ (Yb Pl);obtain⟨qe,SU,ee⟩:=hP.e x.2.1 bU;have hb:=hP.b x.2.1 bU;have re:=hM.re qe (Yb SU);rw[ee] at re;have nz:=re.ln;have WY:=hP.le (x.2.1:Nat);have Wf:=hB.Ov i i (bc _) x.2 Pl;have exp:¬wT g role x.2.1->ER qW h (x.2.1:Nat) l seen (i:Nat) (g.n.toNat-i) (fun l seen y h' μ=>∃(i:Nat) (V:List (Sl × Vq)) (par:Nat->Nat),y=(i:Int)/\g.n.toNat-i=μ/\i<=V.length/\St h h' (yw kh.size iT.size h.size g ev en l seen V [])/\gW g (wT g role) (V.map Prod.snd) par i 0):=fun bK=>
   XS hg hV hs hB gx fun l' qd V' par' h' bI hB' D9=>by
    have oU:=(Ya.1 D9).1;have hV2:=hB'.len;rw[Yc] at hV2;exact⟨_,(show g.n.toNat-(i+1)<g.n.toNat-i by omega),i+1,V',par',by rw[a7 (by omega) (by omega)];omega,rfl,oU,bI,hB'.next (by rw[Yd,D9];rfl) (bc _) bK⟩
  have fnd:wT g role x.2.1->IK l (i:Nat) qW qe.1 role kh (fun v h'=>∃W n,tW g role W n/\RV h h' W (decide (n<aH)) v):=fun hm=>by
   obtain⟨n,hl,hn,hG,hd⟩:=hB.found (by omega) Pl hm;have kd:=hm.2;obtain⟨e0,JY⟩:∃e0,(ay g role (x.2.1:Nat))[0]?=some e0:=by
    unfold dq at kd;cases h9:(ay g role (x.2.1:Nat))[0]? with
    | none=>rw[h9] at kd;cases kd
    | some e0=>exact⟨e0,rfl⟩
   refine Mh hs gx (by omega) re (by omega) JY fun w h' hw=>⟨_,_,.hit hl hn hG hd hm JY,?_⟩;rw[decide_eq_true (by unfold aH;omega)];exact hw
  have JO:∀ {j:Nat} {y:Ev} {h':Heap} {K':Nat->Nat->Prop},(ay g role (x.2.1:Nat))[j]?=some y->Ext h h'->(∀b o,aZ h' ⟨b,o+Int.toNat (j:Int)*5,none⟩ (aC role y)->K' b o)->NB qe.1.a fun b o=>(0<=(j:Int)/\(j:Int)<(qe.1.n:Nat))/\K' b o:=fun {j y h' K'} gy X hK'=>by
   have BV:=(Ya.1 gy).1;refine (re.ext X).aA (by omega) (by omega) fun b o d gd t=>?_;replace gd:(ay g role (x.2.1:Nat))[j]?=some d:=gd;rw[gy] at gd;cases gd;exact hK' b o t
  refine (hs.rows 0 (s:=l) (cs:=Dg) (l:=V) rfl (by decide)).aA (by omega) (by omega) fun b25 o26 d gd u=>?_;replace gd:V[i]?=some d:=gd;rw[gx] at gd;cases gd;refine⟨_,u.nth 0 rfl,ev,hs.rd 3 rfl (i:=0) rfl,kD (hM.rv.ext hs.ext) SU fun b29 o30 u2=>⟨qe.1,u2,aM (fun c2=>?_) (fun c2=>?_)⟩⟩
  .obtain⟨e0,g0⟩:=get_some (l:=ay g role (x.2.1:Nat)) (i:=0) (by omega);have s0:dq (ay g role (x.2.1:Nat)) 0=e0.send:=by unfold dq;rw[g0]
   refine JO g0 hs.ext fun YY VS u3=>⟨_,u3.nth 1 rfl,aa (fun c3=>?_) (fun c3=>exp fun hm=>?_)⟩
   .refine⟨en,hs.rd 3 rfl (i:=1) rfl,?_⟩;have LO:=hM.rn.ln;have yF:=(Ya.1 hb).1;refine (hM.rn.ext hs.ext).aA (by omega) (by omega) fun b36 o37 d gd u4=>?_;replace gd:B[x.2.1]?=some d:=gd;rw[hb] at gd;cases gd;refine⟨_,u4.nth 0 rfl,aa (fun c4=>fnd ⟨bU,by rw[s0,c3,c4];rfl⟩) (fun c4=>?_)⟩;obtain⟨e1,g1⟩:=get_some (l:=ay g role (x.2.1:Nat)) (i:=(ay g role (x.2.1:Nat)).length-1) (by omega);have s1:dq (ay g role (x.2.1:Nat)) ((ay g role (x.2.1:Nat)).length-1)=e1.send:=by unfold dq;rw[g1]
    rw[show IntKind.wrap .i64 ((qe.1.n:Int)-1)=(((ay g role (x.2.1:Nat)).length-1:Nat):Int) by rw[a7 (by omega) (by omega)];omega];refine JO g1 hs.ext fun b98 o99 u5=>⟨_,u5.nth 1 rfl,aa (fun c5=>fnd ⟨bU,by rw[s0,s1,c3,c4,c5];rfl⟩) (fun c5=>exp fun hm=>?_)⟩;have:=hm.2;rw[s0,s1,c3,c4,c5] at this;cases this
   .have:=hm.2;rw[s0,c3] at this;cases this
  .refine exp fun hm=>?_;have h9:=hm.2;unfold dq at h9;rw[Yl (i:=0) (by omega)] at h9;cases h9
 .have cO:i=V.length:=by omega
  subst cO;refine hs.put 2 rfl (o:=0) (vs:=cq.cs) rfl (bc 14) fun adJ hs=>?_;refine oL (w:=cq) (Q:=fun cs=>∃W n,tW g role W n/\RV h adJ W (decide (n<aH)) (.tuple ⟨[.agg ⟨cs⟩,.bool false]⟩)) (hs.at 2 rfl (o:=0) (n:=14) rfl) ?_;have Qc:gW g (wT g role) (V.map Prod.snd) par (V.map Prod.snd).length 0:=by rw[Yc];exact hB
  exact⟨oY,aH,.jL Qc.none_,cq,rfl,rfl,rfl,rfl,rfl,[],(((St.refl h).step hs.ext).bH 65 3).bH 65 3⟩
theorem ji.len{g:Gl}{role:Int}{i:Nat}{W:WS}{n:Int}(hk:ji g role i W n):(n=aH/\W=oY)\/(n=W.len/\n<=8388608):=
 match i,hk with
 | 0,hk=>(kq.len (.inl rfl) hk).imp id fun ⟨a,b,_⟩=>⟨a,b⟩
 | 1,hk=>(tW.len hk).imp id fun ⟨a,b,_⟩=>⟨a,b⟩
 | 2,hk=>(kq.len (.inr (.inl rfl)) hk).imp id fun ⟨a,b,_⟩=>⟨a,b⟩
 | _+3,hk=>(kq.len (.inr (.inr rfl)) hk).imp id fun ⟨a,b,_⟩=>⟨a,b⟩
theorem Ts.bd{g:Gl}{role kind:Int}{E:List (Sl × List Ev)}{B:List Bool}{MS:List (Sl × List gF)}{BL:List Bool}{MV:List (Sl × List aP)}(hP:Ts g role E B MS BL MV)(hk:kind=1\/kind=3\/kind=4):∀p c,bR g role kind p=some c->0<=c/\c<=1000001:=by
 intro p c hc;unfold bR at hc;rcases hk with rfl | rfl | rfl
 .rw[if_pos rfl] at hc;split at hc
  .split at hc
   .cases hc;omega
   .cases hc
  .cases hc
 .rw[if_neg (by decide),if_pos rfl] at hc;split at hc
  .cases hc;omega
  .cases hc
 .rw[if_neg (by decide),if_neg (by decide)] at hc;split at hc
  .rename_i hr;obtain⟨y,hy,rfl⟩:=sL.1 hc;obtain⟨q,hq,e⟩:=hP.p.m p.1 hr.1;have hm:=(mu hy).1;rw[<-e] at hm;obtain⟨a,ha,rfl⟩:=Yp.1 hm;have:=(hP.w q (Yb hq) a ha).2.1;unfold cr;simp only;omega
  .cases hc
def ME(ar:Sl)(MS:List (Sl × List gF))(R:List It):List It:=.sl ar 211 1 ((MS.map Prod.fst).map eD)::(MS.map (nest 213 4 rC)++R)
def N6(rs ms:Sl)(BL:List Bool)(MV:List (Sl × List aP)):List It:=.sl rs 4 1 (BL.map bC) :: .sl ms 214 1 ((MV.map Prod.fst).map eD)::MV.map (nest 219 2 jc)
theorem J9.of{h0 h:Heap}{L:List It}{g:Gl}{role:Int}{ev en ar rs ms:Sl}{E:List (Sl × List Ev)}{B:List Bool}{MS:List (Sl × List gF)}{BL:List Bool}{MV:List (Sl × List aP)}{R:List It}{f:Nat->List fT}(hs:St h0 h L)(h1:∀i∈Ct ev en role E B,i∈L)(h2:∀i∈ME ar MS R,i∈L)(h3:∀i∈N6 rs ms BL MV,i∈L)(hA:yt g role f R MS):J9 h g role ev en ar rs ms E B MS BL MV:=by
 refine⟨⟨hs.mD (e:=57) (h1 _ ?_) (by decide),hs.mD (e:=4) (h1 _ ?_) (by decide),hs.mD (e:=211) (h2 _ Yx) (by decide),fun q hq=>hs.mD (e:=33) (h1 _ ?_) (by decide),fun q hq=>hs.mD (e:=213) (h2 _ (Yn _ (List.mem_append_left _ (Yp.2 ⟨q,hq,rfl⟩)))) (by decide)⟩,hs.mD (e:=4) (h3 _ Yx) (by decide),hs.mD (e:=214) (h3 _ (Yn _ Yx)) (by decide),fun q hq=>hs.mD (e:=219) (h3 _ (Yn _ (Yn _ (Yp.2 ⟨q,hq,rfl⟩)))) (by decide),fun q hq a ha=>?_⟩
 .unfold Ct;exact Yx
 .unfold Ct;exact Yn _ Yx
 .unfold Ct;exact Yn _ (Yn _ (Yp.2 ⟨q,hq,rfl⟩))
 .have hp:=hA.p q hq a ha;have cO:nest 65 3 Ac.cs (a.2.2,a.2.1.path)∈L:=h2 _ (Yn _ (List.mem_append_right _ hp.1));obtain⟨L',bI⟩:=hs.pick cO;have hl:=bI.len 0 (s:=a.2.2) (e:=65) (n:=3) rfl (by decide);exact⟨bI.mD (e:=65) Yx (by decide),hl.2.1,hl.2.2,by omega⟩
inductive Sh (g:Gl) (role:Int) (h h':Heap):Value->Prop
 | ok {W:WS} (hF:bG g role 4 W aH) (E:Ext h h'):Sh g role h h' (.tuple ⟨[.agg ⟨cq.cs⟩,.int .i64 0]⟩)
 | err {v:Value} {W:WS} {n:Int} (hF:bG g role 4 W n) (hn:n≠aH) (hw:ju h h' W 18 v):Sh g role h h' v
def zx:List Value:=[.string ⟨#[]⟩,.slice none 0 0,.slice none 0 0,.int .i64 0,.int .i64 0,.int .i64 0,.slice none 0 0,.slice none 0 0,.int .i64 0,.int .i64 0,.slice none 0 0,.slice none 0 0,.slice none 0 0,.slice none 0 0,.slice none 0 0]
def uo(ob xb rb gb:Nat)(g:Gl)(pc:List Value)(w:Wt)(F S:List Ac)(I:List It):List It:=
 .ae ob w.cs 39 :: .sl w.f 65 3 (F.map Ac.cs) :: .sl w.s 65 3 (S.map Ac.cs) :: .ae xb pc 118 :: .ae rb cq.cs 39 :: .ae gb g.cs 27::I
theorem Lr{α:Type}{a f s:α}{L M:List α}:((a::L)++(f::s::M)).Perm ((a::f::s::L)++M):=by
 refine List.Perm.cons _ ?_;show (L++([f,s]++M)).Perm (([f,s]++L)++M);rw[<-Yz];exact List.perm_append_comm.append_right _
theorem Kk{α:Type}{a f s o f0 s0 x r g:α}{I:List α}:(a::f::s::o::f0::s0::x::r::g::I).Perm ((o::f::s::x::r::g::I)++[a,f0,s0]):=by
 refine List.Perm.trans ?_ (List.perm_append_comm (l₁:=[a,f0,s0]));refine List.Perm.cons _ ?_;refine List.Perm.trans (l₂:=[f0,s0]++(f::s::o::x::r::g::I)) ?_ (List.Perm.append_left [f0,s0] ?_)
 .exact (List.perm_append_comm (l₁:=[f,s,o]) (l₂:=[f0,s0])).append_right (x::r::g::I)
 .exact (List.perm_append_comm (l₁:=[f,s]) (l₂:=[o])).append_right (x::r::g::I)
theorem aci{h hX hB h9:Heap}{g:Gl}{role:Int}{ev en ar rs ms:Sl}{E:List (Sl × List Ev)}{B:List Bool}{MS:List (Sl × List gF)}{BL:List Bool}{MV:List (Sl × List aP)}{R:List It}(hg:GI h g)(hV:af g)
  (hs:St h hX (.ae hB.size zx 118 :: .ae h9.size cq.cs 39 :: .ae h.size g.cs 27::((Ct ev en role E B++ME ar MS R)++N6 rs ms BL MV))) (hA:TA g role E B g.n.toNat) (hM:yt g role (du g role) R MS) (hl:∀q∈MS,q.2.length<=160000) (hR:Ss g role BL MV) {K:Value->Heap->Prop} (hK:∀v h',Sh g role h h' v->K v h') :
  Jk hX hB (bs g.nm) g.hr g.hd g.n g.s g.e g.he g.ht role ev en ar rs ms h h9 K:=by
 unfold Jk;have hi1:∀ {P:List It} (i:It),i∈Ct ev en role E B->i∈P++((Ct ev en role E B++ME ar MS R)++N6 rs ms BL MV):=fun i hi=>List.mem_append_right _ (List.mem_append_left _ (List.mem_append_left _ hi));have S2:∀ {P:List It} (i:It),i∈ME ar MS R->i∈P++((Ct ev en role E B++ME ar MS R)++N6 rs ms BL MV):=fun i hi=>List.mem_append_right _ (List.mem_append_left _ (List.mem_append_right _ hi));have hi3:∀ {P:List It} (i:It),i∈N6 rs ms BL MV->i∈P++((Ct ev en role E B++ME ar MS R)++N6 rs ms BL MV):=fun i hi=>List.mem_append_right _ (List.mem_append_right _ hi);have hVP:=RX.of hV hA hM hl hs (fun i hi=>S2 (P:=[_,_,_]) i (Yn _ (List.mem_append_right _ hi)));have hP:Ts g role E B MS BL MV:=⟨hVP,hR,fun q hq a ha=>(hM.p q hq a ha).2⟩;refine hs.put 0 rfl (o:=0) (vs:=j9 g role 1 ev en ar rs ms) rfl (show 15<=15 by decide) fun zS hs=>?_;refine hs.ao (vs:=cq.cs) rfl rfl fun Qd hs=>?_;refine hs.put 1 rfl (o:=9) (vs:=[.int .i64 1]) rfl (show 9+1<=15 by decide) fun h84 hs=>?_;generalize hIe:((Ct ev en role E B++ME ar MS R)++N6 rs ms BL MV)=I at *;have mk:∀ {P:List It} {h':Heap},St h h' (P++I)->J9 h' g role ev en ar rs ms E B MS BL MV:=fun {P h'} bI=>J9.of bI hi1 S2 hi3 hM;have hs:St h h84 (uo zS.size hB.size h9.size h.size g (j9 g role (((0:Nat):Int)+1) ev en ar rs ms) cq [] [] I):=
  ((hs.bH 65 3).bH 65 3).perm ((List.perm_append_comm (l₁:=[_,_]) (l₂:=[_])).append_right _)
 refine⟨fun fd h' μ=>∃(i:Nat) (W:WS) (n:Int) (w:Wt),i<=4/\4-i=μ/\bG g role i W n/\fd=decide (n<aH)/\w.k=W.k/\w.r=W.r/\w.e=W.e/\w.o=W.o/\St h h' (uo zS.size hB.size h9.size h.size g (j9 g role ((i:Int)+1) ev en ar rs ms) w W.F W.S I),⟨_,0,oY,aH,cq,by omega,rfl,.zero,rfl,rfl,rfl,rfl,rfl,hs⟩,?_⟩;clear hs;rintro-_ Ca μ ⟨i,W,n,w,hi,rfl,hF,rfl,e1,e2,e3,e4,hs⟩;have zQ:=hF.len;have WC:n<=aH:=by rcases zQ with h | h<;>(unfold aH at *;omega)
 refine⟨(i:Int)+1,hs.rd 3 rfl (i:=9) rfl,aM (fun c=>?_) (fun c=>?_)⟩
 .have tv:IntKind.wrap .i64 ((i:Int)+1+1)=((i+1:Nat):Int)+1:=by rw[a7 (by omega) (by omega)];omega
  refine hs.ao (vs:=cq.cs) rfl rfl fun h92 hs=>?_;have hs:St h h92 (.ae Ca.size cq.cs 39::uo zS.size hB.size h9.size h.size g (j9 g role ((i:Int)+1) ev en ar rs ms) w W.F W.S I):=hs;refine⟨fun ok h'=>∃(W':WS) (n':Int) (w':Wt),ji g role i W' n'/\ok=decide (n'<aH)/\w'.k=W'.k/\w'.r=W'.r/\w'.e=W'.e/\w'.o=W'.o/\St h h' (.ae Ca.size w'.cs 39 :: .sl w'.f 65 3 (W'.F.map Ac.cs) :: .sl w'.s 65 3 (W'.S.map Ac.cs)::uo zS.size hB.size h9.size h.size g (j9 g role ((i:Int)+1) ev en ar rs ms) w W.F W.S I),?_,?_⟩
  .have WI:=mk (P:=[_,_,_,_,_,_,_]) hs;have fin:∀ {W':WS} {w':Wt} {L':List It} {h':Heap},St h92 h' (.sl w'.f 65 3 (W'.F.map Ac.cs) :: .sl w'.s 65 3 (W'.S.map Ac.cs)::L')->∀ {K:Heap->Prop},(∀uY,St h uY (.ae Ca.size w'.cs 39 :: .sl w'.f 65 3 (W'.F.map Ac.cs) :: .sl w'.s 65 3 (W'.S.map Ac.cs)::uo zS.size hB.size h9.size h.size g (j9 g role ((i:Int)+1) ev en ar rs ms) w W.F W.S I)->K uY)->jd h' ⟨Ca.size,0,none⟩ 14/\∀uY,uY=bJ h' ⟨Ca.size,0,none⟩ 0 w'.cs->K uY:=fun {W' w' L' h'} bI {K} hK=>by
    have hs:=hs.join bI;refine hs.put 0 rfl (o:=0) (vs:=w'.cs) rfl (bc 14) fun uY hs=>hK uY ?_;refine hs.gK (R:=L') ?_;exact Lr
   refine⟨(i:Int)+1,hs.rd 4 rfl (i:=9) rfl,dw (fun c2=>?_) (fun c2=>?_)⟩
   .obtain rfl:i=1:=by omega
    refine⟨_,_,_,_,_,_,_,_,hs.at 6 rfl (o:=0) (n:=8) rfl,ev,en,hs.at 4 rfl (o:=10) (n:=2) rfl,?_⟩;refine (La g role ev en ar E B MS h92 (hg.ext hs.ext) hV WI.v hVP).mono ?_;rintro _ uX ⟨W',n',hQ,w',a1,a2,a3,a4,rfl,L',bI⟩;refine⟨w'.k,w'.r,w'.f,w'.s,w'.e.r,w'.e.s,w'.e.p,w'.e.l,au,w'.o.r,w'.o.s,w'.o.p,w'.o.l,au,decide (n'<aH),rfl,?_⟩;exact fin bI fun uY zN=>⟨W',n',w',hQ,rfl,a1,a2,a3,a4,zN⟩
   .have hik:i=0\/i=2\/i=3:=by omega
    have LG:(i:Int)+1=1\/(i:Int)+1=3\/(i:Int)+1=4:=by omega
    have hkq:∀W' n',kq g role ((i:Int)+1) W' n'->ji g role i W' n':=fun W' n' hb=>by
     rcases hik with rfl | rfl | rfl<;>exact hb
    refine⟨_,_,_,_,_,_,_,_,_,_,_,_,_,_,_,hs.at 4 rfl (o:=0) (n:=15) rfl,?_⟩;refine (Dd g role ((i:Int)+1) ev en ar rs ms E B MS BL MV h92 (hg.ext hs.ext) hV WI hP (hP.bd LG) LG).mono ?_;rintro _ aed ⟨W',n',hQ,w',a1,a2,a3,a4,rfl,L',bI⟩;refine⟨w'.k,w'.r,w'.f,w'.s,w'.e.r,w'.e.s,w'.e.p,w'.e.l,au,w'.o.r,w'.o.s,w'.o.p,w'.o.l,au,decide (n'<aH),rfl,?_⟩;exact fin bI fun uY zN=>⟨W',n',w',hkq _ _ hQ,rfl,a1,a2,a3,a4,zN⟩
  .clear hs;rintro-_ h157 ⟨W',n',w',hQ,rfl,a1,a2,a3,a4,hs⟩;have uO:=hQ.len;have take:∀ {h':Heap},St h h' (.ae Ca.size w'.cs 39 :: .sl w'.f 65 3 (W'.F.map Ac.cs) :: .sl w'.s 65 3 (W'.S.map Ac.cs)::uo zS.size hB.size h9.size h.size g (j9 g role ((i:Int)+1) ev en ar rs ms) w W.F W.S I)->n'<n->MO h' Ca zS hB (4-i) (fun fd h' μ=>∃(i:Nat) (W:WS) (n:Int) (w:Wt),i<=4/\4-i=μ/\bG g role i W n/\fd=decide (n<aH)/\w.k=W.k/\w.r=W.r/\w.e=W.e/\w.o=W.o/\St h h' (uo zS.size hB.size h9.size h.size g (j9 g role ((i:Int)+1) ev en ar rs ms) w W.F W.S I)):=fun {h'} hs bU=>by
    unfold MO;refine Ah hs 0 3 (w:=w') (w0:=w) rfl rfl fun Qn hs=>⟨(i:Int)+1,hs.rd 6 rfl (i:=9) rfl,?_⟩;refine hs.put 6 rfl (o:=9) (vs:=[.int .i64 (IntKind.wrap .i64 ((i:Int)+1+1))]) rfl (show 9+1<=15 by decide) fun Qm hs=>?_;rw[tv] at hs;refine⟨_,(show 4-(i+1)<4-i by omega),i+1,W',n',w',by omega,rfl,.take hF hQ bU,(decide_eq_true (by omega)).symm,a1,a2,a3,a4,hs.gK Kk⟩
   have bW:∀ {h':Heap},St h h' (.ae Ca.size w'.cs 39 :: .sl w'.f 65 3 (W'.F.map Ac.cs) :: .sl w'.s 65 3 (W'.S.map Ac.cs)::uo zS.size hB.size h9.size h.size g (j9 g role ((i:Int)+1) ev en ar rs ms) w W.F W.S I)->¬n'<n->MN h' hB (4-i) (fun fd h' μ=>∃(i:Nat) (W:WS) (n:Int) (w:Wt),i<=4/\4-i=μ/\bG g role i W n/\fd=decide (n<aH)/\w.k=W.k/\w.r=W.r/\w.e=W.e/\w.o=W.o/\St h h' (uo zS.size hB.size h9.size h.size g (j9 g role ((i:Int)+1) ev en ar rs ms) w W.F W.S I)) (decide (n<aH)):=fun {h'} hs JX=>by
    unfold MN;refine⟨(i:Int)+1,hs.rd 6 rfl (i:=9) rfl,?_⟩;refine hs.put 6 rfl (o:=9) (vs:=[.int .i64 (IntKind.wrap .i64 ((i:Int)+1+1))]) rfl (show 9+1<=15 by decide) fun Qm hs=>?_;rw[tv] at hs;exact⟨_,(show 4-(i+1)<4-i by omega),i+1,W,n,w,by omega,rfl,.bW hF hQ JX,rfl,e1,e2,e3,e4,hs.drop 3⟩
   have Wf:=(pW (W:=W') (hs.drop 1) a1).1;have agF:=(pW (W:=W) (hs.drop 4) e1).1;refine aa (fun c3=>?_) (fun c3=>?_)
   .have Oc:=cm c3;have fY:n'=W'.len/\n'<=8388608:=by
     rcases uO with h | h
     .omega
     .exact h
    refine aa (fun c4=>?_) (fun c4=>?_)
    .refine take hs ?_;have:¬n<aH:=by
      intro h9;rw[decide_eq_true h9] at c4;cases c4
     omega
    .have hnf:n<aH:=by
      by_cases h9:n<aH
      .exact h9
      .rw[decide_eq_false h9] at c4;cases c4
     have BR:n=W.len/\n<=8388608:=by
      rcases zQ with h | h
      .omega
      .exact⟨h.1,h.2.1⟩
     refine⟨w'.k,w'.r,w'.f,w'.s,w'.e.r,w'.e.s,w'.e.p,w'.e.l,au,w'.o.r,w'.o.s,w'.o.p,w'.o.l,au,hs.at 0 rfl (o:=0) (n:=14) rfl,w.k,w.r,w.f,w.s,w.e.r,w.e.s,w.e.p,w.e.l,au,w.o.r,w.o.s,w.o.p,w.o.l,au,hs.at 3 rfl (o:=0) (n:=14) rfl,?_⟩;refine (wZ w' h157 (by omega)).mono ?_;rintro _ adX ⟨rfl,X⟩;have hs:=hs.step X;refine⟨_,rfl,X.sm,?_⟩;refine (wZ w adX (by omega)).mono ?_;rintro _ LZ ⟨rfl,X2⟩;have hs:=hs.step X2;refine⟨_,rfl,X2.sm,aM (fun c5=>take hs (by omega)) (fun c5=>bW hs (by omega))⟩
   .refine bW hs ?_;have:¬n'<aH:=by
     intro h9;rw[decide_eq_true h9] at c3;cases c3
    omega
 .obtain rfl:i=4:=by omega
  refine aa (fun c2=>?_) (fun c2=>?_)
  .have hnf:=cm c2;refine Ah hs 0 4 (w:=w) (w0:=cq) rfl rfl fun Xv hs=>?_;refine oL (w:=w) (Q:=fun cs=>K (.tuple ⟨[.agg ⟨cs⟩,.int .i64 18]⟩) Xv) (hs.at 4 rfl (o:=0) (n:=14) rfl) ?_;exact hK _ _ (.err hF (by omega) ⟨w,e1,e2,e3,e4,rfl,_,hs.drop 1⟩)
  .have hnf:n=aH:=by
    by_cases h9:n<aH
    .rw[decide_eq_true h9] at c2;cases c2
    .omega
   subst hnf;refine hs.put 4 rfl (o:=0) (vs:=cq.cs) rfl (bc 14) fun adQ hs=>?_;refine oL (w:=cq) (Q:=fun cs=>K (.tuple ⟨[.agg ⟨cs⟩,.int .i64 0]⟩) adQ) (hs.at 4 rfl (o:=0) (n:=14) rfl) ?_;exact hK _ _ (.ok hF hs.ext)
end Go.VC
end

section
namespace Go.VC
open Go.Proofs Go.LexS
variable [aB]
namespace M
theorem QU(x y:Ms)(h:Heap):Fn Pz 52 #[.agg ⟨x.cs⟩,.agg ⟨y.cs⟩] h fun v h'=>v=.int .i64 (rz x y)/\Ext h h':=by
 apply abG x.p x.l y.p y.l;unfold W52;have hs:=St.refl h;refine hs.aj fun h5 hs=>?_;refine hs.aj fun h6 hs=>?_;refine⟨by decide,_,hs.rd 1 rfl (i:=0) rfl,by decide,_,hs.rd 0 rfl (i:=0) rfl,by decide,_,hs.rd 1 rfl (i:=1) rfl,by decide,_,hs.rd 0 rfl (i:=1) rfl,?_⟩;refine (eW _ _ _).mono ?_;rintro _ _ ⟨rfl,rfl⟩;refine⟨_,rfl,fun _ _ _ _ hv=>hv,?_⟩;refine (eW _ _ _).mono ?_;rintro _ _ ⟨rfl,rfl⟩;refine⟨_,rfl,fun _ _ _ _ hv=>hv,?_⟩;refine hs.aj fun dV hs=>?_;have bD:=hs.dG 2 1 ([cT x.p y.p,cT x.l y.l].map aO) rfl (cA _) rfl (by decide);refine (s7 [cT x.p y.p,cT x.l y.l] _ dV (bD.rows 0 rfl (by omega)) (show 2<=1048576 by decide)).mono ?_;rintro _ _ ⟨rfl,rfl⟩;exact⟨_,rfl,rfl,hs.ext⟩
end M
end Go.VC
end

section
namespace Go.VC
open Go.Proofs Go.LexS Go.Shelf
theorem OE{h0 h:Heap}{L:List It}(hs:St h0 h L)(k:Nat){s:Sl}{l:List Ms}(hk:L[k]?=some (.sl s 52 2 (l.map Ms.cs)))(hm:l.length<=1048576):
  Fn Pz 51 #[.slice s.a s.n s.c,.func (.func 52) #[] #[]] h fun v h'=>v=.tuple ⟨[]⟩/\∃l':List Ms,l'.Perm l/\l'.Pairwise (fun a b=>¬cu b a)/\St h0 h' (L.set k (.sl s 52 2 (l'.map Ms.cs))):=by
 refine Fn.mono (ll Tryz.Ks 2 52 Tryz.isAgg52 Tryz.sizeOf52 Ms.cs (fun _=>rfl) (fun x v hv=>by simp[Ms.cs] at hv;rcases hv with rfl | rfl<;>rfl) rz Ng 52 (enters_of Tryz.func52 (by kernel_rfl) rfl) (fun x y h=>@M.QU fo x y h) hs k hk (by omega) (by omega)) ?_;rintro v h' ⟨rfl,l',hp,hw,bI⟩;exact⟨rfl,l',hp,hw.imp fun {a b} jI=>by unfold ltOf at jI;rw[decide_eq_false_iff_not,gQ] at jI;exact jI,bI⟩
end Go.VC
end

section
namespace Go.VC
open Go.Proofs Go.LexS
theorem Oj:cC Pz 49 52 2 16=true:=by kernel_rfl
def uq(p:Pr):Ms:=⟨(p.1:Nat),(p.2:Nat)⟩
structure EX (g:Gl) (role:Int) (P:List Ms):Prop where
 so:P.Pairwise cu
 mem:∀x,x∈P ↔ ∃p:Pr,x=uq p/\dC g role p
 ln:P.length<=40000
inductive Tr (g:Gl) (role:Int) (h h':Heap):Value->Prop
 | bad (bK:¬(af g/\0<=role/\role<g.rs.length)) (E:Ext h h'):Tr g role h h' (.tuple ⟨[.slice none 0 0,.int .i64 1]⟩)
 | ok {r:Sl} {P:List Ms} {L:List It} (hV:af g) (hr:0<=role/\role<g.rs.length) (hs:St h h' (.sl r 52 2 (P.map Ms.cs)::L)) (hP:EX g role P):Tr g role h h' (.tuple ⟨[.slice r.a r.n r.c,.int .i64 0]⟩)
theorem KQ(g:Gl)(role:Int)(h:Heap)(hg:GI h g)(hx:Gm h):Fn Pz 22 #[g.v,.int .i64 role] h fun v h'=>Tr g role h h' v:=by
 apply abX (bs g.nm) g.hr g.hd g.n g.s g.e g.he g.ht role;unfold W22;refine (St.refl h).aj fun h9 hs=>?_;refine⟨_,_,_,_,_,_,_,_,hs.at 0 rfl (o:=0) (n:=8) rfl,?_⟩;refine (kT g role h9 (hg.ext hs.ext) (hx.ext hs.ext)).mono ?_;rintro _ l8 (⟨bK,rfl,E⟩ | ⟨hgd,ab,ho,cn,cc,bt,cj,cF,OU,FI,LI,AG,OW,rfl,hsA,hSp⟩)
 .exact⟨none,1,rfl,eY (fun _=>.bad bK (hs.step E).ext) (fun c=>absurd c (by decide))⟩
 obtain⟨hV,hr⟩:=hgd;refine⟨some ⟨ab,0,none⟩,0,rfl,eY (fun c=>absurd rfl c) (fun _=>?_)⟩;have hG:=Iy (R:=[]) (by rw[Yw];exact hsA) (hg.ext hs.ext) hSp.1;replace hs:=hs.step hsA.ext;refine (qq ab g role ho _ l8 hG hV).mono ?_;rintro _ LY ⟨E25,all,mb,A,l,rfl,hM⟩;refine⟨all,some mb,rfl,?_⟩;have hN:=hV.num.n;have lX:A.length<=g.n.toNat*g.n.toNat:=jK hM.nd fun p hp=>by have:=((hM.pr p).1 hp).lt hV;exact⟨by omega,by omega⟩
 have hnn:g.n.toNat*g.n.toNat<=200*200:=Nat.mul_le_mul (by omega) (by omega);have Hk:=hM.ra;have agG:=Hk.ln;have qR:St h LY []:=((hs.step E25).drop 1);have dx:=(St.refl LY).bH 52 2;refine eE (n:=all.n) dx (fun i rows=>rows=((A.take i).map uq).map Ms.cs) rfl ?_;clear dx;rintro-i out fP rows hi hs rfl;have xm:=hs.len 0 (s:=out) (e:=52) (n:=2) rfl (by omega);rw[Yc,Yc,Yu] at xm;refine aM (fun c=>?_) (fun c=>?_)
 .refine (Hk.rw.ext hs.ext).aA (by omega) (by omega) fun b o p gp t=>?_;replace gp:A[i]?=some p:=gp;refine⟨_,_,t,?_⟩;refine hs.ao (vs:=pC p) rfl rfl fun oV hs=>?_;refine⟨_,hs.rd 0 rfl (i:=0) rfl,_,hs.rd 0 rfl (i:=1) rfl,?_⟩;refine hs.app 1 rfl Oj (m:=1) [(uq p).cs] rfl rfl (fun r hr=>by rw[Ye] at hr;rw[hr];rfl) rfl (by omega) (by simp only[maxLen];omega) fun r zV ns hs=>?_;refine Az.next (by omega) (by omega) ⟨_,hs.drop 1,?_⟩;rw[ak gp,Ym,Ym];rfl
 .have cO:i=A.length:=by omega
  subst cO;rw[vM] at hs;refine (OE hs 0 rfl (by rw[Yc];omega)).mono ?_;rintro _ kg ⟨rfl,P,hp,hw,hs⟩;refine⟨rfl,.ok hV hr (qR.join hs) ⟨?_,fun x=>?_,?_⟩⟩
  .have zR:P.Nodup:=hp.nodup_iff.2 (List.Pairwise.map uq (fun a b bE e=>bE (by
    unfold uq at e;obtain⟨e1,e2⟩:=Ms.mk.inj e;exact Prod.ext (by omega) (by omega))) hM.nd)
   refine (hw.and zR).imp fun {a b} ⟨h1,h2⟩=>?_;have:a.p≠b.p\/a.l≠b.l:=by
    by_cases e:a.p=b.p
    .exact .inr fun e2=>h2 (by cases a;cases b;simp only at e e2;rw[e,e2])
    .exact .inl e
   unfold cu at h1 ⊢;omega
  .rw[hp.mem_iff,Yp];exact⟨fun ⟨p,h1,h2⟩=>⟨p,h2.symm,(hM.pr p).1 h1⟩,fun ⟨p,h1,h2⟩=>⟨p,(hM.pr p).2 h2,h1.symm⟩⟩
  .rw[hp.length_eq,Yc];omega
theorem OL(g:Gl)(role:Int)(h:Heap)(hg:GI h g)(hM:JE g.ds):Fn Pz 27 #[g.v,.int .i64 role] h fun v h'=>(¬tX g role/\v=.tuple ⟨[.agg ⟨cq.cs⟩,.int .i64 1]⟩/\Ext h h')\/(tX g role/\Sh g role h h' v):=by
 apply abW (bs g.nm) g.hr g.hd g.n g.s g.e g.he g.ht role;unfold W27;refine (St.refl h).aj fun h9 hs=>?_;refine hs.aj fun cw hs=>?_;refine⟨_,_,_,_,_,_,_,_,hs.at 1 rfl (o:=0) (n:=8) rfl,?_⟩;refine (z7 g role cw (hg.ext hs.ext) hM).mono ?_;rintro _ l8 ⟨⟨b,rfl,hb⟩,X⟩;have hs:=hs.step X;refine⟨b,rfl,aa (fun c=>?_) (fun c=>?_)⟩
 .refine hs.put 0 rfl (o:=0) (vs:=cq.cs) rfl (bc 14) fun dV hs=>?_;refine oL (w:=cq) (Q:=fun cs=>(¬tX g role/\(.tuple ⟨[.agg ⟨cs⟩,.int .i64 1]⟩:Value)=.tuple ⟨[.agg ⟨cq.cs⟩,.int .i64 1]⟩/\Ext h dV)\/(tX g role/\Sh g role h dV (.tuple ⟨[.agg ⟨cs⟩,.int .i64 1]⟩))) (hs.at 0 rfl (o:=0) (n:=14) rfl) ?_;exact .inl ⟨cz hb (by simpa using c),rfl,hs.ext⟩
 .have hG:tX g role:=hb.1 (by simpa using c);have hV:=hG.1;have fin:∀ {hX hB:Heap} {ev en ar rs ms:Sl} {E:List (Sl × List Ev)} {B:List Bool} {MS:List (Sl × List gF)} {BL:List Bool} {MV:List (Sl × List aP)} {R:List It},St h hX (.ae hB.size zx 118 :: .ae h9.size cq.cs 39 :: .ae h.size g.cs 27::((Ct ev en role E B++ME ar MS R)++N6 rs ms BL MV))->TA g role E B g.n.toNat->yt g role (du g role) R MS->(∀q∈MS,q.2.length<=160000)->Ss g role BL MV->Jk hX hB (bs g.nm) g.hr g.hd g.n g.s g.e g.he g.ht role ev en ar rs ms h h9 (fun v h'=>(¬tX g role/\v=.tuple ⟨[.agg ⟨cq.cs⟩,.int .i64 1]⟩/\Ext h h')\/(tX g role/\Sh g role h h' v)):=fun hs hA hMm hl hR=>aci hg hV hs hA hMm hl hR fun v h' hr=>.inr ⟨hG,hr⟩;have fic:∀ {hX hB:Heap} {ev en ar:Sl} {E:List (Sl × List Ev)} {B:List Bool} {MS:List (Sl × List gF)} {R:List It},St h hX (.ae hB.size zx 118 :: .ae h9.size cq.cs 39 :: .ae h.size g.cs 27::(Ct ev en role E B++ME ar MS R))->TA g role E B g.n.toNat->yt g role (du g role) R MS->(∀q∈MS,q.2.length<=160000)->Jj (bs g.nm) g.hr g.hd g.n g.s g.e g.he g.ht role hX h hB (bs g.nm) g.hr g.hd g.n g.s g.e g.he g.ht ev en ar h9 (fun v h'=>(¬tX g role/\v=.tuple ⟨[.agg ⟨cq.cs⟩,.int .i64 1]⟩/\Ext h h')\/(tX g role/\Sh g role h h' v)):=fun {hX hB ev en ar E B MS R} hs hA hMm hl=>by
   unfold Jj;refine (nG g role hX (hg.ext hs.ext) hV).mono ?_;rintro _ J3 ⟨rs,ms,BL,MV,rfl,hR,hsC⟩;exact⟨rs,ms,rfl,hsC.ext.sm,fin (hs.join hsC) hA hMm hl hR⟩
  refine⟨_,_,_,_,_,_,_,_,hs.at 1 rfl (o:=0) (n:=8) rfl,_,_,_,_,_,_,_,_,hs.at 1 rfl (o:=0) (n:=8) rfl,_,_,_,_,_,_,_,_,hs.at 1 rfl (o:=0) (n:=8) rfl,_,_,_,_,_,_,_,_,hs.at 1 rfl (o:=0) (n:=8) rfl,?_,fun Xq X7=>?_⟩
  .refine (Cs g role l8 (hg.ext hs.ext) hM hG).mono ?_;rintro _ Ft ⟨ev,en,E,B,rfl,hsA,hAh⟩;have s1:=hs.join hsA;refine⟨ev,en,rfl,hsA.ext.sm,?_,fun Xt X8=>?_⟩
   .refine (kR g role Ft (hg.ext s1.ext) hV).mono ?_;rintro _ im ⟨ob,MS,R,rfl,hsB,yI,lX⟩;have s2:=s1.join hsB;refine⟨⟨some ⟨ob,0,none⟩,g.n.toNat,g.n.toNat⟩,rfl,hsB.ext.sm,?_,fun adP X9=>?_⟩
    .refine (nG g role im (hg.ext s2.ext) hV).mono ?_;rintro _ J3 ⟨rs,ms,BL,MV,rfl,hR,hsC⟩;have s3:=s2.join hsC;exact⟨rs,ms,rfl,hsC.ext.sm,fun h80 e80=>⟨(show Ext J3 h80 by rw[e80];exact Ext.push _ _).sm,fin (s3.dj e80) hAh yI lX hR⟩⟩
    .exact⟨(show Ext im adP by rw[X9];exact Ext.push _ _).sm,fic (s2.dj X9) hAh yI lX⟩
   .have s2:=s1.dj X8;refine⟨(show Ext Ft Xt by rw[X8];exact Ext.push _ _).sm,?_⟩;refine (kR g role Xt (hg.ext s2.ext) hV).mono ?_;rintro _ aho ⟨ob,MS,R,rfl,hsB,yI,lX⟩;exact⟨⟨some ⟨ob,0,none⟩,g.n.toNat,g.n.toNat⟩,rfl,hsB.ext.sm,fic (s2.join hsB) hAh yI lX⟩
  .have s1:=hs.dj X7;refine⟨(show Ext l8 Xq by rw[X7];exact Ext.push _ _).sm,?_⟩;refine (Cs g role Xq (hg.ext s1.ext) hM hG).mono ?_;rintro _ adF ⟨ev,en,E,B,rfl,hsA,hAh⟩;have s2:=s1.join hsA;refine⟨ev,en,rfl,hsA.ext.sm,?_⟩;refine (kR g role adF (hg.ext s2.ext) hV).mono ?_;rintro _ ahg ⟨ob,MS,R,rfl,hsB,yI,lX⟩;exact⟨⟨some ⟨ob,0,none⟩,g.n.toNat,g.n.toNat⟩,rfl,hsB.ext.sm,fic (s2.join hsB) hAh yI lX⟩
theorem p6{α:Type}{r:α->α->Prop}(ha:∀a b,r a b->¬r b a):∀ {l l':List α},l.Pairwise r->l'.Pairwise r->(∀x,x∈l ↔ x∈l')->l=l'
 | [],[],_,_,_=>rfl
 | [],b::l',_,_,h=>by have:=(h b).2 Yx;cases this
 | a::l,[],_,_,h=>by have:=(h a).1 Yx;cases this
 | a::l,b::l',h1,h2,h=>by
  obtain⟨p1,q1⟩:=List.pairwise_cons.1 h1;obtain⟨p2,q2⟩:=List.pairwise_cons.1 h2;have WN:∀x,¬r x x:=fun x hx=>ha x x hx hx;have e:a=b:=by
   rcases Yr.1 ((h a).1 Yx) with e | e
   .exact e
   .rcases Yr.1 ((h b).2 Yx) with e' | e'
    .exact e'.symm
    .exact absurd (p1 b e') (ha b a (p2 a e))
  subst e;rw[p6 ha q1 q2 fun x=>⟨fun hx=>by
   rcases Yr.1 ((h x).1 (Yn _ hx)) with e | e
   .subst e;exact absurd (p1 x hx) (WN x)
   .exact e,fun hx=>by
   rcases Yr.1 ((h x).2 (Yn _ hx)) with e | e
   .subst e;exact absurd (p2 x hx) (WN x)
   .exact e⟩]
theorem EX.uniq{g:Gl}{role:Int}{P P':List Ms}(h:EX g role P)(h':EX g role P'):P=P':=
 p6 (fun a b h1 h2=>by unfold cu at h1 h2;omega) h.so h'.so fun x=>by rw[h.mem,h'.mem]
def JN(n:Nat)(BL:List Bool)(k:Nat):List Ms:=((List.range k).filter fun k=>BL.getD k false).map fun k=>uq (k/n,k%n)
theorem KG{g:Gl}(hV:af g){role:Int}{BL:List Bool}{MV:List (Sl × List aP)}(hR:Ss g role BL MV):EX g role (JN g.n.toNat BL (g.n.toNat*g.n.toNat)):=by
 have hN:=hV.num.n;have S9:g.n.toNat*g.n.toNat<=200*200:=Nat.mul_le_mul (by omega) (by omega);have eJ:0<g.n.toNat:=by omega
 refine⟨?_,fun x=>?_,?_⟩
 .unfold JN;refine List.Pairwise.map _ (fun a b jI=>?_) (List.Pairwise.filter _ List.pairwise_lt_range);have h1:=Nat.div_add_mod a g.n.toNat;have h2:=Nat.div_add_mod b g.n.toNat;have h3:a/g.n.toNat<=b/g.n.toNat:=Nat.div_le_div_right (Nat.le_of_lt jI);unfold cu uq;simp only;by_cases e:a/g.n.toNat=b/g.n.toNat
  .rw[e] at h1;exact .inr ⟨by rw[e],by omega⟩
  .exact .inl (Int.ofNat_lt.2 (Nat.lt_of_le_of_ne h3 e))
 .unfold JN;rw[Yp];constructor
  .rintro⟨k,hk,rfl⟩;obtain⟨PI,iC⟩:=List.mem_filter.1 hk;have JW:=List.mem_range.1 PI;obtain⟨b,hb,hp⟩:=hR.b (k/g.n.toNat,k%g.n.toNat) (Nat.div_lt_of_lt_mul JW) (Nat.mod_lt _ eJ);rw[show bP g.n.toNat (k/g.n.toNat,k%g.n.toNat)=k from Nat.div_add_mod k g.n.toNat] at hb;rw[Yo,hb] at iC;exact⟨_,rfl,hp.1 iC⟩
  .rintro⟨p,rfl,hp⟩;have de:=hp.nt hV;obtain⟨b,hb,S7⟩:=hR.b p de.1 de.2;refine⟨bP g.n.toNat p,List.mem_filter.2 ⟨List.mem_range.2 (dy de.1 de.2),?_⟩,by rw[lH de.2,lG de.2]⟩;rw[Yo,hb];exact S7.2 hp
 .unfold JN;rw[Yc];have:=List.length_filter_le (fun k=>BL.getD k false) (List.range (g.n.toNat*g.n.toNat));rw[kV] at this;omega
theorem KP(g:Gl)(role:Int)(h:Heap)(hg:GI h g)(hM:JE g.ds):Fn Pz 28 #[g.v,.int .i64 role] h fun v h'=>Tr g role h h' v:=by
 apply abV (bs g.nm) g.hr g.hd g.n g.s g.e g.he g.ht role;unfold W28;refine (St.refl h).aj fun h9 hs=>?_;refine⟨_,_,_,_,_,_,_,_,hs.at 0 rfl (o:=0) (n:=8) rfl,?_⟩;refine (z7 g role h9 (hg.ext hs.ext) hM).mono ?_;rintro _ aD ⟨⟨b,rfl,hb⟩,X⟩;have hs:=hs.step X;refine⟨b,rfl,aa (fun c=>.bad (cz hb (by simpa using c)) hs.ext) (fun c=>?_)⟩;have hG:tX g role:=hb.1 (by simpa using c);have hV:=hG.1;have hN:=hV.num.n;have hn:g.n=((g.n.toNat:Nat):Int):=by omega
 have eJ:0<g.n.toNat:=by omega
 have S9:g.n.toNat*g.n.toNat<=200*200:=Nat.mul_le_mul (by omega) (by omega);refine⟨_,_,_,_,_,_,_,_,hs.at 0 rfl (o:=0) (n:=8) rfl,?_⟩;refine (nG g role aD (hg.ext hs.ext) hV).mono ?_;rintro _ Tf ⟨rs,ms,BL,MV,rfl,hR,hsC⟩;have hs:=(hs.join hsC).bH 52 2;refine⟨rs,ms,rfl,?_⟩;have zO:=(hsC.len 0 (s:=rs) rfl (by decide)).1;rw[Yc,hR.bl] at zO;refine eE (n:=rs.n) hs (fun i rows=>rows=(JN g.n.toNat BL i).map Ms.cs) rfl ?_;clear hs;rintro-i out sD rows hi hs rfl;have rQ:=(hs.len 0 (s:=out) rfl (by decide)).1;rw[Yc] at rQ;have vH:(JN g.n.toNat BL i).length<=i:=by
  unfold JN;rw[Yc];have:=List.length_filter_le (fun k=>BL.getD k false) (List.range i)
  rwa [kV] at this
 refine aM (fun c2=>?_) (fun c2=>?_)
 .have Fo:i<g.n.toNat*g.n.toNat:=by omega
  obtain⟨bv,Xb⟩:=get_some (l:=BL) (i:=i) (by rw[hR.bl];exact Fo);have iA:JN g.n.toNat BL (i+1)=JN g.n.toNat BL i++if bv=true then [uq (i/g.n.toNat,i%g.n.toNat)] else []:=by
   unfold JN;rw[List.range_succ,List.filter_append,Ym];congr 1;have e:BL.getD i false=bv:=by rw[Yo,Xb];rfl
   by_cases PX:bv=true
   .rw[if_pos PX,List.filter_cons_of_pos (by rw[e,PX])];rfl
   .rw[if_neg PX,List.filter_cons_of_neg (by rw[e];exact PX)];rfl
  refine (hs.rows 2 (s:=rs) (cs:=bC) (l:=BL) rfl (by decide)).aA (by omega) (by omega) fun b39 o40 d gd u=>?_;replace gd:BL[i]?=some d:=gd;rw[Xb] at gd;cases gd;refine⟨_,u.nth 0 rfl,aa (fun c3=>?_) (fun c3=>?_)⟩
  .refine⟨g.n,hs.rd 1 rfl (i:=3) rfl,by omega,g.n,hs.rd 1 rfl (i:=3) rfl,by omega,?_⟩;have yD:i/g.n.toNat<g.n.toNat:=Nat.div_lt_of_lt_mul Fo;have hdiv:IntKind.wrap .i64 (Int.tdiv (i:Int) g.n)=((i/g.n.toNat:Nat):Int):=by
    have e1:Int.tdiv (i:Int) g.n=((i/g.n.toNat:Nat):Int):=by
     conv=>lhs;rw[hn]
     rfl
    rw[e1];generalize i/g.n.toNat=a at yD ⊢;rw[a7 (by omega) (by omega)]
   have xp:Int.tmod (i:Int) g.n=((i%g.n.toNat:Nat):Int):=by
    conv=>lhs;rw[hn]
    rfl
   rw[hdiv,xp];refine hs.app 0 rfl Oj (m:=1) [Ms.cs (uq (i/g.n.toNat,i%g.n.toNat))] rfl rfl (fun r hr=>by rw[Ye] at hr;rw[hr];rfl) rfl (by omega) (by simp only[maxLen];omega) fun r nD nr hs=>?_;refine Az.next (by omega) (by omega) ⟨_,hs,?_⟩;rw[iA,if_pos c3,Ym];rfl
  .exact Az.next (by omega) (by omega) ⟨_,hs,by rw[iA,if_neg (by rw[c3];decide),Yw]⟩
 .have Fo:i=g.n.toNat*g.n.toNat:=by omega
  subst Fo;exact .ok hV hG.2 hs (KG hV hR)

theorem RU(x y:Ac):((x.a==y.a)&&((x.b==y.b)&&((x.l==y.l)&&true)))=decide (x=y):=by
 obtain⟨a,b,c⟩:=x;obtain⟨a',b',c'⟩:=y;rw[Bool.eq_iff_iff];simp
theorem qf(A B:List Ac)(s t:Sl)(h:Heap)(hs:Rw h 3 s (A.map Ac.cs))(ht:Rw h 3 t (B.map Ac.cs))(m1:A.length<=16777216):Fn Pz 18 #[.slice s.a s.n s.c,.slice t.a t.n t.c] h (RP (A=B) h):=by
 apply abZ s t;unfold W18;have h1:=hs.ln;have h2:=ht.ln;refine eY (fun c=>RP.f (fun e=>by subst e;omega) .iK) (fun c=>?_);refine⟨fun x h' μ=>∃i:Nat,h'=h/\x=(i:Int)/\s.n-i=μ/\i<=s.n/\A.take i=B.take i,⟨_,0,rfl,rfl,rfl,Nat.zero_le _,rfl⟩,?_⟩;rintro-_ _ μ ⟨i,rfl,rfl,rfl,hi,he⟩;refine aM (fun c2=>?_) (fun c2=>?_)
 .refine hs.aA (by omega) (by omega) fun b6 o7 x gx u=>?_;refine⟨x.a,x.b,x.l,u,?_⟩;refine ht.aA (by omega) (by omega) fun b11 o12 y gy u2=>?_;refine⟨y.a,y.b,y.l,u2,?_⟩;replace gx:A[i]?=some x:=gx;replace gy:B[i]?=some y:=gy;rw[RU];refine aa (fun c3=>RP.f (fun e=>?_) .iK) (fun c3=>?_)
  .subst e;rw[gx] at gy;cases gy;rw[decide_eq_true rfl] at c3;cases c3
  .have Lw:x=y:=by simpa using c3
   subst Lw;refine⟨_,?_,i+1,rfl,by rw[a7 (by omega) (by omega)];omega,rfl,by omega,by rw[ak gx,ak gy,he]⟩;omega
 .refine RP.t ?_ .iK;rw[Yj (l:=A) (by omega),Yj (l:=B) (by omega)] at he;exact he
theorem sT(x y:AN)(h:Heap):Fn Pz 42 #[.agg ⟨x.cs⟩,.agg ⟨y.cs⟩] h (RP (x=y) h):=by
 apply TJ x.r x.s x.p x.l au y.r y.s y.p y.l au;unfold W42;refine (St.refl h).aj fun iT hs=>?_;refine hs.aj fun kh hs=>?_;refine⟨_,hs.rd 1 rfl (i:=0) rfl,_,hs.rd 0 rfl (i:=0) rfl,dw (fun c0=>?_) (fun c0=>RP.f (fun e=>c0 (by rw[e])) hs.ext)⟩;refine⟨_,hs.rd 1 rfl (i:=1) rfl,_,hs.rd 0 rfl (i:=1) rfl,aa (fun c1=>?_) (fun c1=>RP.f (fun e=>by rw[e] at c1;simp at c1) hs.ext)⟩;refine⟨_,hs.rd 1 rfl (i:=2) rfl,_,hs.rd 0 rfl (i:=2) rfl,dw (fun c2=>?_) (fun c2=>RP.f (fun e=>c2 (by rw[e])) hs.ext)⟩;refine⟨_,hs.rd 1 rfl (i:=3) rfl,_,hs.rd 0 rfl (i:=3) rfl,RP.e ?_ hs.ext⟩;have c9:x.s=y.s:=by simpa using c1
 clear c1;rw[beq_iff_eq];obtain⟨a,b,c,d⟩:=x;obtain⟨a',b',c',d'⟩:=y;simp only at c0 c9 c2 ⊢;subst c0 c9 c2;simp
theorem OH(V W:WS)(v w:Wt)(h:Heap)(v1:v.k=V.k)(v2:v.r=V.r)(v3:v.e=V.e)(v4:v.o=V.o)(w1:w.k=W.k)(w2:w.r=W.r)(w3:w.e=W.e)(w4:w.o=W.o)(vf:Rw h 3 v.f (V.F.map Ac.cs))(vs:Rw h 3 v.s (V.S.map Ac.cs))(wf:Rw h 3 w.f (W.F.map Ac.cs))(ws:Rw h 3 w.s (W.S.map Ac.cs))(lf:V.F.length<=16777216)(ls:V.S.length<=16777216):
  Fn Pz 16 #[.agg ⟨v.cs⟩,.agg ⟨w.cs⟩] h (RP (V=W) h):=by
 apply acb v.k v.r v.f v.s v.e.r v.e.s v.e.p v.e.l au v.o.r v.o.s v.o.p v.o.l au w.k w.r w.f w.s w.e.r w.e.s w.e.p w.e.l au w.o.r w.o.s w.o.p w.o.l au;unfold W16;refine (St.refl h).aj fun Qi hs=>?_;refine hs.aj fun HF hs=>?_;refine⟨v.k,hs.rd 1 rfl (i:=0) rfl,w.k,hs.rd 0 rfl (i:=0) rfl,dw (fun c0=>?_) (fun c0=>RP.f (fun e=>c0 (by rw[v1,w1,e])) hs.ext)⟩;refine⟨v.r,hs.rd 1 rfl (i:=1) rfl,w.r,hs.rd 0 rfl (i:=1) rfl,dw (fun c1=>?_) (fun c1=>RP.f (fun e=>c1 (by rw[v2,w2,e])) hs.ext)⟩;refine⟨v.f,hs.rd 1 rfl (i:=2) rfl,w.f,hs.rd 0 rfl (i:=2) rfl,?_⟩;refine (qf V.F W.F v.f w.f HF (vf.ext hs.ext) (wf.ext hs.ext) lf).mono ?_;rintro _ yJ ⟨⟨b1,rfl,oh⟩,E⟩;replace hs:=hs.step E;refine⟨b1,rfl,aa (fun c2=>?_) (fun c2=>RP.f (fun e=>by rw[oh.2 (by rw[e])] at c2;cases c2) hs.ext)⟩;refine⟨v.s,hs.rd 1 rfl (i:=3) rfl,w.s,hs.rd 0 rfl (i:=3) rfl,?_⟩;refine (qf V.S W.S v.s w.s yJ (vs.ext hs.ext) (ws.ext hs.ext) ls).mono ?_;rintro _ xA ⟨⟨b2,rfl,jH⟩,E⟩;replace hs:=hs.step E;refine⟨b2,rfl,aa (fun c3=>?_) (fun c3=>RP.f (fun e=>by rw[jH.2 (by rw[e])] at c3;cases c3) hs.ext)⟩;refine⟨v.e.r,v.e.s,v.e.p,v.e.l,au,hs.at 1 rfl (o:=4) (n:=5) rfl,w.e.r,w.e.s,w.e.p,w.e.l,au,hs.at 0 rfl (o:=4) (n:=5) rfl,?_⟩;refine (sT v.e w.e xA).mono ?_;rintro _ uT ⟨⟨b3,rfl,JZ⟩,E⟩;replace hs:=hs.step E;refine⟨b3,rfl,aa (fun c4=>?_) (fun c4=>RP.f (fun e=>by rw[JZ.2 (by rw[v3,w3,e])] at c4;cases c4) hs.ext)⟩;refine⟨v.o.r,v.o.s,v.o.p,v.o.l,au,hs.at 1 rfl (o:=9) (n:=5) rfl,w.o.r,w.o.s,w.o.p,w.o.l,au,hs.at 0 rfl (o:=9) (n:=5) rfl,?_⟩;refine (sT v.o w.o uT).mono ?_;rintro _ mG ⟨⟨b4,rfl,LQ⟩,E⟩;replace hs:=hs.step E;refine⟨b4,rfl,aa (fun c5=>?_) (fun c5=>RP.f (fun e=>by rw[LQ.2 (by rw[v4,w4,e])] at c5;cases c5) hs.ext)⟩;refine⟨au,hs.rd 1 rfl (i:=8) rfl,au,hs.rd 0 rfl (i:=8) rfl,dw (fun _=>?_) (fun c=>absurd rfl c)⟩;refine⟨au,hs.rd 1 rfl (i:=13) rfl,au,hs.rd 0 rfl (i:=13) rfl,?_⟩;refine RP.t ?_ hs.ext;have f1:=oh.1 c2;have f2:=jH.1 c3;have f3:=JZ.1 c4;have f4:=LQ.1 c5;obtain⟨a,b,c,d,e,f⟩:=V;obtain⟨a',b',c',d',e',f'⟩:=W;simp only at *;simp only[WS.mk.injEq];exact⟨by omega,by omega,f1,f2,by rw[<-v3,f3,w3],by rw[<-v4,f4,w4]⟩
theorem bG.s2{g:Gl}{role:Int}{i:Nat}{W:WS}{n:Int}(h:bG g role i W n):W.k=2->W.S=[]:=by
 have hb:∀ {kind:Int} {W:WS} {n:Int},kind≠2->kq g role kind W n->W.k=2->W.S=[]:=fun {kind W n} hk h h2=>by
  cases h with
  | jL=>rfl
  | hit=>exact absurd h2 hk
 induction h with
 | zero=>exact fun _=>rfl
 | @take i W W' n n' _ hk hl ih=>
  match i with
  | 0=>exact hb (by decide) hk
  | 1=>
   intro _;have hk:tW g role W' n':=hk;cases hk with
   | jL=>rfl
   | hit=>rfl
  | 2=>exact hb (by decide) hk
  | i+3=>exact hb (by decide) hk
 | bW _ _ _ ih=>exact ih
def Si(g:Gl)(role:Int)(W:WS)(e:Int):Prop:=(¬tX g role/\W=oY/\e=1)\/(tX g role/\∃n,bG g role 4 W n/\e=if n=aH then 0 else 18)
theorem Si.uniq{g:Gl}{role:Int}{W W':WS}{e e':Int}(h:Si g role W e)(h':Si g role W' e'):W=W'/\e=e':=by
 rcases h with ⟨h1,rfl,rfl⟩ | ⟨h1,n,hF,rfl⟩
 .rcases h' with ⟨_,rfl,rfl⟩ | ⟨h2,_⟩
  .exact⟨rfl,rfl⟩
  .exact absurd h2 h1
 .rcases h' with ⟨h2,_⟩ | ⟨_,n',LU,rfl⟩
  .exact absurd h1 h2
  .obtain⟨rfl,rfl⟩:=hF.uniq LU;exact⟨rfl,rfl⟩
theorem bG.jL{g:Gl}{role:Int}{i:Nat}{W:WS}(h:bG g role i W aH):W=oY:=by
 rcases h.len with h | h
 .exact h.2
 .have:=h.2.1;unfold aH at this;omega
theorem Si.ln{g:Gl}{role:Int}{W:WS}{e:Int}(h:Si g role W e):W.F.length<=8388608/\W.S.length<=8388608:=by
 have h0:oY.F.length<=8388608/\oY.S.length<=8388608:=⟨by decide,by decide⟩;rcases h with ⟨_,rfl,_⟩ | ⟨_,n,hF,_⟩
 .exact h0
 .rcases hF.len with h | h
  .rw[h.2];exact h0
  .have h1:=h.1;have h2:=h.2.1;unfold WS.len at h1;split at h1
   .rename_i hk;have hS:W.S=[]:=bG.s2 hF hk;rw[hS];exact⟨by omega,by decide⟩
   .exact⟨by omega,by omega⟩
theorem KI(g:Gl)(role:Int)(h:Heap)(hg:GI h g)(hx:Gm h):Fn Pz 19 #[g.v,.int .i64 role] h fun v h'=>∃W e,Si g role W e/\ju h h' W e v:=by
 by_cases hG:tX g role
 .refine (OM g role h hg hx hG.1 hG.2).mono ?_;intro v h' hr;cases hr with
  | ok hF E=>
   have hq:=hF.q hG.1;have:=hq.jL;subst this;exact⟨_,_,.inr ⟨hG,_,hq,rfl⟩,.zero E 0⟩
  | err hF hn hw=>exact⟨_,_,.inr ⟨hG,_,hF.q hG.1,(if_neg hn).symm⟩,hw⟩
 .refine (Dw g role h hg hx hG).mono ?_;rintro _ h' ⟨rfl,E⟩;exact⟨_,_,.inl ⟨hG,rfl,rfl⟩,.zero E 1⟩
theorem KH(g:Gl)(role:Int)(h:Heap)(hg:GI h g)(hM:JE g.ds):Fn Pz 27 #[g.v,.int .i64 role] h fun v h'=>∃W e,Si g role W e/\ju h h' W e v:=by
 refine (OL g role h hg hM).mono ?_;rintro v h' (⟨hG,rfl,E⟩ | ⟨hG,hr⟩)
 .exact⟨_,_,.inl ⟨hG,rfl,rfl⟩,.zero E 1⟩
 .cases hr with
  | ok hF E=>
   have:=hF.jL;subst this;exact⟨_,_,.inr ⟨hG,_,hF,rfl⟩,.zero E 0⟩
  | err hF hn hw=>exact⟨_,_,.inr ⟨hG,_,hF,(if_neg hn).symm⟩,hw⟩
def Tt(g:Gl)(role:Int)(P:List Ms)(e:Int):Prop:=(¬tX g role/\P=[]/\e=1)\/(tX g role/\EX g role P/\e=0)
theorem Tt.uniq{g:Gl}{role:Int}{P P':List Ms}{e e':Int}(h:Tt g role P e)(h':Tt g role P' e'):P=P'/\e=e':=by
 rcases h with ⟨h1,rfl,rfl⟩ | ⟨h1,hp,rfl⟩
 .rcases h' with ⟨_,rfl,rfl⟩ | ⟨h2,_⟩
  .exact⟨rfl,rfl⟩
  .exact absurd h2 h1
 .rcases h' with ⟨h2,_⟩ | ⟨_,oe,rfl⟩
  .exact absurd h1 h2
  .exact⟨hp.uniq oe,rfl⟩
theorem Tr.q{g:Gl}{role:Int}{h h':Heap}{v:Value}(hr:Tr g role h h' v):∃(P:List Ms) (e:Int) (r:Sl) (L:List It),Tt g role P e/\v=.tuple ⟨[.slice r.a r.n r.c,.int .i64 e]⟩/\St h h' (.sl r 52 2 (P.map Ms.cs)::L):=by
 cases hr with
 | bad bK E=>exact⟨[],1,⟨none,0,0⟩,[],.inl ⟨bK,rfl,rfl⟩,rfl,((St.refl h).step E).bH 52 2⟩
 | @ok r P L hV hr hs hP=>exact⟨P,0,r,L,.inr ⟨⟨hV,hr⟩,hP,rfl⟩,rfl,hs⟩
theorem Tt.ln{g:Gl}{role:Int}{P:List Ms}{e:Int}(h:Tt g role P e):P.length<=40000:=by
 rcases h with ⟨_,rfl,_⟩ | ⟨_,hp,_⟩
 .exact Nat.zero_le _
 .exact hp.ln
theorem uj(g:Gl)(role:Int)(h:Heap)(hg:GI h g)(hx:Gm h)(hM:JE g.ds):Fn Pz 7 #[g.v,.int .i64 role] h fun v h'=>v=.bool true/\Ext h h':=by
 apply vc7 (bs g.nm) g.hr g.hd g.n g.s g.e g.he g.ht role;unfold W7;refine (St.refl h).aj fun h9 hs=>?_;refine (MD h9 (hx.ext hs.ext)).mono ?_;rintro _ kh ⟨rfl,E⟩;have hs:=hs.step E;refine⟨true,rfl,gZ rfl ?_⟩;refine⟨_,_,_,_,_,_,_,_,hs.at 0 rfl (o:=0) (n:=8) rfl,?_⟩;refine (XR g kh (hg.ext hs.ext)).mono ?_;rintro _ uW ⟨rfl,E⟩;have hs:=hs.step E;refine⟨_,rfl,aa (fun _=>⟨rfl,hs.ext⟩) (fun _=>?_)⟩;refine⟨_,_,_,_,_,_,_,_,hs.at 0 rfl (o:=0) (n:=8) rfl,?_⟩;refine (KI g role uW (hg.ext hs.ext) (hx.ext hs.ext)).mono ?_;rintro _ En ⟨W,e,hQ,w,a1,a2,a3,a4,rfl,JC,dx⟩;refine⟨w.k,w.r,w.f,w.s,w.e.r,w.e.s,w.e.p,w.e.l,au,w.o.r,w.o.s,w.o.p,w.o.l,au,e,rfl,?_⟩;have hs:=hs.join dx;refine hs.ao (vs:=w.cs) rfl rfl fun oo hs=>?_;refine⟨_,_,_,_,_,_,_,_,hs.at 1 rfl (o:=0) (n:=8) rfl,?_⟩;refine (KH g role oo (hg.ext hs.ext) hM).mono ?_;rintro _ im ⟨W',e',hQ',w',b1,b2,b3,b4,rfl,pT,bD⟩;obtain⟨rfl,rfl⟩:=hQ.uniq hQ';refine⟨w'.k,w'.r,w'.f,w'.s,w'.e.r,w'.e.s,w'.e.p,w'.e.l,au,w'.o.r,w'.o.s,w'.o.p,w'.o.l,au,e,rfl,?_⟩;have hs:=hs.join bD;refine hs.ao (vs:=w'.cs) rfl rfl fun Tb hs=>?_;have hs:St h Tb (.ae im.size w'.cs 39 :: .ae En.size w.cs 35 :: .ae h.size g.cs 27 :: .sl w.f 65 3 (W.F.map Ac.cs) :: .sl w.s 65 3 (W.S.map Ac.cs)::(JC++(.sl w'.f 65 3 (W.F.map Ac.cs) :: .sl w'.s 65 3 (W.S.map Ac.cs)::pT))):=hs;refine⟨_,_,_,_,_,_,_,_,hs.at 2 rfl (o:=0) (n:=8) rfl,?_⟩;refine (KQ g role Tb (hg.ext hs.ext) (hx.ext hs.ext)).mono ?_;intro v Ca hr;obtain⟨P,ep,r,L3,hPq,rfl,fN⟩:=hr.q;refine⟨r,ep,rfl,?_⟩;have hs:=hs.join fN;refine⟨_,_,_,_,_,_,_,_,hs.at 2 rfl (o:=0) (n:=8) rfl,?_⟩;refine (KP g role Ca (hg.ext hs.ext) hM).mono ?_;intro v XG od;obtain⟨P',ep',r',L4,adz,rfl,ik⟩:=od.q;obtain⟨rfl,rfl⟩:=hPq.uniq adz;refine⟨r',ep,rfl,?_⟩;have hs:=hs.join ik;refine eY (fun c=>absurd rfl c) (fun _=>eY (fun c=>absurd rfl c) (fun _=>?_));refine⟨w.k,w.r,w.f,w.s,w.e.r,w.e.s,w.e.p,w.e.l,au,w.o.r,w.o.s,w.o.p,w.o.l,au,hs.at 1 rfl (o:=0) (n:=14) rfl,w'.k,w'.r,w'.f,w'.s,w'.e.r,w'.e.s,w'.e.p,w'.e.l,au,w'.o.r,w'.o.s,w'.o.p,w'.o.l,au,hs.at 0 rfl (o:=0) (n:=14) rfl,?_⟩;have sx:=hQ.ln;have WJ:∀ {x:It},x∈(.sl w'.f 65 3 (W.F.map Ac.cs) :: .sl w'.s 65 3 (W.S.map Ac.cs)::pT)->x∈([.ae im.size w'.cs 39,.ae En.size w.cs 35,.ae h.size g.cs 27,.sl w.f 65 3 (W.F.map Ac.cs),.sl w.s 65 3 (W.S.map Ac.cs)]++(JC++(.sl w'.f 65 3 (W.F.map Ac.cs) :: .sl w'.s 65 3 (W.S.map Ac.cs)::pT))++(.sl r 52 2 (P.map Ms.cs)::L3))++(.sl r' 52 2 (P.map Ms.cs)::L4):=fun hx=>List.mem_append_left _ (List.mem_append_left _ (List.mem_append_right _ (List.mem_append_right _ hx)));refine (OH W W w w' XG a1 a2 a3 a4 b1 b2 b3 b4 (hs.rows 3 rfl (by decide)) (hs.rows 4 rfl (by decide)) (hs.mD (e:=65) (WJ Yx) (by decide)) (hs.mD (e:=65) (WJ (Yn _ Yx)) (by decide)) (by omega) (by omega)).mono ?_;rintro _ Qq ⟨⟨b,rfl,hb⟩,E⟩;have hs:=hs.step E;refine⟨b,rfl,gZ (by rw[hb.2 rfl];rfl) ?_⟩;have Hl:Rw Qq 2 r (P.map Ms.cs):=hs.mD (e:=52) (List.mem_append_left _ (List.mem_append_right _ Yx)) (by decide);have od:Rw Qq 2 r' (P.map Ms.cs):=hs.mD (e:=52) (List.mem_append_right _ Yx) (by decide);have BT:=Hl.ln;have BR:=od.ln;have de:=hPq.ln;refine eY (fun c=>absurd (by omega) c) (fun _=>?_);have afi:=hs.ext;refine aJ (n:=r.n) (St.refl Qq) (fun _=>True) trivial ?_;rintro-i Mb hi ⟨kY,-⟩;refine aM (fun c=>?_) (fun c=>⟨rfl,afi.trans kY.ext⟩);obtain⟨p,gp⟩:=get_some (l:=P) (i:=i) (by omega);refine (Hl.ext kY.ext).aA (by omega) (by omega) fun aip ago d gd u=>?_;replace gd:P[i]?=some d:=gd;rw[gp] at gd;cases gd;refine⟨p.p,p.l,u,?_⟩;refine (od.ext kY.ext).aA (by omega) (by omega) fun aio agn d gd u2=>?_;replace gd:P[i]?=some d:=gd;rw[gp] at gd;cases gd;refine⟨p.p,p.l,u2,gZ (by simp) ?_⟩;exact Up.next (by omega) (by omega) ⟨kY,trivial⟩
end Go.VC
end

section
namespace Go.VC
open Go.Proofs Go.LexS Go.RowKit Go.ChangeShapes Go.WideShapes Go.Proofs.YtajglkbckhgboaaGreatDoor
theorem H8{H:Type}(d:DataW H):1<=Rows.uptoBulk d:=by
 cases d with
 | lit l=>cases l<;>simp[Rows.uptoBulk]
 | _=>simp[Rows.uptoBulk]
theorem gR{H:Type}:∀ {l:List (DataW H)} {d:DataW H},d∈l->Rows.uptoBulk d<=Rows.uptoBulkAll l
 | [],_,h=>by cases h
 | x::r,d,h=>by
  rw[Rows.uptoBulkAll];rcases Yr.1 h with rfl | h
  .omega
  .have:=gR h;omega
theorem xW{H:Type}:∀l:List (DataW H),l.length<=Rows.uptoBulkAll l
 | []=>by simp
 | x::r=>by
  have h1:=H8 x;have h2:=xW r;rw[Rows.uptoBulkAll,j5];omega
def jT(P:Program)(W:World)(t:TypeId)(cs:List Value):Prop:=
 ∃(H:Type) (enc:TypeId × Value->H) (n:Nat) (x:DataW H × List MemPlace),DataW.trod enc P W 0 (fun _=>true) true n t cs=some x/\Rows.uptoBulk x.1<=1048576
theorem jT.uk{P:Program}{W:World}{t:TypeId}{cs:List Value}(h:jT P W t cs):vt P W t cs:=by
 obtain⟨H,enc,n,x,h1,_⟩:=h;exact⟨H,enc,n,x,h1⟩
theorem nY{H:Type}{enc:TypeId × Value->H}{P:Program}{W:World}{t:TypeId}{v:Value}{d:DataW H}{p:List MemPlace}(h:DataW.Trod enc P W 0 (fun _=>true) true t v d p)(hw:Rows.uptoBulk d<=1048576):jT P W t v.cells.toList:=by
 obtain⟨n,h⟩:=h;exact⟨H,enc,n,_,h,hw⟩
theorem jT.field{P:Program}{W:World}{t ft:TypeId}{cs:List Value}{i off:Nat}(h:jT P W t cs)(hf:fieldAt P t i=some (ft,off)):jT P W ft ((cs.drop off).take (P.cellsOf ft)):=by
 unfold fieldAt at hf;split at hf
 .rename_i fs hu;obtain⟨f,h1,h2⟩:=sL.1 hf;cases h2;obtain⟨H,enc,n,x,h,hw⟩:=h;obtain⟨xs,m,_,hx,hl,BN,cn⟩:=DataW.trod_struct hu h;have bU:i<xs.length:=by rw[BN];exact (yM.1 h1).1
  refine⟨H,enc,m,xs[i],by rw[cn i f h1,Yi bU],?_⟩;rw[hx,Rows.uptoBulk] at hw;have:=gR (l:=xs.map (·.1)) (d:=xs[i].1) (Yp.2 ⟨xs[i],List.getElem_mem bU,rfl⟩);omega
 .cases hf
theorem jT.rows{P:Program}{W:World}{t e:TypeId}{cs:List Value}(ht:P.underlying t=some (.slice e))(h:jT P W t cs)(eJ:0<P.cellsOf e):
  ∃(s:Sl) (rows:List (List Value)),cs=[.slice s.a s.n s.c]/\s.n<=s.c/\s.n<=1048576/\(s.a=none->s.n=0/\s.c=0)/\Rw W.heap (P.cellsOf e) s rows/\∀r∈rows,r.length=P.cellsOf e/\jT P W e r:=by
 obtain⟨H,enc,n,x,h,hw⟩:=h;rcases DataW.trod_slice ht h with ⟨rfl,_⟩ | ⟨a,len,cap,elems,rest,m,_,rfl,hx,_,WL,B5,WY,WW,_,_⟩
 .exact⟨⟨none,0,0⟩,[],rfl,bc _,Nat.zero_le _,fun _=>⟨rfl,rfl⟩,Rw.nil,fun r hr=>by cases hr⟩
 .rw[hx,Rows.uptoBulk] at hw;have hle:len<=1048576:=by
   have:=xW (elems.map (·.1));rw[Yc] at this;omega
  have hwe:∀(i:Nat) (hi:i<elems.length),Rows.uptoBulk elems[i].1<=1048576:=fun i hi=>by
   have:=gR (l:=elems.map (·.1)) (d:=elems[i].1) (Yp.2 ⟨elems[i],List.getElem_mem hi,rfl⟩);omega
  by_cases h0:len=0
  .subst h0;exact⟨⟨some a,0,cap⟩,[],rfl,WL,hle,fun e=>(by cases e),Rw.empty rfl,fun r hr=>by cases hr⟩
  .have eU:∀i,i<len->∃r,W.cells? 0 (a.add (i*P.cellsOf e)) (P.cellsOf e)=some r/\jT P W e r:=by
    intro i hi;have h1:=WW i hi;rw[Yi (by omega)] at h1;obtain⟨r,hr,zI⟩:=Option.bind_eq_some_iff.1 h1;exact⟨r,hr,H,enc,m,_,zI,hwe i (by omega)⟩
   let row:Nat->List Value:=fun i=>(W.cells? 0 (a.add (i*P.cellsOf e)) (P.cellsOf e)).getD []
   have Hh:∀i,i<len->W.cells? 0 (a.add (i*P.cellsOf e)) (P.cellsOf e)=some (row i)/\jT P W e (row i):=fun i hi=>by
    obtain⟨r,hr,hx⟩:=eU i hi;have:row i=r:=by show (W.cells? 0 _ _).getD []=r;rw[hr];rfl
    rw[this];exact⟨hr,hx⟩
   have jY:∀i,i<len->((List.range len).map row)[i]?=some (row i):=fun i hi=>by
    rw[Yd,yi hi];rfl
   have NG:a=⟨a.block,a.off,none⟩:=by
    have hc:=(rD (Hh 0 (by omega)).1);have rR:0<(row 0).length:=by rw[hc.1];exact eJ
    have:=hc.2 0 _ (Yi rR);rw[Nat.zero_mul,show (a.add 0).add 0=a from rfl] at this;unfold World.cell? at this;split at this
    .split at this
     .cases this
     .rename_i hs;cases a with
      | mk b o s=>
       cases s with
       | none=>rfl
       | some s=>exact absurd rfl hs
    .cases this
   refine⟨⟨some a,len,cap⟩,(List.range len).map row,rfl,WL,hle,fun e=>(by cases e),⟨by simp,fun _=>⟨a.block,a.off,by rw[<-NG],fun i r hi j v hj=>?_⟩⟩,fun r hr=>?_⟩
   .have oU:i<len:=by have:=(Ya.1 hi).1;simpa using this
    rw[jY i oU] at hi;cases hi;have h4:=(rD (Hh i oU).1).2 _ _ hj;rw[NG] at h4;have e:((⟨a.block,a.off,none⟩:Addr).add (i*P.cellsOf e)).add j=fK ⟨a.block,a.off+i*P.cellsOf e,none⟩ j:=by
     rw[fk,Cu,Cu]
    rw[e] at h4;exact h4
   .obtain⟨i,hi,rfl⟩:=Yp.1 hr;have:=Hh i (List.mem_range.1 hi);exact⟨(rD this.1).1,this.2⟩
theorem jT.list{α:Type}{P:Program}{W:World}{t e:TypeId}{k:Nat}{v:Value}{cs:α->List Value}{Q:α->Prop}(ht:P.underlying t=some (.slice e))(hk:P.cellsOf e=k)(eJ:0<k)
  (ho:∀r,jT P W e r->∃x,r=cs x/\Q x) (h:jT P W t [v]):∃(s:Sl) (L:List α),v=.slice s.a s.n s.c/\RL W.heap k s cs L/\∀x∈L,Q x:=by
 subst hk;obtain⟨s,rows,e1,hc,hm,Fk,jW,hr⟩:=h.rows ht eJ;have key:∀rows:List (List Value),(∀r∈rows,r.length=P.cellsOf e/\jT P W e r)->∃L:List α,rows=L.map cs/\∀x∈L,Q x:=by
  intro rows
  induction rows with
  | nil=>intro _;exact⟨[],rfl,fun x hx=>by cases hx⟩
  | cons r rows ih=>
   intro h;obtain⟨x,hx,hq⟩:=ho r (h r (by simp)).2;obtain⟨L,hL,hQ⟩:=ih fun y hy=>h y (Yn _ hy);exact⟨x::L,by rw[hx,hL];rfl,fun y hy=>by rcases Yr.1 hy with rfl | hy;exact hq;exact hQ y hy⟩
 obtain⟨L,rfl,hQ⟩:=key rows hr;have hn:=jW.ln;exact⟨s,L,by simpa using e1,⟨jW,hc,Fk,by omega⟩,hQ⟩
theorem v3:Pz.underlying 3=some (.int .i64):=by kernel_rfl
theorem v4b:Pz.underlying 4=some .bool:=by kernel_rfl
theorem v9:Pz.underlying 9=some .string:=by kernel_rfl
theorem Tm:Pz.cellsOf 3=1:=by kernel_rfl
theorem cz4:Pz.cellsOf 4=1:=by kernel_rfl
theorem cz9:Pz.cellsOf 9=1:=by kernel_rfl
theorem aeW:Pz.cellsOf 22=1:=by kernel_rfl
theorem aeV:Pz.cellsOf 23=1:=by kernel_rfl
theorem aeU:Pz.cellsOf 24=1:=by kernel_rfl
theorem aeT:Pz.cellsOf 25=1:=by kernel_rfl
theorem aeS:Pz.cellsOf 27=8:=by kernel_rfl
theorem YK:Pz.cellsOf 65=3:=by kernel_rfl
theorem YJ:Pz.cellsOf 67=6:=by kernel_rfl
theorem YI:Pz.cellsOf 149=3:=by kernel_rfl
theorem YP:Pz.cellsOf 166=1:=by kernel_rfl
theorem YO:Pz.cellsOf 167=1:=by kernel_rfl
theorem YN:Pz.cellsOf 49=1:=by kernel_rfl
theorem YM:Pz.cellsOf 169=2:=by kernel_rfl
theorem Ob:Pz.cellsOf 171=5:=by kernel_rfl
theorem YL:Pz.cellsOf 258=3:=by kernel_rfl
theorem Oa:Pz.cellsOf 260=4:=by kernel_rfl
theorem N9:Pz.cellsOf 263=3:=by kernel_rfl
theorem N8:Pz.cellsOf 52=2:=by kernel_rfl
theorem abd:Pz.underlying 22=some (.slice 9):=by kernel_rfl
theorem abc:Pz.underlying 23=some (.slice 171):=by kernel_rfl
theorem abb:Pz.underlying 24=some (.slice 67):=by kernel_rfl
theorem aba:Pz.underlying 25=some (.slice 149):=by kernel_rfl
theorem TF:Pz.underlying 166=some (.slice 260):=by kernel_rfl
theorem TE:Pz.underlying 167=some (.slice 263):=by kernel_rfl
theorem TD:Pz.underlying 49=some (.slice 52):=by kernel_rfl
theorem Vz:Pz.underlying 52=some (.array 2 3):=by kernel_rfl
theorem jT.str{P:Program}{W:World}{t:TypeId}{cs:List Value}(ht:P.underlying t=some .string)(h:jT P W t cs):∃s:ByteArray,cs=[.string s]/\s.size<=1048576:=by
 obtain⟨H,enc,n,x,h,hw⟩:=h;obtain⟨m,h1,hx,_⟩:=DataW.trod_string ht h;refine⟨m,h1,?_⟩;rw[hx,Rows.uptoBulk] at hw;have e:m.data.toList.length=m.size:=rfl;omega
theorem DD{W:World}{r:List Value}(h:jT Pz W 9 r):∃x:Nm,r=DU x/\True:=by
 obtain⟨s,e,_⟩:=h.uk.str v9;exact⟨s.data.toList,by rw[e];rfl,trivial⟩
theorem yZ{W:World}{r:List Value}(h:jT Pz W 260 r):∃x:oG,r=x.cs/\True:=by
 have hl:=h.uk.HO (i:=0) (ft:=9) (off:=0) (by kernel_rfl);rw[Oa] at hl
 match r,hl with
 | [x0,x1,x2,x3],_=>
  have f0:=h.uk.field (i:=0) (ft:=9) (off:=0) (by kernel_rfl);have f1:=h.uk.field (i:=1) (ft:=258) (off:=1) (by kernel_rfl);rw[cz9] at f0;rw[YL] at f1;have g0:=f1.field (i:=0) (ft:=3) (off:=0) (by kernel_rfl);have g1:=f1.field (i:=1) (ft:=3) (off:=1) (by kernel_rfl);have g2:=f1.field (i:=2) (ft:=3) (off:=2) (by kernel_rfl);rw[Tm] at g0 g1 g2;obtain⟨s,e0,_⟩:=f0.str v9;obtain⟨k1,e1,_⟩:=g0.int v3;obtain⟨k2,e2,_⟩:=g1.int v3;obtain⟨k3,e3,_⟩:=g2.int v3;simp only[List.drop_zero,List.take_succ_cons,my,List.drop_succ_cons,List.cons.injEq,and_true] at e0 e1 e2 e3;subst e0 e1 e2 e3;exact⟨⟨s.data.toList,k1,k2,k3⟩,rfl,trivial⟩
theorem kE{W:World}{t:TypeId}{r:List Value}(hc:Pz.cellsOf t=3)(h0:fieldAt Pz t 0=some (3,0))(h1:fieldAt Pz t 1=some (3,1))(h2:fieldAt Pz t 2=some (3,2))(h:vt Pz W t r):
  ∃a b c:Int,r=[.int .i64 a,.int .i64 b,.int .i64 c]:=by
 have hl:=h.HO h0;rw[hc] at hl
 match r,hl with
 | [x0,x1,x2],_=>
  have f0:=h.field h0;have f1:=h.field h1;have f2:=h.field h2;rw[Tm] at f0 f1 f2;obtain⟨k0,e0,_⟩:=f0.int v3;obtain⟨k1,e1,_⟩:=f1.int v3;obtain⟨k2,e2,_⟩:=f2.int v3;simp only[List.drop_zero,List.take_succ_cons,my,List.drop_succ_cons,List.cons.injEq,and_true] at e0 e1 e2;subst e0 e1 e2;exact⟨k0,k1,k2,rfl⟩
theorem DF{W:World}{r:List Value}(h:jT Pz W 263 r):∃x:Df,r=x.cs/\True:=by
 obtain⟨a,b,c,e⟩:=kE N9 (by kernel_rfl) (by kernel_rfl) (by kernel_rfl) h.uk;exact⟨⟨a,b,c⟩,e,trivial⟩
theorem uw{W:World}{r:List Value}(h:jT Pz W 149 r):∃x:To,r=x.cs/\True:=by
 obtain⟨a,b,c,e⟩:=kE YI (by kernel_rfl) (by kernel_rfl) (by kernel_rfl) h.uk;exact⟨⟨a,b,c⟩,e,trivial⟩
theorem open_pair{W:World}{r:List Value}(h:jT Pz W 52 r):∃x:JH,r=x.cs/\True:=by
 obtain⟨hl,ha⟩:=h.uk.array Vz;rw[N8] at hl;rw[Tm] at ha
 match r,hl with
 | [x0,x1],_=>
  obtain⟨k0,e0,_⟩:=(ha 0 (by omega)).int v3;obtain⟨k1,e1,_⟩:=(ha 1 (by omega)).int v3;simp only[Nat.zero_mul,Nat.one_mul,List.drop_zero,List.take_succ_cons,my,List.drop_succ_cons,List.cons.injEq,and_true] at e0 e1;subst e0 e1;exact⟨⟨k0,k1⟩,rfl,trivial⟩
theorem DE{W:World}{r:List Value}(h:jT Pz W 67 r):∃x:Ed,r=x.cs/\True:=by
 have hl:=h.uk.HO (i:=0) (ft:=3) (off:=0) (by kernel_rfl);rw[YJ] at hl
 match r,hl with
 | [x0,x1,x2,x3,x4,x5],_=>
  have f0:=h.uk.field (i:=0) (ft:=3) (off:=0) (by kernel_rfl);have f1:=h.uk.field (i:=1) (ft:=65) (off:=1) (by kernel_rfl);have f2:=h.uk.field (i:=2) (ft:=3) (off:=4) (by kernel_rfl);have f3:=h.uk.field (i:=3) (ft:=4) (off:=5) (by kernel_rfl);rw[Tm] at f0 f2;rw[YK] at f1;rw[cz4] at f3;obtain⟨a,b,c,e1⟩:=kE YK (by kernel_rfl) (by kernel_rfl) (by kernel_rfl) f1;obtain⟨k0,e0,_⟩:=f0.int v3;obtain⟨k2,e2,_⟩:=f2.int v3;obtain⟨k3,e3⟩:=f3.bool v4b;simp only[List.drop_zero,List.take_succ_cons,my,List.drop_succ_cons,List.cons.injEq,and_true] at e0 e1 e2 e3;obtain⟨e1a,e1b,e1c⟩:=e1;subst e0 e1a e1b e1c e2 e3;exact⟨⟨k0,a,b,c,k2,k3⟩,rfl,trivial⟩
theorem DG{W:World}{r:List Value}(h:jT Pz W 171 r):∃x:Dc,r=x.cs/\DI W.heap x/\x.nm.length<=1048576:=by
 have hl:=h.uk.HO (i:=0) (ft:=9) (off:=0) (by kernel_rfl);rw[Ob] at hl
 match r,hl with
 | [x0,x1,x2,x3,x4],_=>
  have f0:=h.field (i:=0) (ft:=9) (off:=0) (by kernel_rfl);have f1:=h.field (i:=1) (ft:=166) (off:=1) (by kernel_rfl);have f2:=h.uk.field (i:=2) (ft:=3) (off:=2) (by kernel_rfl);have f3:=h.field (i:=3) (ft:=169) (off:=3) (by kernel_rfl);rw[cz9] at f0;rw[YP] at f1;rw[Tm] at f2;rw[YM] at f3;have g0:=f3.field (i:=0) (ft:=167) (off:=0) (by kernel_rfl);have g1:=f3.field (i:=1) (ft:=49) (off:=1) (by kernel_rfl);rw[YO] at g0;rw[YN] at g1;obtain⟨s,e0,qR⟩:=f0.str v9;obtain⟨sf,fs,e1,hf,_⟩:=jT.list TF Oa (by omega) (fun r hr=>yZ hr) f1;obtain⟨k,e2,_⟩:=f2.int v3;obtain⟨sd,ds,e3,hd,_⟩:=jT.list TE N9 (by omega) (fun r hr=>DF hr) g0;obtain⟨se,es,e4,he,_⟩:=jT.list TD N8 (by omega) (fun r hr=>open_pair hr) g1;simp only[List.drop_zero,List.take_succ_cons,my,List.drop_succ_cons,List.cons.injEq,and_true] at e0 e2;subst e0 e1 e2 e3 e4;exact⟨⟨s.data.toList,sf,k,sd,se,fs,ds,es⟩,rfl,⟨hf,hd,he⟩,qR⟩
theorem wK{W:World}{cs:List Value}(h:jT Pz W 27 cs):∃g:Gl,cs=g.cs/\GI W.heap g/\∀d∈g.ds,d.nm.length<=1048576:=by
 have hl:=h.uk.HO (i:=0) (ft:=9) (off:=0) (by kernel_rfl);rw[aeS] at hl
 match cs,hl with
 | [x0,x1,x2,x3,x4,x5,x6,x7],_=>
  have f0:=h.uk.field (i:=0) (ft:=9) (off:=0) (by kernel_rfl);have f1:=h.field (i:=1) (ft:=22) (off:=1) (by kernel_rfl);have f2:=h.field (i:=2) (ft:=23) (off:=2) (by kernel_rfl);have f3:=h.uk.field (i:=3) (ft:=3) (off:=3) (by kernel_rfl);have f4:=h.uk.field (i:=4) (ft:=3) (off:=4) (by kernel_rfl);have f5:=h.uk.field (i:=5) (ft:=3) (off:=5) (by kernel_rfl);have f6:=h.field (i:=6) (ft:=24) (off:=6) (by kernel_rfl);have f7:=h.field (i:=7) (ft:=25) (off:=7) (by kernel_rfl);rw[cz9] at f0;rw[aeW] at f1;rw[aeV] at f2;rw[Tm] at f3 f4 f5;rw[aeU] at f6;rw[aeT] at f7;obtain⟨s,e0,_⟩:=f0.str v9;obtain⟨sr,rs,e1,hr,_⟩:=jT.list abd cz9 (by omega) (fun r hr=>DD hr) f1;obtain⟨sd,ds,e2,hd,B3⟩:=jT.list abc Ob (by omega) (fun r hr=>DG hr) f2;obtain⟨k3,e3,_⟩:=f3.int v3;obtain⟨k4,e4,_⟩:=f4.int v3;obtain⟨k5,e5,_⟩:=f5.int v3;obtain⟨se,es,e6,he,_⟩:=jT.list abb YJ (by omega) (fun r hr=>DE hr) f6;obtain⟨st,ts,e7,ht,_⟩:=jT.list aba YI (by omega) (fun r hr=>uw hr) f7;simp only[List.drop_zero,List.take_succ_cons,my,List.drop_succ_cons,List.cons.injEq,and_true] at e0 e3 e4 e5;subst e0 e1 e2 e3 e4 e5 e6 e7;exact⟨⟨s.data.toList,sr,sd,k3,k4,k5,se,st,rs,ds,es,ts⟩,rfl,⟨hr,⟨hd,fun d hm=>(B3 d hm).1⟩,he,ht⟩,fun d hm=>(B3 d hm).2⟩
end Go.VC
end
