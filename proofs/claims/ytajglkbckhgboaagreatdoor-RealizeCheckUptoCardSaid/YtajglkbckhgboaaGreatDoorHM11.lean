/- SyCh SyCi SyIa SyIs SyI SyCj SyD SyE SyF SyG SyCk SyCl SxArgs. -/
import Derived.Test.YtajglkbckhgboaaGreatDoorHM10
import Derived.Test.YtajglkbckhgboaaGreatDoorRows
set_option linter.all false
set_option maxRecDepth 100000
set_option maxHeartbeats 8000000

section
namespace Go.VC
open Go.Proofs Go.LexS
theorem wH(role:Int)(x:Ev)(l:List Ev):yt role (x::l)=if x.send=true then yt role l else aI role x:=by
 unfold yt;rw[List.find?_cons];cases h:x.send with
 | true=>simp
 | false=>simp
theorem LS{h rO kj:Heap}{fb gb:Nat}{g:Gl}{role:Int}{ev en l seen q:Sl}{V:List (Sl × Vq)}{x:Sl × Vq}{i:Nat}{E:List Ev}{e0:Ev}{K:Value->Heap->Prop}
  (hs:St h rO (yr kj.size fb gb g ev en l seen V [])) (hx:V[i]?=some x) (hV:V.length<=1000) (hE:Rw h 5 q (E.map (aC role))) (hEl:E.length<=1000) (h0:E[0]?=some e0)
  (hK:∀w h',RA h h' ⟨2,role,cG g.es x.2.2,[],aI role e0,yt role E⟩ true (.tuple ⟨[.agg ⟨Wt.cs w⟩,.bool true]⟩)->K (.tuple ⟨[.agg ⟨Wt.cs w⟩,.bool true]⟩) h') :
  IE l (i:Nat) rO q role kj K:=by
 unfold IE;have n4:=(Ya.1 hx).1;have sv:=(hs.len 0 (s:=l) (e:=221) (n:=2) rfl (by decide)).1;rw[Yc] at sv;have nt:=hE.ln;have h0l:=(Ya.1 h0).1;refine (hs.rows 0 (s:=l) (cs:=C8) (l:=V) rfl (by decide)).aD (by omega) (by omega) fun b39 o40 d gd u=>?_;replace gd:V[i]?=some d:=gd;rw[hx] at gd;cases gd;refine⟨x.1,u.nth 1 rfl,?_⟩;refine (hE.ext hs.ext).aD (by omega) (by omega) fun b42 o43 d gd u2=>?_;replace gd:E[0]?=some d:=gd;rw[h0] at gd;cases gd;refine⟨_,_,_,_,⟨none,0,0⟩,u2,fun SS e49=>⟨(show Ext rO SS by rw[e49];exact Ext.push _ _).sm,?_⟩⟩;have hs:=hs.dh e49;refine hs.put 0 rfl (o:=0) (vs:=Wt.cs ⟨2,role,x.1,aq,aI role e0,yt role []⟩) rfl (bc 14) fun oc hs=>?_;refine⟨fun y h' μ=>∃r:Nat,y=(r:Int)-1/\r=μ/\r<=E.length/\St h h' (.ae rO.size (Wt.cs ⟨2,role,x.1,aq,aI role e0,yt role (E.drop r)⟩) 39::yr kj.size fb gb g ev en l seen V []),⟨_,E.length,by rw[a7 (by omega) (by omega)];omega,rfl,bc _,by rw[List.drop_length];exact hs⟩,?_⟩;clear hs u u2;rintro-_ h55 μ ⟨r,rfl,rfl,hr,hs⟩;refine aM (fun c=>?_) (fun c=>?_)
 .obtain⟨k,rfl⟩:∃k,r=k+1:=⟨r-1,by omega⟩;rw[show ((k+1:Nat):Int)-1=(k:Int) by omega];obtain⟨y,gy⟩:=get_some (l:=E) (i:=k) (by omega);have hdr:E.drop k=y::E.drop (k+1):=by
   rw[List.drop_eq_getElem_cons (by omega),(Ya.1 gy).2]
  have rd:∀ {h':Heap} {K':Nat->Nat->Prop},Ext h h'->(∀b o,a6 h' ⟨b,o+Int.toNat (k:Int)*5,none⟩ (aC role y)->K' b o)->NB q.a fun b o=>(0<=(k:Int)/\(k:Int)<(q.n:Nat))/\K' b o:=fun {h' K'} X hK'=>by
   refine (hE.ext X).aD (by omega) (by omega) fun b o d gd t=>?_;replace gd:E[k]?=some d:=gd;rw[gy] at gd;cases gd;exact hK' b o t
  refine rd hs.ext fun b56 o57 u=>⟨_,u.nth 1 rfl,aa (fun c2=>?_) (fun c2=>?_)⟩
  .have Sz:¬y.send=true:=by intro h9;rw[h9] at c2;cases c2
   refine rd hs.ext fun b59 o60 u2=>⟨_,_,_,_,⟨none,0,0⟩,u2,?_⟩;refine hs.put 0 rfl (o:=9) (vs:=aC role y) rfl (show 9+5<=14 by decide) fun xr hs=>?_;refine⟨_,(show k<k+1 by omega),k,by rw[a7 (by omega) (by omega)],rfl,by omega,?_⟩;rw[hdr,wH,if_neg Sz];exact hs
  .have oL:y.send=true:=by cases h9:y.send with
    | true=>rfl
    | false=>rw[h9] at c2;cases c2
   refine⟨_,(show k<k+1 by omega),k,by rw[a7 (by omega) (by omega)],rfl,by omega,?_⟩;rw[hdr,wH,if_pos oL];exact hs
 .have Pg:r=0:=by omega
  subst Pg;rw[List.drop_zero] at hs;refine yF hs 0 3 (w:=⟨2,role,x.1,aq,aI role e0,yt role E⟩) (w0:=cx) rfl rfl fun WZ hs=>?_;refine oS (w:=⟨2,role,x.1,aq,aI role e0,yt role E⟩) (Q:=fun cs=>K (.tuple ⟨[.agg ⟨cs⟩,.bool true]⟩) WZ) (hs.at 3 rfl (o:=0) (n:=14) rfl) ?_;refine hK _ WZ ⟨_,rfl,rfl,rfl,rfl,rfl,?_⟩;have hm:AH g x∈V.map (AH g)++([]:List It):=List.mem_append_left _ (Yp.2 ⟨x,Yb hx,rfl⟩);obtain⟨L',bL⟩:=hs.pick (x:=AH g x) (List.mem_append_right [_,_,_,_,_,_] hm);exact⟨L',(bL.bJ 65 3).perm (List.Perm.swap _ _ _)⟩
theorem Fw{α:Type}{n s l r1 r2 r3:α}:([n,s,l,r1,r2,r3]:List α).Perm [l,s,r1,r2,r3,n]:=
 (List.perm_append_comm (l₁:=[n]) (l₂:=[s,l,r1,r2,r3])).trans (List.Perm.swap _ _ _)
theorem KW(g:Gl)(role:Int)(ev en ar:Sl)(E:List (Sl × List Ev))(B:List Bool)(MS:List (Sl × List gD))(h:Heap)(hg:GI h g)(hV:af g)(hM:VfM h g role ev en ar E B MS)(hP:RB g role E B MS):
  Fn Pz 61 #[g.v,.int .i64 role,.agg ⟨[.slice ev.a ev.n ev.c,.slice en.a en.n en.c]⟩] h fun v h'=>∃W n,tU g role W n/\RA h h' W (decide (n<ax)) v:=by
 apply abe (bs g.nm) g.hr g.hd g.n g.s g.e g.he g.ht role ev en;unfold W61;have hN:=hV.num.n;refine (St.refl h).ak fun iQ hs=>?_;refine hs.ak fun kj hs=>?_;refine hs.ak fun Fl hs=>?_;refine⟨g.s,hs.rd 2 rfl (i:=4) rfl,?_⟩;refine hs.ak fun rP hs=>?_;refine⟨g.s,hs.rd 3 rfl (i:=4) rfl,?_⟩;refine hs.ak fun iL hs=>?_;have hs:=hs.kq 0 rfl 1 1 [aO g.s] rfl (fun r hr=>by rw[Ye.1 hr];rfl) rfl (by decide);have hs:=hs.kq 1 rfl 1 2 [[.int .i64 g.s,.slice none 0 0]] rfl (fun r hr=>by rw[Ye.1 hr];rfl) rfl (by decide);have hs:=hs.bJ 65 3;have hs:St h iL (yr kj.size iQ.size h.size g ev en ⟨some ⟨Fl.size,0,none⟩,1,1⟩ ⟨some ⟨rP.size,0,none⟩,1,1⟩ [(aq,(g.s.toNat,[]))] []):=by
  have e1:([(aq,(g.s.toNat,[]))]:List (Sl × Vq)).map C8=[[.int .i64 g.s,.slice none 0 0]]:=by
   unfold C8;rw[List.map_singleton,show ((g.s.toNat:Nat):Int)=g.s by omega]
  have e2:(aw (([(aq,(g.s.toNat,[]))]:List (Sl × Vq)).map fun x=>x.2.1)).map aO=[aO g.s]:=by
   show [aO ((g.s.toNat:Nat):Int)]=_;rw[show ((g.s.toNat:Nat):Int)=g.s by omega]
  unfold yr;rw[e1,e2];refine hs.perm ?_;exact Fw
 refine⟨fun l seen y h' μ=>∃(i:Nat) (V:List (Sl × Vq)) (par:Nat->Nat),y=(i:Int)/\g.n.toNat-i=μ/\i<=V.length/\St h h' (yr kj.size iQ.size h.size g ev en l seen V [])/\gV g (wS g role) (V.map Prod.snd) par i 0,⟨_,0,_,_,rfl,rfl,Nat.zero_le _,hs,gV.init hV⟩,?_⟩;clear hs;rintro-l seen _ rO μ ⟨i,V,par,rfl,rfl,hi,hs,hB⟩;have hVl:=hB.len;rw[Yc] at hVl;have sv:=(hs.len 0 (s:=l) (e:=221) (n:=2) rfl (by decide)).1;rw[Yc] at sv;refine aM (fun c=>?_) (fun c=>?_)
 .obtain⟨x,gx⟩:=get_some (l:=V) (i:=i) (by omega);have O8:(V.map Prod.snd)[i]?=some x.2:=by rw[Yd,gx];rfl
  have bR:=hB.lt _ (Yb O8);obtain⟨qe,SA,ee⟩:=hP.e x.2.1 bR;have hb:=hP.b x.2.1 bR;have re:=hM.re qe (Yb SA);rw[ee] at re;have nt:=re.ln;have WA:=hP.le (x.2.1:Nat);have Sr:=hB.Og i i (bc _) x.2 O8;have exp:¬wS g role x.2.1->EK rO h (x.2.1:Nat) l seen (i:Nat) (g.n.toNat-i) (fun l seen y h' μ=>∃(i:Nat) (V:List (Sl × Vq)) (par:Nat->Nat),y=(i:Int)/\g.n.toNat-i=μ/\i<=V.length/\St h h' (yr kj.size iQ.size h.size g ev en l seen V [])/\gV g (wS g role) (V.map Prod.snd) par i 0):=fun ca=>
   Xw hg hV hs hB gx fun l' p8 V' par' h' bL hB' DZ=>by
    have n4:=(Ya.1 DZ).1;have hV2:=hB'.len;rw[Yc] at hV2;exact⟨_,(show g.n.toNat-(i+1)<g.n.toNat-i by omega),i+1,V',par',by rw[a7 (by omega) (by omega)];omega,rfl,n4,bL,hB'.next (by rw[Yd,DZ];rfl) (bc _) ca⟩
  have fnd:wS g role x.2.1->IE l (i:Nat) rO qe.1 role kj (fun v h'=>∃W n,tU g role W n/\RA h h' W (decide (n<ax)) v):=fun hm=>by
   obtain⟨n,hl,hn,hG,hd⟩:=hB.found (by omega) O8 hm;have kh:=hm.2;obtain⟨e0,JR⟩:∃e0,(az g role (x.2.1:Nat))[0]?=some e0:=by
    unfold dm at kh;cases h9:(az g role (x.2.1:Nat))[0]? with
    | none=>rw[h9] at kh;cases kh
    | some e0=>exact⟨e0,rfl⟩
   refine LS hs gx (by omega) re (by omega) JR fun w h' hw=>⟨_,_,.hit hl hn hG hd hm JR,?_⟩;rw[decide_eq_true (by unfold ax;omega)];exact hw
  have JJ:∀ {j:Nat} {y:Ev} {h':Heap} {K':Nat->Nat->Prop},(az g role (x.2.1:Nat))[j]?=some y->Ext h h'->(∀b o,a6 h' ⟨b,o+Int.toNat (j:Int)*5,none⟩ (aC role y)->K' b o)->NB qe.1.a fun b o=>(0<=(j:Int)/\(j:Int)<(qe.1.n:Nat))/\K' b o:=fun {j y h' K'} gy X hK'=>by
   have BN:=(Ya.1 gy).1;refine (re.ext X).aD (by omega) (by omega) fun b o d gd t=>?_;replace gd:(az g role (x.2.1:Nat))[j]?=some d:=gd;rw[gy] at gd;cases gd;exact hK' b o t
  refine (hs.rows 0 (s:=l) (cs:=C8) (l:=V) rfl (by decide)).aD (by omega) (by omega) fun b25 o26 d gd u=>?_;replace gd:V[i]?=some d:=gd;rw[gx] at gd;cases gd;refine⟨_,u.nth 0 rfl,ev,hs.rd 3 rfl (i:=0) rfl,kF (hM.rv.ext hs.ext) SA fun b29 o30 u2=>⟨qe.1,u2,aM (fun c2=>?_) (fun c2=>?_)⟩⟩
  .obtain⟨e0,g0⟩:=get_some (l:=az g role (x.2.1:Nat)) (i:=0) (by omega);have s0:dm (az g role (x.2.1:Nat)) 0=e0.send:=by unfold dm;rw[g0]
   refine JJ g0 hs.ext fun YD Vw u3=>⟨_,u3.nth 1 rfl,aa (fun c3=>?_) (fun c3=>exp fun hm=>?_)⟩
   .refine⟨en,hs.rd 3 rfl (i:=1) rfl,?_⟩;have Lz:=hM.rn.ln;have yA:=(Ya.1 hb).1;refine (hM.rn.ext hs.ext).aD (by omega) (by omega) fun b36 o37 d gd u4=>?_;replace gd:B[x.2.1]?=some d:=gd;rw[hb] at gd;cases gd;refine⟨_,u4.nth 0 rfl,aa (fun c4=>fnd ⟨bR,by rw[s0,c3,c4];rfl⟩) (fun c4=>?_)⟩;obtain⟨e1,g1⟩:=get_some (l:=az g role (x.2.1:Nat)) (i:=(az g role (x.2.1:Nat)).length-1) (by omega);have s1:dm (az g role (x.2.1:Nat)) ((az g role (x.2.1:Nat)).length-1)=e1.send:=by unfold dm;rw[g1]
    rw[show IntKind.wrap .i64 ((qe.1.n:Int)-1)=(((az g role (x.2.1:Nat)).length-1:Nat):Int) by rw[a7 (by omega) (by omega)];omega];refine JJ g1 hs.ext fun b98 o99 u5=>⟨_,u5.nth 1 rfl,aa (fun c5=>fnd ⟨bR,by rw[s0,s1,c3,c4,c5];rfl⟩) (fun c5=>exp fun hm=>?_)⟩;have:=hm.2;rw[s0,s1,c3,c4,c5] at this;cases this
   .have:=hm.2;rw[s0,c3] at this;cases this
  .refine exp fun hm=>?_;have h9:=hm.2;unfold dm at h9;rw[Yl (i:=0) (by omega)] at h9;cases h9
 .have cN:i=V.length:=by omega
  subst cN;refine hs.put 2 rfl (o:=0) (vs:=cx.cs) rfl (bc 14) fun adm hs=>?_;refine oS (w:=cx) (Q:=fun cs=>∃W n,tU g role W n/\RA h adm W (decide (n<ax)) (.tuple ⟨[.agg ⟨cs⟩,.bool false]⟩)) (hs.at 2 rfl (o:=0) (n:=14) rfl) ?_;have PW:gV g (wS g role) (V.map Prod.snd) par (V.map Prod.snd).length 0:=by rw[Yc];exact hB
  exact⟨kY,ax,.iR PW.none_,cx,rfl,rfl,rfl,rfl,rfl,[],(((St.refl h).step hs.ext).bJ 65 3).bJ 65 3⟩
theorem jj.len{g:Gl}{role:Int}{i:Nat}{W:WS}{n:Int}(hk:jj g role i W n):(n=ax/\W=kY)\/(n=W.len/\n<=8388608):=
 match i,hk with
 | 0,hk=>(ku.len (.inl rfl) hk).imp id fun ⟨a,b,_⟩=>⟨a,b⟩
 | 1,hk=>(tU.len hk).imp id fun ⟨a,b,_⟩=>⟨a,b⟩
 | 2,hk=>(ku.len (.inr (.inl rfl)) hk).imp id fun ⟨a,b,_⟩=>⟨a,b⟩
 | _+3,hk=>(ku.len (.inr (.inr rfl)) hk).imp id fun ⟨a,b,_⟩=>⟨a,b⟩
theorem S7.bd{g:Gl}{role kind:Int}{E:List (Sl × List Ev)}{B:List Bool}{MS:List (Sl × List gD)}{BL:List Bool}{MV:List (Sl × List aP)}(hP:S7 g role E B MS BL MV)(hk:kind=1\/kind=3\/kind=4):∀p c,bQ g role kind p=some c->0<=c/\c<=1000001:=by
 intro p c hc;unfold bQ at hc;rcases hk with rfl | rfl | rfl
 .rw[if_pos rfl] at hc;split at hc
  .split at hc
   .cases hc;omega
   .cases hc
  .cases hc
 .rw[if_neg (by decide),if_pos rfl] at hc;split at hc
  .cases hc;omega
  .cases hc
 .rw[if_neg (by decide),if_neg (by decide)] at hc;split at hc
  .rename_i hr;obtain⟨y,hy,rfl⟩:=sH.1 hc;obtain⟨q,hq,e⟩:=hP.p.m p.1 hr.1;have hm:=(mj hy).1;rw[<-e] at hm;obtain⟨a,ha,rfl⟩:=Yp.1 hm;have:=(hP.w q (Yb hq) a ha).2.1;unfold cq;simp only;omega
  .cases hc
def Mp(ar:Sl)(MS:List (Sl × List gD))(R:List It):List It:=.sl ar 211 1 ((MS.map Prod.fst).map eC)::(MS.map (nest 213 4 rC)++R)
def NU(rs ms:Sl)(BL:List Bool)(MV:List (Sl × List aP)):List It:=.sl rs 4 1 (BL.map bC) :: .sl ms 214 1 ((MV.map Prod.fst).map eC)::MV.map (nest 219 2 jd)
theorem J2.of{h0 h:Heap}{L:List It}{g:Gl}{role:Int}{ev en ar rs ms:Sl}{E:List (Sl × List Ev)}{B:List Bool}{MS:List (Sl × List gD)}{BL:List Bool}{MV:List (Sl × List aP)}{R:List It}{f:Nat->List fP}(hs:St h0 h L)(h1:∀i∈Cn ev en role E B,i∈L)(h2:∀i∈Mp ar MS R,i∈L)(h3:∀i∈NU rs ms BL MV,i∈L)(hA:yn g role f R MS):J2 h g role ev en ar rs ms E B MS BL MV:=by
 refine⟨⟨hs.nO (e:=57) (h1 _ ?_) (by decide),hs.nO (e:=4) (h1 _ ?_) (by decide),hs.nO (e:=211) (h2 _ Yx) (by decide),fun q hq=>hs.nO (e:=33) (h1 _ ?_) (by decide),fun q hq=>hs.nO (e:=213) (h2 _ (Yn _ (List.mem_append_left _ (Yp.2 ⟨q,hq,rfl⟩)))) (by decide)⟩,hs.nO (e:=4) (h3 _ Yx) (by decide),hs.nO (e:=214) (h3 _ (Yn _ Yx)) (by decide),fun q hq=>hs.nO (e:=219) (h3 _ (Yn _ (Yn _ (Yp.2 ⟨q,hq,rfl⟩)))) (by decide),fun q hq a ha=>?_⟩
 .unfold Cn;exact Yx
 .unfold Cn;exact Yn _ Yx
 .unfold Cn;exact Yn _ (Yn _ (Yp.2 ⟨q,hq,rfl⟩))
 .have hp:=hA.p q hq a ha;have cN:nest 65 3 Ac.cs (a.2.2,a.2.1.path)∈L:=h2 _ (Yn _ (List.mem_append_right _ hp.1));obtain⟨L',bL⟩:=hs.pick cN;have hl:=bL.len 0 (s:=a.2.2) (e:=65) (n:=3) rfl (by decide);exact⟨bL.nO (e:=65) Yx (by decide),hl.2.1,hl.2.2,by omega⟩
inductive RY (g:Gl) (role:Int) (h h':Heap):Value->Prop
 | ok {W:WS} (hF:bx g role 4 W ax) (E:Ext h h'):RY g role h h' (.tuple ⟨[.agg ⟨cx.cs⟩,.int .i64 0]⟩)
 | err {v:Value} {W:WS} {n:Int} (hF:bx g role 4 W n) (hn:n≠ax) (hw:gS h h' W 18 v):RY g role h h' v
def zx:List Value:=[.string ⟨#[]⟩,.slice none 0 0,.slice none 0 0,.int .i64 0,.int .i64 0,.int .i64 0,.slice none 0 0,.slice none 0 0,.int .i64 0,.int .i64 0,.slice none 0 0,.slice none 0 0,.slice none 0 0,.slice none 0 0,.slice none 0 0]
def uj(ob xb rb gb:Nat)(g:Gl)(pc:List Value)(w:Wt)(F S:List Ac)(I:List It):List It:=
 .ae ob w.cs 39 :: .sl w.f 65 3 (F.map Ac.cs) :: .sl w.s 65 3 (S.map Ac.cs) :: .ae xb pc 118 :: .ae rb cx.cs 39 :: .ae gb g.cs 27::I
theorem Bz{α:Type}{a f s:α}{L M:List α}:((a::L)++(f::s::M)).Perm ((a::f::s::L)++M):=by
 refine List.Perm.cons _ ?_;show (L++([f,s]++M)).Perm (([f,s]++L)++M);rw[<-Yz];exact List.perm_append_comm.append_right _
theorem Ke{α:Type}{a f s o f0 s0 x r g:α}{I:List α}:(a::f::s::o::f0::s0::x::r::g::I).Perm ((o::f::s::x::r::g::I)++[a,f0,s0]):=by
 refine List.Perm.trans ?_ (List.perm_append_comm (l₁:=[a,f0,s0]));refine List.Perm.cons _ ?_;refine List.Perm.trans (l₂:=[f0,s0]++(f::s::o::x::r::g::I)) ?_ (List.Perm.append_left [f0,s0] ?_)
 .exact (List.perm_append_comm (l₁:=[f,s,o]) (l₂:=[f0,s0])).append_right (x::r::g::I)
 .exact (List.perm_append_comm (l₁:=[f,s]) (l₂:=[o])).append_right (x::r::g::I)
theorem abL{h hX hB h9:Heap}{g:Gl}{role:Int}{ev en ar rs ms:Sl}{E:List (Sl × List Ev)}{B:List Bool}{MS:List (Sl × List gD)}{BL:List Bool}{MV:List (Sl × List aP)}{R:List It}(hg:GI h g)(hV:af g)
  (hs:St h hX (.ae hB.size zx 118 :: .ae h9.size cx.cs 39 :: .ae h.size g.cs 27::((Cn ev en role E B++Mp ar MS R)++NU rs ms BL MV))) (hA:Tf g role E B g.n.toNat) (hM:yn g role (du g role) R MS) (hl:∀q∈MS,q.2.length<=160000) (hR:Tb g role BL MV) {K:Value->Heap->Prop} (hK:∀v h',RY g role h h' v->K v h') :
  Jf hX hB (bs g.nm) g.hr g.hd g.n g.s g.e g.he g.ht role ev en ar rs ms h h9 K:=by
 unfold Jf;have hi1:∀ {P:List It} (i:It),i∈Cn ev en role E B->i∈P++((Cn ev en role E B++Mp ar MS R)++NU rs ms BL MV):=fun i hi=>List.mem_append_right _ (List.mem_append_left _ (List.mem_append_left _ hi));have SH:∀ {P:List It} (i:It),i∈Mp ar MS R->i∈P++((Cn ev en role E B++Mp ar MS R)++NU rs ms BL MV):=fun i hi=>List.mem_append_right _ (List.mem_append_left _ (List.mem_append_right _ hi));have hi3:∀ {P:List It} (i:It),i∈NU rs ms BL MV->i∈P++((Cn ev en role E B++Mp ar MS R)++NU rs ms BL MV):=fun i hi=>List.mem_append_right _ (List.mem_append_right _ hi);have hVP:=RB.of hV hA hM hl hs (fun i hi=>SH (P:=[_,_,_]) i (Yn _ (List.mem_append_right _ hi)));have hP:S7 g role E B MS BL MV:=⟨hVP,hR,fun q hq a ha=>(hM.p q hq a ha).2⟩;refine hs.put 0 rfl (o:=0) (vs:=kg g role 1 ev en ar rs ms) rfl (show 15<=15 by decide) fun zK hs=>?_;refine hs.ao (vs:=cx.cs) rfl rfl fun WZ hs=>?_;refine hs.put 1 rfl (o:=9) (vs:=[.int .i64 1]) rfl (show 9+1<=15 by decide) fun h84 hs=>?_;generalize hIe:((Cn ev en role E B++Mp ar MS R)++NU rs ms BL MV)=I at *;have mk:∀ {P:List It} {h':Heap},St h h' (P++I)->J2 h' g role ev en ar rs ms E B MS BL MV:=fun {P h'} bL=>J2.of bL hi1 SH hi3 hM;have hs:St h h84 (uj zK.size hB.size h9.size h.size g (kg g role (((0:Nat):Int)+1) ev en ar rs ms) cx [] [] I):=
  ((hs.bJ 65 3).bJ 65 3).perm ((List.perm_append_comm (l₁:=[_,_]) (l₂:=[_])).append_right _)
 refine⟨fun fd h' μ=>∃(i:Nat) (W:WS) (n:Int) (w:Wt),i<=4/\4-i=μ/\bx g role i W n/\fd=decide (n<ax)/\w.k=W.k/\w.r=W.r/\w.e=W.e/\w.o=W.o/\St h h' (uj zK.size hB.size h9.size h.size g (kg g role ((i:Int)+1) ev en ar rs ms) w W.F W.S I),⟨_,0,kY,ax,cx,by omega,rfl,.zero,rfl,rfl,rfl,rfl,rfl,hs⟩,?_⟩;clear hs;rintro-_ Fk μ ⟨i,W,n,w,hi,rfl,hF,rfl,e1,e2,e3,e4,hs⟩;have vF:=hF.len;have SF:n<=ax:=by rcases vF with h | h<;>(unfold ax at *;omega)
 refine⟨(i:Int)+1,hs.rd 3 rfl (i:=9) rfl,aM (fun c=>?_) (fun c=>?_)⟩
 .have qN:IntKind.wrap .i64 ((i:Int)+1+1)=((i+1:Nat):Int)+1:=by rw[a7 (by omega) (by omega)];omega
  refine hs.ao (vs:=cx.cs) rfl rfl fun h92 hs=>?_;have hs:St h h92 (.ae Fk.size cx.cs 39::uj zK.size hB.size h9.size h.size g (kg g role ((i:Int)+1) ev en ar rs ms) w W.F W.S I):=hs;refine⟨fun ok h'=>∃(W':WS) (n':Int) (w':Wt),jj g role i W' n'/\ok=decide (n'<ax)/\w'.k=W'.k/\w'.r=W'.r/\w'.e=W'.e/\w'.o=W'.o/\St h h' (.ae Fk.size w'.cs 39 :: .sl w'.f 65 3 (W'.F.map Ac.cs) :: .sl w'.s 65 3 (W'.S.map Ac.cs)::uj zK.size hB.size h9.size h.size g (kg g role ((i:Int)+1) ev en ar rs ms) w W.F W.S I),?_,?_⟩
  .have Wj:=mk (P:=[_,_,_,_,_,_,_]) hs;have fin:∀ {W':WS} {w':Wt} {L':List It} {h':Heap},St h92 h' (.sl w'.f 65 3 (W'.F.map Ac.cs) :: .sl w'.s 65 3 (W'.S.map Ac.cs)::L')->∀ {K:Heap->Prop},(∀uV,St h uV (.ae Fk.size w'.cs 39 :: .sl w'.f 65 3 (W'.F.map Ac.cs) :: .sl w'.s 65 3 (W'.S.map Ac.cs)::uj zK.size hB.size h9.size h.size g (kg g role ((i:Int)+1) ev en ar rs ms) w W.F W.S I)->K uV)->je h' ⟨Fk.size,0,none⟩ 14/\∀uV,uV=bI h' ⟨Fk.size,0,none⟩ 0 w'.cs->K uV:=fun {W' w' L' h'} bL {K} hK=>by
    have hs:=hs.join bL;refine hs.put 0 rfl (o:=0) (vs:=w'.cs) rfl (bc 14) fun uV hs=>hK uV ?_;refine hs.fK (R:=L') ?_;exact Bz
   refine⟨(i:Int)+1,hs.rd 4 rfl (i:=9) rfl,dp (fun c2=>?_) (fun c2=>?_)⟩
   .obtain rfl:i=1:=by omega
    refine⟨_,_,_,_,_,_,_,_,hs.at 6 rfl (o:=0) (n:=8) rfl,ev,en,hs.at 4 rfl (o:=10) (n:=2) rfl,?_⟩;refine (KW g role ev en ar E B MS h92 (hg.ext hs.ext) hV Wj.v hVP).mono ?_;rintro _ uU ⟨W',n',hQ,w',a1,a2,a3,a4,rfl,L',bL⟩;refine⟨w'.k,w'.r,w'.f,w'.s,w'.e.r,w'.e.s,w'.e.p,w'.e.l,aq,w'.o.r,w'.o.s,w'.o.p,w'.o.l,aq,decide (n'<ax),rfl,?_⟩;exact fin bL fun uV zI=>⟨W',n',w',hQ,rfl,a1,a2,a3,a4,zI⟩
   .have hik:i=0\/i=2\/i=3:=by omega
    have Lq:(i:Int)+1=1\/(i:Int)+1=3\/(i:Int)+1=4:=by omega
    have hkq:∀W' n',ku g role ((i:Int)+1) W' n'->jj g role i W' n':=fun W' n' hb=>by
     rcases hik with rfl | rfl | rfl<;>exact hb
    refine⟨_,_,_,_,_,_,_,_,_,_,_,_,_,_,_,hs.at 4 rfl (o:=0) (n:=15) rfl,?_⟩;refine (C6 g role ((i:Int)+1) ev en ar rs ms E B MS BL MV h92 (hg.ext hs.ext) hV Wj hP (hP.bd Lq) Lq).mono ?_;rintro _ adK ⟨W',n',hQ,w',a1,a2,a3,a4,rfl,L',bL⟩;refine⟨w'.k,w'.r,w'.f,w'.s,w'.e.r,w'.e.s,w'.e.p,w'.e.l,aq,w'.o.r,w'.o.s,w'.o.p,w'.o.l,aq,decide (n'<ax),rfl,?_⟩;exact fin bL fun uV zI=>⟨W',n',w',hkq _ _ hQ,rfl,a1,a2,a3,a4,zI⟩
  .clear hs;rintro-_ h157 ⟨W',n',w',hQ,rfl,a1,a2,a3,a4,hs⟩;have sn:=hQ.len;have take:∀ {h':Heap},St h h' (.ae Fk.size w'.cs 39 :: .sl w'.f 65 3 (W'.F.map Ac.cs) :: .sl w'.s 65 3 (W'.S.map Ac.cs)::uj zK.size hB.size h9.size h.size g (kg g role ((i:Int)+1) ev en ar rs ms) w W.F W.S I)->n'<n->MB h' Fk zK hB (4-i) (fun fd h' μ=>∃(i:Nat) (W:WS) (n:Int) (w:Wt),i<=4/\4-i=μ/\bx g role i W n/\fd=decide (n<ax)/\w.k=W.k/\w.r=W.r/\w.e=W.e/\w.o=W.o/\St h h' (uj zK.size hB.size h9.size h.size g (kg g role ((i:Int)+1) ev en ar rs ms) w W.F W.S I)):=fun {h'} hs bR=>by
    unfold MB;refine yF hs 0 3 (w:=w') (w0:=w) rfl rfl fun LL hs=>⟨(i:Int)+1,hs.rd 6 rfl (i:=9) rfl,?_⟩;refine hs.put 6 rfl (o:=9) (vs:=[.int .i64 (IntKind.wrap .i64 ((i:Int)+1+1))]) rfl (show 9+1<=15 by decide) fun P8 hs=>?_;rw[qN] at hs;refine⟨_,(show 4-(i+1)<4-i by omega),i+1,W',n',w',by omega,rfl,.take hF hQ bR,(decide_eq_true (by omega)).symm,a1,a2,a3,a4,hs.fK Ke⟩
   have br:∀ {h':Heap},St h h' (.ae Fk.size w'.cs 39 :: .sl w'.f 65 3 (W'.F.map Ac.cs) :: .sl w'.s 65 3 (W'.S.map Ac.cs)::uj zK.size hB.size h9.size h.size g (kg g role ((i:Int)+1) ev en ar rs ms) w W.F W.S I)->¬n'<n->MA h' hB (4-i) (fun fd h' μ=>∃(i:Nat) (W:WS) (n:Int) (w:Wt),i<=4/\4-i=μ/\bx g role i W n/\fd=decide (n<ax)/\w.k=W.k/\w.r=W.r/\w.e=W.e/\w.o=W.o/\St h h' (uj zK.size hB.size h9.size h.size g (kg g role ((i:Int)+1) ev en ar rs ms) w W.F W.S I)) (decide (n<ax)):=fun {h'} hs Fh=>by
    unfold MA;refine⟨(i:Int)+1,hs.rd 6 rfl (i:=9) rfl,?_⟩;refine hs.put 6 rfl (o:=9) (vs:=[.int .i64 (IntKind.wrap .i64 ((i:Int)+1+1))]) rfl (show 9+1<=15 by decide) fun P8 hs=>?_;rw[qN] at hs;exact⟨_,(show 4-(i+1)<4-i by omega),i+1,W,n,w,by omega,rfl,.br hF hQ Fh,rfl,e1,e2,e3,e4,hs.drop 3⟩
   have Sr:=(iU (W:=W') (hs.drop 1) a1).1;have ack:=(iU (W:=W) (hs.drop 4) e1).1;refine aa (fun c3=>?_) (fun c3=>?_)
   .have N2:=cd c3;have fL:n'=W'.len/\n'<=8388608:=by
     rcases sn with h | h
     .omega
     .exact h
    refine aa (fun c4=>?_) (fun c4=>?_)
    .refine take hs ?_;have:¬n<ax:=by
      intro h9;rw[decide_eq_true h9] at c4;cases c4
     omega
    .have Nz:n<ax:=by
      by_cases h9:n<ax
      .exact h9
      .rw[decide_eq_false h9] at c4;cases c4
     have BK:n=W.len/\n<=8388608:=by
      rcases vF with h | h
      .omega
      .exact⟨h.1,h.2.1⟩
     refine⟨w'.k,w'.r,w'.f,w'.s,w'.e.r,w'.e.s,w'.e.p,w'.e.l,aq,w'.o.r,w'.o.s,w'.o.p,w'.o.l,aq,hs.at 0 rfl (o:=0) (n:=14) rfl,w.k,w.r,w.f,w.s,w.e.r,w.e.s,w.e.p,w.e.l,aq,w.o.r,w.o.s,w.o.p,w.o.l,aq,hs.at 3 rfl (o:=0) (n:=14) rfl,?_⟩;refine (gN w' h157 (by omega)).mono ?_;rintro _ adD ⟨rfl,X⟩;have hs:=hs.step X;refine⟨_,rfl,X.sm,?_⟩;refine (gN w adD (by omega)).mono ?_;rintro _ LK ⟨rfl,X2⟩;have hs:=hs.step X2;refine⟨_,rfl,X2.sm,aM (fun c5=>take hs (by omega)) (fun c5=>br hs (by omega))⟩
   .refine br hs ?_;have:¬n'<ax:=by
     intro h9;rw[decide_eq_true h9] at c3;cases c3
    omega
 .obtain rfl:i=4:=by omega
  refine aa (fun c2=>?_) (fun c2=>?_)
  .have Nz:=cd c2;refine yF hs 0 4 (w:=w) (w0:=cx) rfl rfl fun Xa hs=>?_;refine oS (w:=w) (Q:=fun cs=>K (.tuple ⟨[.agg ⟨cs⟩,.int .i64 18]⟩) Xa) (hs.at 4 rfl (o:=0) (n:=14) rfl) ?_;exact hK _ _ (.err hF (by omega) ⟨w,e1,e2,e3,e4,rfl,_,hs.drop 1⟩)
  .have Nz:n=ax:=by
    by_cases h9:n<ax
    .rw[decide_eq_true h9] at c2;cases c2
    .omega
   subst Nz;refine hs.put 4 rfl (o:=0) (vs:=cx.cs) rfl (bc 14) fun adu hs=>?_;refine oS (w:=cx) (Q:=fun cs=>K (.tuple ⟨[.agg ⟨cs⟩,.int .i64 0]⟩) adu) (hs.at 4 rfl (o:=0) (n:=14) rfl) ?_;exact hK _ _ (.ok hF hs.ext)
end Go.VC
end

section
namespace Go.VC
open Go.Proofs Go.LexS
variable [aB]
namespace M
end M
end Go.VC
end

section
namespace Go.VC
open Go.Proofs Go.LexS Go.Shelf

end Go.VC
end

section
namespace Go.VC
open Go.Proofs Go.LexS

theorem Oy(g:Gl)(role:Int)(h:Heap)(hg:GI h g)(hM:JA g.ds):Fn Pz 27 #[g.v,.int .i64 role] h fun v h'=>(¬Aw g role/\v=.tuple ⟨[.agg ⟨cx.cs⟩,.int .i64 1]⟩/\Ext h h')\/(Aw g role/\RY g role h h' v):=by
 apply abA (bs g.nm) g.hr g.hd g.n g.s g.e g.he g.ht role;unfold W27;refine (St.refl h).ak fun h9 hs=>?_;refine hs.ak fun cF hs=>?_;refine⟨_,_,_,_,_,_,_,_,hs.at 1 rfl (o:=0) (n:=8) rfl,?_⟩;refine (HH g role cF (hg.ext hs.ext) hM).mono ?_;rintro _ iP ⟨⟨b,rfl,hb⟩,X⟩;have hs:=hs.step X;refine⟨b,rfl,aa (fun c=>?_) (fun c=>?_)⟩
 .refine hs.put 0 rfl (o:=0) (vs:=cx.cs) rfl (bc 14) fun dX hs=>?_;refine oS (w:=cx) (Q:=fun cs=>(¬Aw g role/\(.tuple ⟨[.agg ⟨cs⟩,.int .i64 1]⟩:Value)=.tuple ⟨[.agg ⟨cx.cs⟩,.int .i64 1]⟩/\Ext h dX)\/(Aw g role/\RY g role h dX (.tuple ⟨[.agg ⟨cs⟩,.int .i64 1]⟩))) (hs.at 0 rfl (o:=0) (n:=14) rfl) ?_;exact .inl ⟨cw hb (by simpa using c),rfl,hs.ext⟩
 .have hG:Aw g role:=hb.1 (by simpa using c);have hV:=hG.1;have fin:∀ {hX hB:Heap} {ev en ar rs ms:Sl} {E:List (Sl × List Ev)} {B:List Bool} {MS:List (Sl × List gD)} {BL:List Bool} {MV:List (Sl × List aP)} {R:List It},St h hX (.ae hB.size zx 118 :: .ae h9.size cx.cs 39 :: .ae h.size g.cs 27::((Cn ev en role E B++Mp ar MS R)++NU rs ms BL MV))->Tf g role E B g.n.toNat->yn g role (du g role) R MS->(∀q∈MS,q.2.length<=160000)->Tb g role BL MV->Jf hX hB (bs g.nm) g.hr g.hd g.n g.s g.e g.he g.ht role ev en ar rs ms h h9 (fun v h'=>(¬Aw g role/\v=.tuple ⟨[.agg ⟨cx.cs⟩,.int .i64 1]⟩/\Ext h h')\/(Aw g role/\RY g role h h' v)):=fun hs hA hMm hl hR=>abL hg hV hs hA hMm hl hR fun v h' hr=>.inr ⟨hG,hr⟩;have fic:∀ {hX hB:Heap} {ev en ar:Sl} {E:List (Sl × List Ev)} {B:List Bool} {MS:List (Sl × List gD)} {R:List It},St h hX (.ae hB.size zx 118 :: .ae h9.size cx.cs 39 :: .ae h.size g.cs 27::(Cn ev en role E B++Mp ar MS R))->Tf g role E B g.n.toNat->yn g role (du g role) R MS->(∀q∈MS,q.2.length<=160000)->Je (bs g.nm) g.hr g.hd g.n g.s g.e g.he g.ht role hX h hB (bs g.nm) g.hr g.hd g.n g.s g.e g.he g.ht ev en ar h9 (fun v h'=>(¬Aw g role/\v=.tuple ⟨[.agg ⟨cx.cs⟩,.int .i64 1]⟩/\Ext h h')\/(Aw g role/\RY g role h h' v)):=fun {hX hB ev en ar E B MS R} hs hA hMm hl=>by
   unfold Je;refine (tF g role hX (hg.ext hs.ext) hV).mono ?_;rintro _ JU ⟨rs,ms,BL,MV,rfl,hR,hsC⟩;exact⟨rs,ms,rfl,hsC.ext.sm,fin (hs.join hsC) hA hMm hl hR⟩
  refine⟨_,_,_,_,_,_,_,_,hs.at 1 rfl (o:=0) (n:=8) rfl,_,_,_,_,_,_,_,_,hs.at 1 rfl (o:=0) (n:=8) rfl,_,_,_,_,_,_,_,_,hs.at 1 rfl (o:=0) (n:=8) rfl,_,_,_,_,_,_,_,_,hs.at 1 rfl (o:=0) (n:=8) rfl,?_,fun W5 XH=>?_⟩
  .refine (Cm g role iP (hg.ext hs.ext) hM hG).mono ?_;rintro _ zL ⟨ev,en,E,B,rfl,hsA,hAh⟩;have s1:=hs.join hsA;refine⟨ev,en,rfl,hsA.ext.sm,?_,fun W7 XI=>?_⟩
   .refine (kU g role zL (hg.ext s1.ext) hV).mono ?_;rintro _ ij ⟨ob,MS,R,rfl,hsB,yD,mB⟩;have s2:=s1.join hsB;refine⟨⟨some ⟨ob,0,none⟩,g.n.toNat,g.n.toNat⟩,rfl,hsB.ext.sm,?_,fun adt XJ=>?_⟩
    .refine (tF g role ij (hg.ext s2.ext) hV).mono ?_;rintro _ JU ⟨rs,ms,BL,MV,rfl,hR,hsC⟩;have s3:=s2.join hsC;exact⟨rs,ms,rfl,hsC.ext.sm,fun h80 e80=>⟨(show Ext JU h80 by rw[e80];exact Ext.push _ _).sm,fin (s3.dh e80) hAh yD mB hR⟩⟩
    .exact⟨(show Ext ij adt by rw[XJ];exact Ext.push _ _).sm,fic (s2.dh XJ) hAh yD mB⟩
   .have s2:=s1.dh XI;refine⟨(show Ext zL W7 by rw[XI];exact Ext.push _ _).sm,?_⟩;refine (kU g role W7 (hg.ext s2.ext) hV).mono ?_;rintro _ agT ⟨ob,MS,R,rfl,hsB,yD,mB⟩;exact⟨⟨some ⟨ob,0,none⟩,g.n.toNat,g.n.toNat⟩,rfl,hsB.ext.sm,fic (s2.join hsB) hAh yD mB⟩
  .have s1:=hs.dh XH;refine⟨(show Ext iP W5 by rw[XH];exact Ext.push _ _).sm,?_⟩;refine (Cm g role W5 (hg.ext s1.ext) hM hG).mono ?_;rintro _ adi ⟨ev,en,E,B,rfl,hsA,hAh⟩;have s2:=s1.join hsA;refine⟨ev,en,rfl,hsA.ext.sm,?_⟩;refine (kU g role adi (hg.ext s2.ext) hV).mono ?_;rintro _ agL ⟨ob,MS,R,rfl,hsB,yD,mB⟩;exact⟨⟨some ⟨ob,0,none⟩,g.n.toNat,g.n.toNat⟩,rfl,hsB.ext.sm,fic (s2.join hsB) hAh yD mB⟩

theorem Rz(x y:Ac):((x.a==y.a)&&((x.b==y.b)&&((x.l==y.l)&&true)))=decide (x=y):=by
 obtain⟨a,b,c⟩:=x;obtain⟨a',b',c'⟩:=y;rw[Bool.eq_iff_iff];simp
theorem p9(A B:List Ac)(s t:Sl)(h:Heap)(hs:Rw h 3 s (A.map Ac.cs))(ht:Rw h 3 t (B.map Ac.cs))(m1:A.length<=16777216):Fn Pz 18 #[.slice s.a s.n s.c,.slice t.a t.n t.c] h (RP (A=B) h):=by
 apply abC s t;unfold W18;have h1:=hs.ln;have h2:=ht.ln;refine fZ (fun c=>RP.f (fun e=>by subst e;omega) .iC) (fun c=>?_);refine⟨fun x h' μ=>∃i:Nat,h'=h/\x=(i:Int)/\s.n-i=μ/\i<=s.n/\A.take i=B.take i,⟨_,0,rfl,rfl,rfl,Nat.zero_le _,rfl⟩,?_⟩;rintro-_ _ μ ⟨i,rfl,rfl,rfl,hi,he⟩;refine aM (fun c2=>?_) (fun c2=>?_)
 .refine hs.aD (by omega) (by omega) fun b6 o7 x gx u=>?_;refine⟨x.a,x.b,x.l,u,?_⟩;refine ht.aD (by omega) (by omega) fun b11 o12 y gy u2=>?_;refine⟨y.a,y.b,y.l,u2,?_⟩;replace gx:A[i]?=some x:=gx;replace gy:B[i]?=some y:=gy;rw[Rz];refine aa (fun c3=>RP.f (fun e=>?_) .iC) (fun c3=>?_)
  .subst e;rw[gx] at gy;cases gy;rw[decide_eq_true rfl] at c3;cases c3
  .have Lh:x=y:=by simpa using c3
   subst Lh;refine⟨_,?_,i+1,rfl,by rw[a7 (by omega) (by omega)];omega,rfl,by omega,by rw[aj gx,aj gy,he]⟩;omega
 .refine RP.t ?_ .iC;rw[Yj (l:=A) (by omega),Yj (l:=B) (by omega)] at he;exact he
theorem sQ(x y:AA)(h:Heap):Fn Pz 42 #[.agg ⟨x.cs⟩,.agg ⟨y.cs⟩] h (RP (x=y) h):=by
 apply Tq x.r x.s x.p x.l aq y.r y.s y.p y.l aq;unfold W42;refine (St.refl h).ak fun iQ hs=>?_;refine hs.ak fun kj hs=>?_;refine⟨_,hs.rd 1 rfl (i:=0) rfl,_,hs.rd 0 rfl (i:=0) rfl,dp (fun c0=>?_) (fun c0=>RP.f (fun e=>c0 (by rw[e])) hs.ext)⟩;refine⟨_,hs.rd 1 rfl (i:=1) rfl,_,hs.rd 0 rfl (i:=1) rfl,aa (fun c1=>?_) (fun c1=>RP.f (fun e=>by rw[e] at c1;simp at c1) hs.ext)⟩;refine⟨_,hs.rd 1 rfl (i:=2) rfl,_,hs.rd 0 rfl (i:=2) rfl,dp (fun c2=>?_) (fun c2=>RP.f (fun e=>c2 (by rw[e])) hs.ext)⟩;refine⟨_,hs.rd 1 rfl (i:=3) rfl,_,hs.rd 0 rfl (i:=3) rfl,RP.e ?_ hs.ext⟩;have c9:x.s=y.s:=by simpa using c1
 clear c1;rw[beq_iff_eq];obtain⟨a,b,c,d⟩:=x;obtain⟨a',b',c',d'⟩:=y;simp only at c0 c9 c2 ⊢;subst c0 c9 c2;simp
theorem Ou(V W:WS)(v w:Wt)(h:Heap)(v1:v.k=V.k)(v2:v.r=V.r)(v3:v.e=V.e)(v4:v.o=V.o)(w1:w.k=W.k)(w2:w.r=W.r)(w3:w.e=W.e)(w4:w.o=W.o)(vf:Rw h 3 v.f (V.F.map Ac.cs))(vs:Rw h 3 v.s (V.S.map Ac.cs))(wf:Rw h 3 w.f (W.F.map Ac.cs))(ws:Rw h 3 w.s (W.S.map Ac.cs))(lf:V.F.length<=16777216)(ls:V.S.length<=16777216):
  Fn Pz 16 #[.agg ⟨v.cs⟩,.agg ⟨w.cs⟩] h (RP (V=W) h):=by
 apply abE v.k v.r v.f v.s v.e.r v.e.s v.e.p v.e.l aq v.o.r v.o.s v.o.p v.o.l aq w.k w.r w.f w.s w.e.r w.e.s w.e.p w.e.l aq w.o.r w.o.s w.o.p w.o.l aq;unfold W16;refine (St.refl h).ak fun P4 hs=>?_;refine hs.ak fun HA hs=>?_;refine⟨v.k,hs.rd 1 rfl (i:=0) rfl,w.k,hs.rd 0 rfl (i:=0) rfl,dp (fun c0=>?_) (fun c0=>RP.f (fun e=>c0 (by rw[v1,w1,e])) hs.ext)⟩;refine⟨v.r,hs.rd 1 rfl (i:=1) rfl,w.r,hs.rd 0 rfl (i:=1) rfl,dp (fun c1=>?_) (fun c1=>RP.f (fun e=>c1 (by rw[v2,w2,e])) hs.ext)⟩;refine⟨v.f,hs.rd 1 rfl (i:=2) rfl,w.f,hs.rd 0 rfl (i:=2) rfl,?_⟩;refine (p9 V.F W.F v.f w.f HA (vf.ext hs.ext) (wf.ext hs.ext) lf).mono ?_;rintro _ B6 ⟨⟨b1,rfl,n5⟩,E⟩;replace hs:=hs.step E;refine⟨b1,rfl,aa (fun c2=>?_) (fun c2=>RP.f (fun e=>by rw[n5.2 (by rw[e])] at c2;cases c2) hs.ext)⟩;refine⟨v.s,hs.rd 1 rfl (i:=3) rfl,w.s,hs.rd 0 rfl (i:=3) rfl,?_⟩;refine (p9 V.S W.S v.s w.s B6 (vs.ext hs.ext) (ws.ext hs.ext) ls).mono ?_;rintro _ uQ ⟨⟨b2,rfl,jK⟩,E⟩;replace hs:=hs.step E;refine⟨b2,rfl,aa (fun c3=>?_) (fun c3=>RP.f (fun e=>by rw[jK.2 (by rw[e])] at c3;cases c3) hs.ext)⟩;refine⟨v.e.r,v.e.s,v.e.p,v.e.l,aq,hs.at 1 rfl (o:=4) (n:=5) rfl,w.e.r,w.e.s,w.e.p,w.e.l,aq,hs.at 0 rfl (o:=4) (n:=5) rfl,?_⟩;refine (sQ v.e w.e uQ).mono ?_;rintro _ uP ⟨⟨b3,rfl,JS⟩,E⟩;replace hs:=hs.step E;refine⟨b3,rfl,aa (fun c4=>?_) (fun c4=>RP.f (fun e=>by rw[JS.2 (by rw[v3,w3,e])] at c4;cases c4) hs.ext)⟩;refine⟨v.o.r,v.o.s,v.o.p,v.o.l,aq,hs.at 1 rfl (o:=9) (n:=5) rfl,w.o.r,w.o.s,w.o.p,w.o.l,aq,hs.at 0 rfl (o:=9) (n:=5) rfl,?_⟩;refine (sQ v.o w.o uP).mono ?_;rintro _ j6 ⟨⟨b4,rfl,LB⟩,E⟩;replace hs:=hs.step E;refine⟨b4,rfl,aa (fun c5=>?_) (fun c5=>RP.f (fun e=>by rw[LB.2 (by rw[v4,w4,e])] at c5;cases c5) hs.ext)⟩;refine⟨aq,hs.rd 1 rfl (i:=8) rfl,aq,hs.rd 0 rfl (i:=8) rfl,dp (fun _=>?_) (fun c=>absurd rfl c)⟩;refine⟨aq,hs.rd 1 rfl (i:=13) rfl,aq,hs.rd 0 rfl (i:=13) rfl,?_⟩;refine RP.t ?_ hs.ext;have f1:=n5.1 c2;have f2:=jK.1 c3;have f3:=JS.1 c4;have f4:=LB.1 c5;obtain⟨a,b,c,d,e,f⟩:=V;obtain⟨a',b',c',d',e',f'⟩:=W;simp only at *;simp only[WS.mk.injEq];exact⟨by omega,by omega,f1,f2,by rw[<-v3,f3,w3],by rw[<-v4,f4,w4]⟩
theorem bx.s2{g:Gl}{role:Int}{i:Nat}{W:WS}{n:Int}(h:bx g role i W n):W.k=2->W.S=[]:=by
 have hb:∀ {kind:Int} {W:WS} {n:Int},kind≠2->ku g role kind W n->W.k=2->W.S=[]:=fun {kind W n} hk h h2=>by
  cases h with
  | iR=>rfl
  | hit=>exact absurd h2 hk
 induction h with
 | zero=>exact fun _=>rfl
 | @take i W W' n n' _ hk hl ih=>
  match i with
  | 0=>exact hb (by decide) hk
  | 1=>
   intro _;have hk:tU g role W' n':=hk;cases hk with
   | iR=>rfl
   | hit=>rfl
  | 2=>exact hb (by decide) hk
  | i+3=>exact hb (by decide) hk
 | br _ _ _ ih=>exact ih
def RoQ(g:Gl)(role:Int)(W:WS)(e:Int):Prop:=(¬Aw g role/\W=kY/\e=1)\/(Aw g role/\∃n,bx g role 4 W n/\e=if n=ax then 0 else 18)
theorem bx.iR{g:Gl}{role:Int}{i:Nat}{W:WS}(h:bx g role i W ax):W=kY:=by
 rcases h.len with h | h
 .exact h.2
 .have:=h.2.1;unfold ax at this;omega
theorem Kz(g:Gl)(role:Int)(h:Heap)(hg:GI h g)(hM:JA g.ds):Fn Pz 27 #[g.v,.int .i64 role] h fun v h'=>∃W e,RoQ g role W e/\gS h h' W e v:=by
 refine (Oy g role h hg hM).mono ?_;rintro v h' (⟨hG,rfl,E⟩ | ⟨hG,hr⟩)
 .exact⟨_,_,.inl ⟨hG,rfl,rfl⟩,.zero E 1⟩
 .cases hr with
  | ok hF E=>
   have:=hF.iR;subst this;exact⟨_,_,.inr ⟨hG,_,hF,rfl⟩,.zero E 0⟩
  | err hF hn hw=>exact⟨_,_,.inr ⟨hG,_,hF,(if_neg hn).symm⟩,hw⟩
inductive jy (g:Gl):Nat->WS->Int->Prop
 | zero:jy g 0 kY ax
 | take {i:Nat} {W W':WS} {n n':Int}:jy g i W n->bx g (i:Int) 4 W' n'->(n'<n\/n'=n/\n'<ax/\W'.k<W.k)->jy g (i+1) W' n'
 | br {i:Nat} {W W':WS} {n n':Int}:jy g i W n->bx g (i:Int) 4 W' n'->¬(n'<n\/n'=n/\n'<ax/\W'.k<W.k)->jy g (i+1) W n
theorem kc.q{g:Gl}(hV:af g){i:Nat}{W:WS}{n:Int}(h:kc g i W n):jy g i W n:=by
 induction h with
 | zero=>exact .zero
 | take _ hF hc ih=>exact .take ih (hF.q hV) hc
 | br _ hF hc ih=>exact .br ih (hF.q hV) hc
theorem jy.uniq{g:Gl}{i:Nat}{W:WS}{n:Int}(h:jy g i W n):∀ {W':WS} {n':Int},jy g i W' n'->W=W'/\n=n':=by
 induction h with
 | zero=>intro W' n' h';cases h';exact⟨rfl,rfl⟩
 | take _ hF hc ih=>
  intro W' n' h';cases h' with
  | take _ uO _=>exact hF.uniq uO
  | br h2 uO iO=>
   obtain⟨rfl,rfl⟩:=ih h2;obtain⟨rfl,rfl⟩:=hF.uniq uO;exact absurd hc iO
 | br _ hF hc ih=>
  intro W' n' h';cases h' with
  | take h2 uO iO=>
   obtain⟨rfl,rfl⟩:=ih h2;obtain⟨rfl,rfl⟩:=hF.uniq uO;exact absurd iO hc
  | br h2 _ _=>exact ih h2
theorem jy.len{g:Gl}{i:Nat}{W:WS}{n:Int}(h:jy g i W n):((n=ax/\W=kY)\/(n=W.len/\n<=8388608))/\(W.k=2->W.S=[]):=by
 induction h with
 | zero=>exact⟨.inl ⟨rfl,rfl⟩,fun _=>rfl⟩
 | take _ hF _ _=>exact⟨hF.len.imp id fun ⟨a,b,_⟩=>⟨a,b⟩,hF.s2⟩
 | br _ _ _ ih=>exact ih
def J4(g:Gl)(W:WS)(e:Int):Prop:=(¬af g/\W=kY/\e=1)\/(af g/\∃n,jy g g.rs.length W n/\e=if n=ax then 0 else 18)
theorem J4.uniq{g:Gl}{W W':WS}{e e':Int}(h:J4 g W e)(h':J4 g W' e'):W=W'/\e=e':=by
 rcases h with ⟨h1,rfl,rfl⟩ | ⟨h1,n,hF,rfl⟩
 .rcases h' with ⟨_,rfl,rfl⟩ | ⟨h2,_⟩
  .exact⟨rfl,rfl⟩
  .exact absurd h2 h1
 .rcases h' with ⟨h2,_⟩ | ⟨_,n',uO,rfl⟩
  .exact absurd h1 h2
  .obtain⟨rfl,rfl⟩:=hF.uniq uO;exact⟨rfl,rfl⟩
theorem jy.iR{g:Gl}{i:Nat}{W:WS}(h:jy g i W ax):W=kY:=by
 rcases h.len.1 with h | h
 .exact h.2
 .have:=h.2;unfold ax at this;omega
theorem J4.ln{g:Gl}{W:WS}{e:Int}(h:J4 g W e):W.F.length<=8388608/\W.S.length<=8388608:=by
 have h0:kY.F.length<=8388608/\kY.S.length<=8388608:=⟨by decide,by decide⟩;rcases h with ⟨_,rfl,_⟩ | ⟨_,n,hF,_⟩
 .exact h0
 .rcases hF.len.1 with h | h
  .rw[h.2];exact h0
  .have h1:=h.1;have h2:=h.2;unfold WS.len at h1;split at h1
   .rename_i hk;rw[hF.len.2 hk];exact⟨by omega,by decide⟩
   .exact⟨by omega,by omega⟩
theorem H2(g:Gl)(h:Heap)(hg:GI h g)(hx:Gm h):Fn Pz 14 #[g.v] h fun v h'=>∃W e,J4 g W e/\gS h h' W e v:=by
 refine (vc g h hg hx).mono ?_;intro v h' hr;cases hr with
 | bad hV E=>exact⟨_,_,.inl ⟨hV,rfl,rfl⟩,.zero E 1⟩
 | ok hV hC E=>
  have hq:=hC.q hV;have:=hq.iR;subst this;exact⟨_,_,.inr ⟨hV,_,hq,rfl⟩,.zero E 0⟩
 | err hV hC hn hw=>exact⟨_,_,.inr ⟨hV,_,hC.q hV,(if_neg hn).symm⟩,hw⟩
def z8(ob rb gb:Nat)(g:Gl)(w:Wt)(F S:List Ac):List It:=
 [.ae ob w.cs 39,.sl w.f 65 3 (F.map Ac.cs),.sl w.s 65 3 (S.map Ac.cs),.ae rb cx.cs 39,.ae gb g.cs 27]
theorem FG{α:Type}{a f s o f0 s0:α}{I:List α}:(a::f::s::o::f0::s0::I).Perm ((o::f::s::I)++[a,f0,s0]):=by
 refine List.Perm.trans ?_ (List.perm_append_comm (l₁:=[a,f0,s0]));refine List.Perm.cons _ ?_;refine List.Perm.trans (l₂:=[f0,s0]++(f::s::o::I)) ?_ (List.Perm.append_left [f0,s0] ?_)
 .exact (List.perm_append_comm (l₁:=[f,s,o]) (l₂:=[f0,s0])).append_right I
 .exact (List.perm_append_comm (l₁:=[f,s]) (l₂:=[o])).append_right I
theorem Ml(g:Gl)(h:Heap)(hg:GI h g)(hM:JA g.ds):Fn Pz 15 #[g.v] h fun v h'=>∃W e,J4 g W e/\gS h h' W e v:=by
 apply abF (bs g.nm) g.hr g.hd g.n g.s g.e g.he g.ht;unfold W15;refine (St.refl h).ak fun h9 hs=>?_;refine hs.ak fun cF hs=>?_;refine⟨_,_,_,_,_,_,_,_,hs.at 1 rfl (o:=0) (n:=8) rfl,?_⟩;refine (qh g cF (hg.ext hs.ext) hM).mono ?_;rintro _ iP ⟨⟨b,rfl,hb⟩,X⟩;have hs:=hs.step X;refine⟨b,rfl,aa (fun c=>?_) (fun c=>?_)⟩
 .refine hs.put 0 rfl (o:=0) (vs:=cx.cs) rfl (bc 14) fun dX hs=>?_;refine oS (w:=cx) (Q:=fun cs=>∃W e,J4 g W e/\gS h dX W e (.tuple ⟨[.agg ⟨cs⟩,.int .i64 1]⟩)) (hs.at 0 rfl (o:=0) (n:=14) rfl) ?_;exact⟨_,_,.inl ⟨cw hb (by simpa using c),rfl,rfl⟩,.zero hs.ext 1⟩
 have hV:af g:=hb.1 (by simpa using c);have jY:=hg.r.ln;have BI:=hg.r.sm;refine hs.ao (vs:=cx.cs) rfl rfl fun tB hs=>?_;have hs:St h tB (z8 iP.size h9.size h.size g cx [] []):=
  ((hs.bJ 65 3).bJ 65 3).perm ((List.perm_append_comm (l₁:=[_,_]) (l₂:=[_])).append_right _)
 refine⟨fun fd x h' μ=>∃(i:Nat) (W:WS) (n:Int) (w:Wt),x=(i:Int)/\i<=g.rs.length/\g.rs.length-i=μ/\jy g i W n/\fd=decide (n<ax)/\w.k=W.k/\w.r=W.r/\w.e=W.e/\w.o=W.o/\St h h' (z8 iP.size h9.size h.size g w W.F W.S),⟨_,0,kY,ax,cx,rfl,Nat.zero_le _,rfl,.zero,rfl,rfl,rfl,rfl,rfl,hs⟩,?_⟩;clear hs;rintro-_ _ uQ μ ⟨i,W,n,w,rfl,hi,rfl,hF,rfl,e1,e2,e3,e4,hs⟩;have vF:=hF.len.1;have SF:n<=ax:=by rcases vF with h | h<;>(unfold ax at *;omega)
 refine⟨g.hr,hs.rd 4 rfl (i:=1) rfl,aM (fun c2=>?_) (fun c2=>?_)⟩
 .have n4:i<g.rs.length:=by omega
  have hG:Aw g (i:Int):=⟨hV,by omega,by omega⟩;have qN:IntKind.wrap .i64 ((i:Int)+1)=((i+1:Nat):Int):=by rw[a7 (by omega) (by omega)];omega
  refine⟨_,_,_,_,_,_,_,_,hs.at 4 rfl (o:=0) (n:=8) rfl,?_⟩;refine (Kz g (i:Int) uQ (hg.ext hs.ext) hM).mono ?_;rintro _ j6 ⟨W',e',hQ,w',a1,a2,a3,a4,rfl,L',bL⟩;obtain⟨n',uO,rfl⟩:∃n',bx g (i:Int) 4 W' n'/\e'=if n'=ax then 0 else 18:=by
   rcases hQ with ⟨h9,_⟩ | ⟨_,h9⟩
   .exact absurd hG h9
   .exact h9
  have sn:(n'=ax/\W'=kY)\/(n'=W'.len/\n'<=8388608):=uO.len.imp id fun ⟨a,b,_⟩=>⟨a,b⟩;refine⟨w'.k,w'.r,w'.f,w'.s,w'.e.r,w'.e.s,w'.e.p,w'.e.l,aq,w'.o.r,w'.o.s,w'.o.p,w'.o.l,aq,_,rfl,?_⟩;have hs:=hs.join bL;refine hs.ao (vs:=w'.cs) rfl rfl fun zL hs=>?_;have hs:St h zL (.ae j6.size w'.cs 39 :: .sl w'.f 65 3 (W'.F.map Ac.cs) :: .sl w'.s 65 3 (W'.S.map Ac.cs)::z8 iP.size h9.size h.size g w W.F W.S):=hs.fK (R:=L') Bz;have take:∀ {h':Heap},St h h' (.ae j6.size w'.cs 39 :: .sl w'.f 65 3 (W'.F.map Ac.cs) :: .sl w'.s 65 3 (W'.S.map Ac.cs)::z8 iP.size h9.size h.size g w W.F W.S)->(n'<n\/n'=n/\n'<ax/\W'.k<W.k)->Jq h' j6 iP (g.rs.length-i) (fun fd x h' μ=>∃(i:Nat) (W:WS) (n:Int) (w:Wt),x=(i:Int)/\i<=g.rs.length/\g.rs.length-i=μ/\jy g i W n/\fd=decide (n<ax)/\w.k=W.k/\w.r=W.r/\w.e=W.e/\w.o=W.o/\St h h' (z8 iP.size h9.size h.size g w W.F W.S)) (i:Int):=fun {h'} hs bR=>by
   unfold Jq;refine yF hs 0 3 (w:=w') (w0:=w) rfl rfl fun vH hs=>?_;exact⟨_,(show g.rs.length-(i+1)<g.rs.length-i by omega),i+1,W',n',w',qN,by omega,rfl,.take hF uO bR,(decide_eq_true (by omega)).symm,a1,a2,a3,a4,hs.fK FG⟩
  have br:∀ {h':Heap},St h h' (.ae j6.size w'.cs 39 :: .sl w'.f 65 3 (W'.F.map Ac.cs) :: .sl w'.s 65 3 (W'.S.map Ac.cs)::z8 iP.size h9.size h.size g w W.F W.S)->¬(n'<n\/n'=n/\n'<ax/\W'.k<W.k)->∃m2,m2<g.rs.length-i/\∃(i':Nat) (W:WS) (n1:Int) (w:Wt),IntKind.wrap .i64 ((i:Int)+1)=(i':Int)/\i'<=g.rs.length/\g.rs.length-i'=m2/\jy g i' W n1/\decide (n<ax)=decide (n1<ax)/\w.k=W.k/\w.r=W.r/\w.e=W.e/\w.o=W.o/\St h h' (z8 iP.size h9.size h.size g w W.F W.S):=fun {h'} hs Fh=>
   ⟨_,(show g.rs.length-(i+1)<g.rs.length-i by omega),i+1,W,n,w,qN,by omega,rfl,.br hF uO Fh,rfl,e1,e2,e3,e4,hs.drop 3⟩
  have Sr:=(iU (W:=W') (hs.drop 1) a1).1;have ack:=(iU (W:=W) (hs.drop 4) e1).1;refine fZ (fun c3=>?_) (fun c3=>?_)
  .have Wd:n'≠ax:=fun h9=>c3 (if_pos h9);have fL:n'=W'.len/\n'<=8388608:=by
    rcases sn with h | h
    .exact absurd h.1 Wd
    .exact h
   have ss:n'<ax:=by unfold ax;omega
   refine aa (fun c4=>?_) (fun c4=>?_)
   .refine take hs (.inl ?_);have:¬n<ax:=by
     intro h9;rw[decide_eq_true h9] at c4;cases c4
    omega
   .have Nz:n<ax:=by
     by_cases h9:n<ax
     .exact h9
     .rw[decide_eq_false h9] at c4;cases c4
    have BK:n=W.len/\n<=8388608:=by
     rcases vF with h | h
     .omega
     .exact h
    refine⟨w'.k,w'.r,w'.f,w'.s,w'.e.r,w'.e.s,w'.e.p,w'.e.l,aq,w'.o.r,w'.o.s,w'.o.p,w'.o.l,aq,hs.at 0 rfl (o:=0) (n:=14) rfl,w.k,w.r,w.f,w.s,w.e.r,w.e.s,w.e.p,w.e.l,aq,w.o.r,w.o.s,w.o.p,w.o.l,aq,hs.at 3 rfl (o:=0) (n:=14) rfl,?_⟩;refine (gN w' zL (by omega)).mono ?_;rintro _ aea ⟨rfl,X⟩;have hs:=hs.step X;refine⟨_,rfl,X.sm,?_⟩;refine (gN w aea (by omega)).mono ?_;rintro _ adZ ⟨rfl,X2⟩;have hs:=hs.step X2;refine⟨_,rfl,X2.sm,aM (fun c5=>take hs (.inl (by omega))) (fun c5=>?_)⟩;refine⟨w'.k,w'.r,w'.f,w'.s,w'.e.r,w'.e.s,w'.e.p,w'.e.l,aq,w'.o.r,w'.o.s,w'.o.p,w'.o.l,aq,hs.at 0 rfl (o:=0) (n:=14) rfl,w.k,w.r,w.f,w.s,w.e.r,w.e.s,w.e.p,w.e.l,aq,w.o.r,w.o.s,w.o.p,w.o.l,aq,hs.at 3 rfl (o:=0) (n:=14) rfl,?_⟩;refine (gN w' adZ (by omega)).mono ?_;rintro _ adI ⟨rfl,X3⟩;have hs:=hs.step X3;refine⟨_,rfl,X3.sm,?_⟩;refine (gN w adI (by omega)).mono ?_;rintro _ LL ⟨rfl,X4⟩;have hs:=hs.step X4;refine⟨_,rfl,X4.sm,dp (fun c6=>?_) (fun c6=>br hs ?_)⟩
    .refine⟨w'.k,hs.rd 0 rfl (i:=0) rfl,w.k,hs.rd 3 rfl (i:=0) rfl,aM (fun c7=>take hs (.inr ⟨by omega,ss,by rw[<-a1,<-e1];exact c7⟩)) (fun c7=>br hs ?_)⟩;rintro (h9 | ⟨_,_,h9⟩)
     .omega
     .rw[<-a1,<-e1] at h9;exact c7 h9
    .rintro (h9 | ⟨h9,_,_⟩)
     .omega
     .omega
  .refine br hs ?_;have Wd:n'=ax:=by
    by_cases h9:n'=ax
    .exact h9
    .rw[if_neg h9] at c3;cases c3
   rintro (h9 | ⟨_,h9,_⟩)<;>omega
 .have hir:i=g.rs.length:=by omega
  subst hir;refine aa (fun c3=>?_) (fun c3=>?_)
  .have Nz:=cd c3;refine yF hs 0 3 (w:=w) (w0:=cx) rfl rfl fun adC hs=>?_;refine oS (w:=w) (Q:=fun cs=>∃W e,J4 g W e/\gS h adC W e (.tuple ⟨[.agg ⟨cs⟩,.int .i64 18]⟩)) (hs.at 3 rfl (o:=0) (n:=14) rfl) ?_;exact⟨_,_,.inr ⟨hV,_,hF,(if_neg (by omega)).symm⟩,w,e1,e2,e3,e4,rfl,_,hs.drop 1⟩
  .have Nz:n=ax:=by
    by_cases h9:n<ax
    .rw[decide_eq_true h9] at c3;cases c3
    .omega
   subst Nz;have:=hF.iR;subst this;refine hs.put 3 rfl (o:=0) (vs:=cx.cs) rfl (bc 14) fun adz hs=>?_;refine oS (w:=cx) (Q:=fun cs=>∃W e,J4 g W e/\gS h adz W e (.tuple ⟨[.agg ⟨cs⟩,.int .i64 0]⟩)) (hs.at 3 rfl (o:=0) (n:=14) rfl) ?_;exact⟨_,_,.inr ⟨hV,_,hF,rfl⟩,.zero hs.ext 0⟩
theorem ug(g:Gl)(h:Heap)(hg:GI h g)(hx:Gm h)(hM:JA g.ds):Fn Pz 3 #[g.v] h fun v h'=>v=.bool true/\Ext h h':=by
 apply vc3 (bs g.nm) g.hr g.hd g.n g.s g.e g.he g.ht;unfold W3;refine (St.refl h).ak fun h9 hs=>?_;refine (Mo h9 (hx.ext hs.ext)).mono ?_;rintro _ kj ⟨rfl,E⟩;have hs:=hs.step E;refine⟨true,rfl,ja rfl ?_⟩;refine⟨_,_,_,_,_,_,_,_,hs.at 0 rfl (o:=0) (n:=8) rfl,?_⟩;refine (Xv g kj (hg.ext hs.ext)).mono ?_;rintro _ uT ⟨rfl,E⟩;have hs:=hs.step E;refine⟨_,rfl,aa (fun _=>⟨rfl,hs.ext⟩) (fun _=>?_)⟩;refine⟨_,_,_,_,_,_,_,_,hs.at 0 rfl (o:=0) (n:=8) rfl,?_⟩;refine (H2 g uT (hg.ext hs.ext) (hx.ext hs.ext)).mono ?_;rintro _ Ej ⟨W,e,hQ,w,a1,a2,a3,a4,rfl,Jy,dC⟩;refine⟨w.k,w.r,w.f,w.s,w.e.r,w.e.s,w.e.p,w.e.l,aq,w.o.r,w.o.s,w.o.p,w.o.l,aq,e,rfl,?_⟩;have hs:=hs.join dC;refine hs.ao (vs:=w.cs) rfl rfl fun oc hs=>?_;refine⟨_,_,_,_,_,_,_,_,hs.at 1 rfl (o:=0) (n:=8) rfl,?_⟩;refine (Ml g oc (hg.ext hs.ext) hM).mono ?_;rintro _ ij ⟨W',e',hQ',w',b1,b2,b3,b4,rfl,pQ,bG⟩;obtain⟨rfl,rfl⟩:=hQ.uniq hQ';refine⟨w'.k,w'.r,w'.f,w'.s,w'.e.r,w'.e.s,w'.e.p,w'.e.l,aq,w'.o.r,w'.o.s,w'.o.p,w'.o.l,aq,e,rfl,?_⟩;have hs:=hs.join bG;refine hs.ao (vs:=w'.cs) rfl rfl fun SP hs=>?_;have hs:St h SP ([.ae ij.size w'.cs 39,.ae Ej.size w.cs 35,.ae h.size g.cs 27,.sl w.f 65 3 (W.F.map Ac.cs),.sl w.s 65 3 (W.S.map Ac.cs)]++(Jy++(.sl w'.f 65 3 (W.F.map Ac.cs) :: .sl w'.s 65 3 (W.S.map Ac.cs)::pQ))):=hs;refine dp (fun _=>?_) (fun c=>absurd rfl c);refine⟨w.k,w.r,w.f,w.s,w.e.r,w.e.s,w.e.p,w.e.l,aq,w.o.r,w.o.s,w.o.p,w.o.l,aq,hs.at 1 rfl (o:=0) (n:=14) rfl,w'.k,w'.r,w'.f,w'.s,w'.e.r,w'.e.s,w'.e.p,w'.e.l,aq,w'.o.r,w'.o.s,w'.o.p,w'.o.l,aq,hs.at 0 rfl (o:=0) (n:=14) rfl,?_⟩;have sv:=hQ.ln;have Wk:∀ {x:It},x∈(.sl w'.f 65 3 (W.F.map Ac.cs) :: .sl w'.s 65 3 (W.S.map Ac.cs)::pQ)->x∈[.ae ij.size w'.cs 39,.ae Ej.size w.cs 35,.ae h.size g.cs 27,.sl w.f 65 3 (W.F.map Ac.cs),.sl w.s 65 3 (W.S.map Ac.cs)]++(Jy++(.sl w'.f 65 3 (W.F.map Ac.cs) :: .sl w'.s 65 3 (W.S.map Ac.cs)::pQ)):=fun hx=>List.mem_append_right _ (List.mem_append_right _ hx);refine (Ou W W w w' SP a1 a2 a3 a4 b1 b2 b3 b4 (hs.rows 3 rfl (by decide)) (hs.rows 4 rfl (by decide)) (hs.nO (e:=65) (Wk Yx) (by decide)) (hs.nO (e:=65) (Wk (Yn _ Yx)) (by decide)) (by omega) (by omega)).mono ?_;rintro _ aed ⟨⟨b,rfl,hb⟩,E⟩;exact⟨b,rfl,by rw[hb.2 rfl],(hs.step E).ext⟩
end Go.VC
end

section
namespace Go.VC
open Go.Proofs Go.LexS Go.RowKit Go.ChangeShapes Go.WideShapes Go.Proofs.YtajglkbckhgboaaGreatDoor
theorem H4{H:Type}(d:DataW H):1<=Rows.uptoBulk d:=by
 cases d with
 | lit l=>cases l<;>simp[Rows.uptoBulk]
 | _=>simp[Rows.uptoBulk]
theorem jO{H:Type}:∀ {l:List (DataW H)} {d:DataW H},d∈l->Rows.uptoBulk d<=Rows.uptoBulkAll l
 | [],_,h=>by cases h
 | x::r,d,h=>by
  rw[Rows.uptoBulkAll];rcases Yr.1 h with rfl | h
  .omega
  .have:=jO h;omega
theorem xR{H:Type}:∀l:List (DataW H),l.length<=Rows.uptoBulkAll l
 | []=>by simp
 | x::r=>by
  have h1:=H4 x;have h2:=xR r;rw[Rows.uptoBulkAll,j8];omega
def j9(P:Program)(W:World)(t:TypeId)(cs:List Value):Prop:=
 ∃(H:Type) (enc:TypeId × Value->H) (n:Nat) (x:DataW H × List MemPlace),DataW.trod enc P W 0 (fun _=>true) true n t cs=some x/\Rows.uptoBulk x.1<=1048576
theorem j9.uh{P:Program}{W:World}{t:TypeId}{cs:List Value}(h:j9 P W t cs):vp P W t cs:=by
 obtain⟨H,enc,n,x,h1,_⟩:=h;exact⟨H,enc,n,x,h1⟩
theorem wv{H:Type}{enc:TypeId × Value->H}{P:Program}{W:World}{t:TypeId}{v:Value}{d:DataW H}{p:List MemPlace}(h:DataW.Trod enc P W 0 (fun _=>true) true t v d p)(hw:Rows.uptoBulk d<=1048576):j9 P W t v.cells.toList:=by
 obtain⟨n,h⟩:=h;exact⟨H,enc,n,_,h,hw⟩
theorem j9.field{P:Program}{W:World}{t ft:TypeId}{cs:List Value}{i off:Nat}(h:j9 P W t cs)(hf:fieldAt P t i=some (ft,off)):j9 P W ft ((cs.drop off).take (P.cellsOf ft)):=by
 unfold fieldAt at hf;split at hf
 .rename_i fs hu;obtain⟨f,h1,h2⟩:=sH.1 hf;cases h2;obtain⟨H,enc,n,x,h,hw⟩:=h;obtain⟨xs,m,_,hx,hl,BE,cn⟩:=DataW.trod_struct hu h;have bR:i<xs.length:=by rw[BE];exact (yH.1 h1).1
  refine⟨H,enc,m,xs[i],by rw[cn i f h1,Yi bR],?_⟩;rw[hx,Rows.uptoBulk] at hw;have:=jO (l:=xs.map (·.1)) (d:=xs[i].1) (Yp.2 ⟨xs[i],List.getElem_mem bR,rfl⟩);omega
 .cases hf
theorem j9.rows{P:Program}{W:World}{t e:TypeId}{cs:List Value}(ht:P.underlying t=some (.slice e))(h:j9 P W t cs)(fB:0<P.cellsOf e):
  ∃(s:Sl) (rows:List (List Value)),cs=[.slice s.a s.n s.c]/\s.n<=s.c/\s.n<=1048576/\(s.a=none->s.n=0/\s.c=0)/\Rw W.heap (P.cellsOf e) s rows/\∀r∈rows,r.length=P.cellsOf e/\j9 P W e r:=by
 obtain⟨H,enc,n,x,h,hw⟩:=h;rcases DataW.trod_slice ht h with ⟨rfl,_⟩ | ⟨a,len,cap,elems,rest,m,_,rfl,hx,_,Wm,BV,WA,Wy,_,_⟩
 .exact⟨⟨none,0,0⟩,[],rfl,bc _,Nat.zero_le _,fun _=>⟨rfl,rfl⟩,Rw.nil,fun r hr=>by cases hr⟩
 .rw[hx,Rows.uptoBulk] at hw;have hle:len<=1048576:=by
   have:=xR (elems.map (·.1));rw[Yc] at this;omega
  have hwe:∀(i:Nat) (hi:i<elems.length),Rows.uptoBulk elems[i].1<=1048576:=fun i hi=>by
   have:=jO (l:=elems.map (·.1)) (d:=elems[i].1) (Yp.2 ⟨elems[i],List.getElem_mem hi,rfl⟩);omega
  by_cases h0:len=0
  .subst h0;exact⟨⟨some a,0,cap⟩,[],rfl,Wm,hle,fun e=>(by cases e),Rw.empty rfl,fun r hr=>by cases hr⟩
  .have eR:∀i,i<len->∃r,W.cells? 0 (a.add (i*P.cellsOf e)) (P.cellsOf e)=some r/\j9 P W e r:=by
    intro i hi;have h1:=Wy i hi;rw[Yi (by omega)] at h1;obtain⟨r,hr,zC⟩:=Option.bind_eq_some_iff.1 h1;exact⟨r,hr,H,enc,m,_,zC,hwe i (by omega)⟩
   let row:Nat->List Value:=fun i=>(W.cells? 0 (a.add (i*P.cellsOf e)) (P.cellsOf e)).getD []
   have Hd:∀i,i<len->W.cells? 0 (a.add (i*P.cellsOf e)) (P.cellsOf e)=some (row i)/\j9 P W e (row i):=fun i hi=>by
    obtain⟨r,hr,hx⟩:=eR i hi;have:row i=r:=by show (W.cells? 0 _ _).getD []=r;rw[hr];rfl
    rw[this];exact⟨hr,hx⟩
   have j4:∀i,i<len->((List.range len).map row)[i]?=some (row i):=fun i hi=>by
    rw[Yd,ye hi];rfl
   have Np:a=⟨a.block,a.off,none⟩:=by
    have hc:=(rj (Hd 0 (by omega)).1);have rK:0<(row 0).length:=by rw[hc.1];exact fB
    have:=hc.2 0 _ (Yi rK);rw[Nat.zero_mul,show (a.add 0).add 0=a from rfl] at this;unfold World.cell? at this;split at this
    .split at this
     .cases this
     .rename_i hs;cases a with
      | mk b o s=>
       cases s with
       | none=>rfl
       | some s=>exact absurd rfl hs
    .cases this
   refine⟨⟨some a,len,cap⟩,(List.range len).map row,rfl,Wm,hle,fun e=>(by cases e),⟨by simp,fun _=>⟨a.block,a.off,by rw[<-Np],fun i r hi j v hj=>?_⟩⟩,fun r hr=>?_⟩
   .have n4:i<len:=by have:=(Ya.1 hi).1;simpa using this
    rw[j4 i n4] at hi;cases hi;have h4:=(rj (Hd i n4).1).2 _ _ hj;rw[Np] at h4;have e:((⟨a.block,a.off,none⟩:Addr).add (i*P.cellsOf e)).add j=fG ⟨a.block,a.off+i*P.cellsOf e,none⟩ j:=by
     rw[fe,Co,Co]
    rw[e] at h4;exact h4
   .obtain⟨i,hi,rfl⟩:=Yp.1 hr;have:=Hd i (List.mem_range.1 hi);exact⟨(rj this.1).1,this.2⟩
theorem j9.list{α:Type}{P:Program}{W:World}{t e:TypeId}{k:Nat}{v:Value}{cs:α->List Value}{Q:α->Prop}(ht:P.underlying t=some (.slice e))(hk:P.cellsOf e=k)(fB:0<k)
  (ho:∀r,j9 P W e r->∃x,r=cs x/\Q x) (h:j9 P W t [v]):∃(s:Sl) (L:List α),v=.slice s.a s.n s.c/\RL W.heap k s cs L/\∀x∈L,Q x:=by
 subst hk;obtain⟨s,rows,e1,hc,hm,Fe,jX,hr⟩:=h.rows ht fB;have key:∀rows:List (List Value),(∀r∈rows,r.length=P.cellsOf e/\j9 P W e r)->∃L:List α,rows=L.map cs/\∀x∈L,Q x:=by
  intro rows
  induction rows with
  | nil=>intro _;exact⟨[],rfl,fun x hx=>by cases hx⟩
  | cons r rows ih=>
   intro h;obtain⟨x,hx,hq⟩:=ho r (h r (by simp)).2;obtain⟨L,hL,hQ⟩:=ih fun y hy=>h y (Yn _ hy);exact⟨x::L,by rw[hx,hL];rfl,fun y hy=>by rcases Yr.1 hy with rfl | hy;exact hq;exact hQ y hy⟩
 obtain⟨L,rfl,hQ⟩:=key rows hr;have hn:=jX.ln;exact⟨s,L,by simpa using e1,⟨jX,hc,Fe,by omega⟩,hQ⟩
theorem v3:Pz.underlying 3=some (.int .i64):=by kernel_rfl
theorem v4b:Pz.underlying 4=some .bool:=by kernel_rfl
theorem v9:Pz.underlying 9=some .string:=by kernel_rfl
theorem S3:Pz.cellsOf 3=1:=by kernel_rfl
theorem cz4:Pz.cellsOf 4=1:=by kernel_rfl
theorem cz9:Pz.cellsOf 9=1:=by kernel_rfl
theorem aeG:Pz.cellsOf 22=1:=by kernel_rfl
theorem aeF:Pz.cellsOf 23=1:=by kernel_rfl
theorem aeE:Pz.cellsOf 24=1:=by kernel_rfl
theorem aeD:Pz.cellsOf 25=1:=by kernel_rfl
theorem aeC:Pz.cellsOf 27=8:=by kernel_rfl
theorem XU:Pz.cellsOf 65=3:=by kernel_rfl
theorem XT:Pz.cellsOf 67=6:=by kernel_rfl
theorem XS:Pz.cellsOf 149=3:=by kernel_rfl
theorem XZ:Pz.cellsOf 166=1:=by kernel_rfl
theorem XY:Pz.cellsOf 167=1:=by kernel_rfl
theorem XX:Pz.cellsOf 49=1:=by kernel_rfl
theorem XW:Pz.cellsOf 169=2:=by kernel_rfl
theorem NZ:Pz.cellsOf 171=5:=by kernel_rfl
theorem XV:Pz.cellsOf 258=3:=by kernel_rfl
theorem NY:Pz.cellsOf 260=4:=by kernel_rfl
theorem NX:Pz.cellsOf 263=3:=by kernel_rfl
theorem NW:Pz.cellsOf 52=2:=by kernel_rfl
theorem aaI:Pz.underlying 22=some (.slice 9):=by kernel_rfl
theorem aaH:Pz.underlying 23=some (.slice 171):=by kernel_rfl
theorem aaG:Pz.underlying 24=some (.slice 67):=by kernel_rfl
theorem aaF:Pz.underlying 25=some (.slice 149):=by kernel_rfl
theorem Tl:Pz.underlying 166=some (.slice 260):=by kernel_rfl
theorem Tk:Pz.underlying 167=some (.slice 263):=by kernel_rfl
theorem Tj:Pz.underlying 49=some (.slice 52):=by kernel_rfl
theorem Vb:Pz.underlying 52=some (.array 2 3):=by kernel_rfl
theorem j9.str{P:Program}{W:World}{t:TypeId}{cs:List Value}(ht:P.underlying t=some .string)(h:j9 P W t cs):∃s:ByteArray,cs=[.string s]/\s.size<=1048576:=by
 obtain⟨H,enc,n,x,h,hw⟩:=h;obtain⟨m,h1,hx,_⟩:=DataW.trod_string ht h;refine⟨m,h1,?_⟩;rw[hx,Rows.uptoBulk] at hw;have e:m.data.toList.length=m.size:=rfl;omega
theorem Dw{W:World}{r:List Value}(h:j9 Pz W 9 r):∃x:Nm,r=DM x/\True:=by
 obtain⟨s,e,_⟩:=h.uh.str v9;exact⟨s.data.toList,by rw[e];rfl,trivial⟩
theorem yU{W:World}{r:List Value}(h:j9 Pz W 260 r):∃x:oA,r=x.cs/\True:=by
 have hl:=h.uh.HK (i:=0) (ft:=9) (off:=0) (by kernel_rfl);rw[NY] at hl
 match r,hl with
 | [x0,x1,x2,x3],_=>
  have f0:=h.uh.field (i:=0) (ft:=9) (off:=0) (by kernel_rfl);have f1:=h.uh.field (i:=1) (ft:=258) (off:=1) (by kernel_rfl);rw[cz9] at f0;rw[XV] at f1;have g0:=f1.field (i:=0) (ft:=3) (off:=0) (by kernel_rfl);have g1:=f1.field (i:=1) (ft:=3) (off:=1) (by kernel_rfl);have g2:=f1.field (i:=2) (ft:=3) (off:=2) (by kernel_rfl);rw[S3] at g0 g1 g2;obtain⟨s,e0,_⟩:=f0.str v9;obtain⟨k1,e1,_⟩:=g0.int v3;obtain⟨k2,e2,_⟩:=g1.int v3;obtain⟨k3,e3,_⟩:=g2.int v3;simp only[List.drop_zero,List.take_succ_cons,mq,List.drop_succ_cons,List.cons.injEq,and_true] at e0 e1 e2 e3;subst e0 e1 e2 e3;exact⟨⟨s.data.toList,k1,k2,k3⟩,rfl,trivial⟩
theorem kG{W:World}{t:TypeId}{r:List Value}(hc:Pz.cellsOf t=3)(h0:fieldAt Pz t 0=some (3,0))(h1:fieldAt Pz t 1=some (3,1))(h2:fieldAt Pz t 2=some (3,2))(h:vp Pz W t r):
  ∃a b c:Int,r=[.int .i64 a,.int .i64 b,.int .i64 c]:=by
 have hl:=h.HK h0;rw[hc] at hl
 match r,hl with
 | [x0,x1,x2],_=>
  have f0:=h.field h0;have f1:=h.field h1;have f2:=h.field h2;rw[S3] at f0 f1 f2;obtain⟨k0,e0,_⟩:=f0.int v3;obtain⟨k1,e1,_⟩:=f1.int v3;obtain⟨k2,e2,_⟩:=f2.int v3;simp only[List.drop_zero,List.take_succ_cons,mq,List.drop_succ_cons,List.cons.injEq,and_true] at e0 e1 e2;subst e0 e1 e2;exact⟨k0,k1,k2,rfl⟩
theorem Dy{W:World}{r:List Value}(h:j9 Pz W 263 r):∃x:Df,r=x.cs/\True:=by
 obtain⟨a,b,c,e⟩:=kG NX (by kernel_rfl) (by kernel_rfl) (by kernel_rfl) h.uh;exact⟨⟨a,b,c⟩,e,trivial⟩
theorem uq{W:World}{r:List Value}(h:j9 Pz W 149 r):∃x:To,r=x.cs/\True:=by
 obtain⟨a,b,c,e⟩:=kG XS (by kernel_rfl) (by kernel_rfl) (by kernel_rfl) h.uh;exact⟨⟨a,b,c⟩,e,trivial⟩
theorem open_pair{W:World}{r:List Value}(h:j9 Pz W 52 r):∃x:JD,r=x.cs/\True:=by
 obtain⟨hl,ha⟩:=h.uh.array Vb;rw[NW] at hl;rw[S3] at ha
 match r,hl with
 | [x0,x1],_=>
  obtain⟨k0,e0,_⟩:=(ha 0 (by omega)).int v3;obtain⟨k1,e1,_⟩:=(ha 1 (by omega)).int v3;simp only[Nat.zero_mul,Nat.one_mul,List.drop_zero,List.take_succ_cons,mq,List.drop_succ_cons,List.cons.injEq,and_true] at e0 e1;subst e0 e1;exact⟨⟨k0,k1⟩,rfl,trivial⟩
theorem Dx{W:World}{r:List Value}(h:j9 Pz W 67 r):∃x:Ed,r=x.cs/\True:=by
 have hl:=h.uh.HK (i:=0) (ft:=3) (off:=0) (by kernel_rfl);rw[XT] at hl
 match r,hl with
 | [x0,x1,x2,x3,x4,x5],_=>
  have f0:=h.uh.field (i:=0) (ft:=3) (off:=0) (by kernel_rfl);have f1:=h.uh.field (i:=1) (ft:=65) (off:=1) (by kernel_rfl);have f2:=h.uh.field (i:=2) (ft:=3) (off:=4) (by kernel_rfl);have f3:=h.uh.field (i:=3) (ft:=4) (off:=5) (by kernel_rfl);rw[S3] at f0 f2;rw[XU] at f1;rw[cz4] at f3;obtain⟨a,b,c,e1⟩:=kG XU (by kernel_rfl) (by kernel_rfl) (by kernel_rfl) f1;obtain⟨k0,e0,_⟩:=f0.int v3;obtain⟨k2,e2,_⟩:=f2.int v3;obtain⟨k3,e3⟩:=f3.bool v4b;simp only[List.drop_zero,List.take_succ_cons,mq,List.drop_succ_cons,List.cons.injEq,and_true] at e0 e1 e2 e3;obtain⟨e1a,e1b,e1c⟩:=e1;subst e0 e1a e1b e1c e2 e3;exact⟨⟨k0,a,b,c,k2,k3⟩,rfl,trivial⟩
theorem Dz{W:World}{r:List Value}(h:j9 Pz W 171 r):∃x:Dc,r=x.cs/\DI W.heap x/\x.nm.length<=1048576:=by
 have hl:=h.uh.HK (i:=0) (ft:=9) (off:=0) (by kernel_rfl);rw[NZ] at hl
 match r,hl with
 | [x0,x1,x2,x3,x4],_=>
  have f0:=h.field (i:=0) (ft:=9) (off:=0) (by kernel_rfl);have f1:=h.field (i:=1) (ft:=166) (off:=1) (by kernel_rfl);have f2:=h.uh.field (i:=2) (ft:=3) (off:=2) (by kernel_rfl);have f3:=h.field (i:=3) (ft:=169) (off:=3) (by kernel_rfl);rw[cz9] at f0;rw[XZ] at f1;rw[S3] at f2;rw[XW] at f3;have g0:=f3.field (i:=0) (ft:=167) (off:=0) (by kernel_rfl);have g1:=f3.field (i:=1) (ft:=49) (off:=1) (by kernel_rfl);rw[XY] at g0;rw[XX] at g1;obtain⟨s,e0,sj⟩:=f0.str v9;obtain⟨sf,fs,e1,hf,_⟩:=j9.list Tl NY (by omega) (fun r hr=>yU hr) f1;obtain⟨k,e2,_⟩:=f2.int v3;obtain⟨sd,ds,e3,hd,_⟩:=j9.list Tk NX (by omega) (fun r hr=>Dy hr) g0;obtain⟨se,es,e4,he,_⟩:=j9.list Tj NW (by omega) (fun r hr=>open_pair hr) g1;simp only[List.drop_zero,List.take_succ_cons,mq,List.drop_succ_cons,List.cons.injEq,and_true] at e0 e2;subst e0 e1 e2 e3 e4;exact⟨⟨s.data.toList,sf,k,sd,se,fs,ds,es⟩,rfl,⟨hf,hd,he⟩,sj⟩
theorem wJ{W:World}{cs:List Value}(h:j9 Pz W 27 cs):∃g:Gl,cs=g.cs/\GI W.heap g/\∀d∈g.ds,d.nm.length<=1048576:=by
 have hl:=h.uh.HK (i:=0) (ft:=9) (off:=0) (by kernel_rfl);rw[aeC] at hl
 match cs,hl with
 | [x0,x1,x2,x3,x4,x5,x6,x7],_=>
  have f0:=h.uh.field (i:=0) (ft:=9) (off:=0) (by kernel_rfl);have f1:=h.field (i:=1) (ft:=22) (off:=1) (by kernel_rfl);have f2:=h.field (i:=2) (ft:=23) (off:=2) (by kernel_rfl);have f3:=h.uh.field (i:=3) (ft:=3) (off:=3) (by kernel_rfl);have f4:=h.uh.field (i:=4) (ft:=3) (off:=4) (by kernel_rfl);have f5:=h.uh.field (i:=5) (ft:=3) (off:=5) (by kernel_rfl);have f6:=h.field (i:=6) (ft:=24) (off:=6) (by kernel_rfl);have f7:=h.field (i:=7) (ft:=25) (off:=7) (by kernel_rfl);rw[cz9] at f0;rw[aeG] at f1;rw[aeF] at f2;rw[S3] at f3 f4 f5;rw[aeE] at f6;rw[aeD] at f7;obtain⟨s,e0,_⟩:=f0.str v9;obtain⟨sr,rs,e1,hr,_⟩:=j9.list aaI cz9 (by omega) (fun r hr=>Dw hr) f1;obtain⟨sd,ds,e2,hd,BT⟩:=j9.list aaH NZ (by omega) (fun r hr=>Dz hr) f2;obtain⟨k3,e3,_⟩:=f3.int v3;obtain⟨k4,e4,_⟩:=f4.int v3;obtain⟨k5,e5,_⟩:=f5.int v3;obtain⟨se,es,e6,he,_⟩:=j9.list aaG XT (by omega) (fun r hr=>Dx hr) f6;obtain⟨st,ts,e7,ht,_⟩:=j9.list aaF XS (by omega) (fun r hr=>uq hr) f7;simp only[List.drop_zero,List.take_succ_cons,mq,List.drop_succ_cons,List.cons.injEq,and_true] at e0 e3 e4 e5;subst e0 e1 e2 e3 e4 e5 e6 e7;exact⟨⟨s.data.toList,sr,sd,k3,k4,k5,se,st,rs,ds,es,ts⟩,rfl,⟨hr,⟨hd,fun d hm=>(BT d hm).1⟩,he,ht⟩,fun d hm=>(BT d hm).2⟩
end Go.VC
end
