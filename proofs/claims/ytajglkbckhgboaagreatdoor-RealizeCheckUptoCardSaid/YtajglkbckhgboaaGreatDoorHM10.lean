/- SyT SyU SyV SyBa SyW SyX SyY SyZ SyZa SyBb SyCa SyCb SyCc SyCd SyCe SyCf SyCg. -/
import Derived.Test.YtajglkbckhgboaaGreatDoorHM09
set_option linter.all false
set_option maxRecDepth 100000
set_option maxHeartbeats 8000000

section
namespace Go.VC
open Go.Proofs Go.LexS
theorem Ij:cI Pz 206 210 3 40=true:=by kernel_rfl
structure SrA (F:List FS) (i:Nat) (A:List FS):Prop where
 p:A.Pairwise fun a b=>cW a.1.m b.1.m
 m:A.Perm (F.take i)
theorem SrA.ln{F:List FS}{i:Nat}{A:List FS}(h:SrA F i A)(hi:i<=F.length):A.length=i:=by rw[h.m.length_eq,Yu];omega
theorem Lf(A:List FS)(x:FS)(k:Nat):((A.take k++[x]++A.drop k).map dw)=(A.map dw).take k++[dw x]++(A.map dw).drop k:=by
 rw[Ym,Ym,List.map_take,List.map_drop];rfl
theorem xU(g:Gl)(i:Nat)(x0:Ed)(h:Heap)(hg:GI h g)(hV:af g)(hi:g.es[i]?=some x0):
  Fn Pz 113 #[g.v,.int .i64 (i:Nat)] h fun v h'=>∃(s:Sl) (A:List FS) (L:List It),v=.slice s.a s.n s.c/\A.map (fun a=>a.1.m)=dM g i/\(∀a∈A,a.1.path=gh g i a.1.m/\a.1.path.length<=1000000)/\St h h' (.sl s 210 3 (A.map dw)::L)/\(∀a∈A,nest 65 3 Ac.cs (a.2,a.1.path)∈L)/\A.length<=g.es.length:=by
 apply UY (bs g.nm) g.hr g.hd g.n g.s g.e g.he g.ht (i:Nat);unfold aai CX Js Jt;have hM:=hV.num.m;refine (St.refl h).ak fun h9 hs=>?_;refine⟨_,_,_,_,_,_,_,_,hs.at 0 rfl (o:=0) (n:=8) rfl,?_⟩;refine (uf g i x0 h9 (hg.ext hs.ext) hV hi).mono ?_;rintro _ aG ⟨s,F,L,rfl,hF,hsF,PU,hFn⟩;have sj:=(hs.join hsF).drop 1;have fJ:=hFn.len;rw[<-hF,Yc] at fJ;have yx:Rw aG 3 s (F.map dw):=hsF.rows 0 rfl (by decide);have jm:=yx.ln;have D6:(F.map (fun f=>f.1.m)).Nodup:=by
  have:=hFn.nd;rw[<-hF,List.map_map] at this;exact this
 refine⟨s,rfl,?_⟩;have hs:=(St.refl aG).bJ 210 3;refine⟨fun out x h' μ=>∃(j:Nat) (A:List FS),x=j/\μ=s.n-j/\j<=s.n/\St aG h' [.sl out 210 3 (A.map dw)]/\SrA F j A,⟨_,0,[],rfl,rfl,Nat.zero_le _,hs,.nil,by rw[mq]⟩,?_⟩;clear hs;rintro-out _ rN μ ⟨j,A,rfl,rfl,hj,hs,hA⟩;have zJ:=hs.len 0 (s:=out) (e:=210) (n:=3) rfl (by decide);have mB:=hA.ln (by omega);rw[Yc] at zJ;refine aM (fun c=>?_) (fun c=>?_)
 .obtain⟨a,ga⟩:=get_some (l:=F) (i:=j) (by omega);have tn:∀b∈A,b.1.m≠a.1.m:=fun b hb e=>by
   have jK:=hA.m.mem_iff.1 hb;obtain⟨q,hq⟩:=Yf.1 jK;rw[tQ] at hq;split at hq
   .have h5:(F.map (fun f=>f.1.m))[q]?=some a.1.m:=by rw[Yd,hq,<-e];rfl
    have h6:(F.map (fun f=>f.1.m))[j]?=some a.1.m:=by rw[Yd,ga];rfl
    have:=eF D6 h5 h6;omega
   .cases hq
  refine aL (n:=out.n) hs (fun k=>∀(q:Nat) b,q<k->A[q]?=some b->cW b.1.m a.1.m) (fun q b hq=>by omega) ?_;rintro-k fM hk ⟨hs,bR⟩;have load:∀ {h':Heap} {K:Nat->Nat->Prop},Ext aG h'->(∀b o,b<aG.size->a6 h' ⟨b,o+Int.toNat (j:Int)*3,none⟩ (dw a)->K b o)->NB s.a fun b o=>(0<=(j:Int)/\(j:Int)<(s.n:Nat))/\K b o:=fun {h' K} E' hK=>by
   refine yx.aD (by omega) (by omega) fun b o d gd t=>?_;replace gd:F[j]?=some d:=gd;rw[ga] at gd;cases gd;exact hK b o (et (t.nth 0 rfl)) (mi E' t)
  have JT:(A.map dw).flatten.all dR=true:=eu (fun _=>rfl) _;have LC:(A.map dw).length=A.length:=Yc _;have fin:(∀b,A[k]?=some b->cW a.1.m b.1.m)->∀r' uV,St aG uV [.sl r' 210 3 ((A.map dw).take k++[dw a]++(A.map dw).drop k)]->∃m',m'<s.n-j/\∃(j':Nat) (A:List FS),IntKind.wrap .i64 ((j:Int)+1)=j'/\m'=s.n-j'/\j'<=s.n/\St aG uV [.sl r' 210 3 (A.map dw)]/\SrA F j' A:=fun Hn r' uV zI=>by
   refine⟨_,(show s.n-(j+1)<s.n-j by omega),j+1,A.take k++[a]++A.drop k,by rw[a7 (by omega) (by omega)];omega,rfl,by omega,by rw[Lf];exact zI,F7 (R:=fun a b:FS=>cW a.1.m b.1.m) (fun a b c=>uC) hA.p bR Hn,?_⟩;rw[aj ga,Yz];refine (List.Perm.append_left _ List.perm_append_comm).trans ?_;rw[<-Yz,List.take_append_drop];exact List.Perm.append_right _ hA.m
  refine aM (fun c2=>?_) (fun c2=>?_)
  .obtain⟨b,gb⟩:=get_some (l:=A) (i:=k) (by omega);have hbm:=tn b (Yb gb);have rd:∀ {K:Nat->Nat->Prop},(∀b' o,a6 fM ⟨b',o+Int.toNat (k:Int)*3,none⟩ (dw b)->K b' o)->NB out.a fun b' o=>(0<=(k:Int)/\(k:Int)<(out.n:Nat))/\K b' o:=fun {K} hK=>by
    refine (hs.rows 0 (s:=out) (cs:=dw) (l:=A) rfl (by decide)).aD (by omega) (by omega) fun b' o d gd t=>?_;replace gd:A[k]?=some d:=gd;rw[gb] at gd;cases gd;exact hK b' o t
   have s7:cW b.1.m a.1.m->∃m',m'<out.n-k/\Up out.n (fun k h'=>St aG h' [.sl out 210 3 (A.map dw)]/\∀(q:Nat) b,q<k->A[q]?=some b->cW b.1.m a.1.m) (IntKind.wrap .i64 ((k:Int)+1)) fM m':=fun hl=>by
    refine Up.next (by omega) (by omega) ⟨hs,fun q z hq hz=>?_⟩;by_cases e:q=k
    .subst e;rw[gb] at hz;cases hz;exact hl
    .exact bR q z (by omega) hz
   have bH:¬(b.1.m.p=a.1.m.p/\b.1.m.l=a.1.m.l):=fun h9=>hbm (by
    obtain⟨h8,h7⟩:=h9;cases hm:b.1.m;cases kh:a.1.m;rw[hm,kh] at h8 h7;simp only at h8 h7;rw[h8,h7])
   refine rd fun YD Vw t=>⟨_,t.nth 0 rfl,load hs.ext fun YC Vv _ t2=>⟨_,t2.nth 0 rfl,?_⟩⟩;refine aM (fun c3=>s7 (by unfold cW;omega)) (fun c3=>?_);refine rd fun YD Vw t=>⟨_,t.nth 0 rfl,load hs.ext fun YC Vv _ t2=>⟨_,t2.nth 0 rfl,?_⟩⟩;refine dp (fun c4=>?_) (fun c4=>?_);refine rd fun YD Vw t=>⟨_,t.nth 1 rfl,load hs.ext fun YC Vv _ t2=>⟨_,t2.nth 1 rfl,?_⟩⟩;refine aM (fun c5=>s7 (by unfold cW;omega)) (fun c5=>?_);rotate_left;all_goals
    refine⟨⟨by omega,by omega,by omega⟩,load hs.ext fun b52 o53 PN t1=>⟨_,_,t1.Dd 2 rfl,load hs.ext fun b56 o57 PJ t2=>⟨a.2,t2.nth 2 rfl,⟨by omega,by omega,by omega⟩,?_⟩⟩⟩;refine Lg Ij hs (by rw[LC];omega) rfl JT rfl (by decide) (by decide) (by rw[LC];omega) (aF PJ (aF PN bg)) (fin fun z gz=>?_);rw[gb] at gz;cases gz;unfold cW;omega
  .refine⟨⟨by omega,by omega,by omega⟩,load hs.ext fun b52 o53 PN t1=>⟨_,_,t1.Dd 2 rfl,load hs.ext fun b56 o57 PJ t2=>⟨a.2,t2.nth 2 rfl,⟨by omega,by omega,by omega⟩,?_⟩⟩⟩;refine Lg Ij hs (by rw[LC];omega) rfl JT rfl (by decide) (by decide) (by rw[LC];omega) (aF PJ (aF PN bg)) (fin fun z gz=>?_);have:=(Ya.1 gz).1;omega
 .have Lr:j=F.length:=by omega
  subst Lr;have NN:=hA.m;rw[yd] at NN;have mz:(A.map fun a=>a.1.m)=dM g i:=by
   refine vV (l:=(ef g i).map (·.m)) ?_ ?_ hFn.nd
   .rw[<-hF,List.map_map];exact NN.map _
   .rw[List.pairwise_map];exact hA.p.imp fun {a b} h1 h2=>by unfold cW at h1 h2;omega
  refine⟨out,A,L,rfl,mz,fun a ha=>?_,?_,fun a ha=>PU a (NN.mem_iff.1 ha),by rw[NN.length_eq];exact fJ⟩
  .have eH:a.1∈ef g i:=by rw[<-hF];exact Yp.2 ⟨a,NN.mem_iff.1 ha,rfl⟩
   refine⟨?_,hFn.pl a.1 eH⟩;unfold gh;cases hq:(ef g i).find? fun f=>decide (f.m=a.1.m) with
   | none=>have:=List.find?_eq_none.1 hq a.1 eH;rw[decide_eq_true rfl] at this;exact absurd rfl this
   | some f'=>
    have h3:=List.mem_of_find?_eq_some hq;have h4:f'.m=a.1.m:=by have:=List.find?_some hq;exact cd this
    show a.1.path=f'.path;obtain⟨p,hp⟩:=Yf.1 h3;obtain⟨b,hb⟩:=Yf.1 eH;have h5:((ef g i).map (·.m))[p]?=some a.1.m:=by rw[Yd,hp,<-h4];rfl
    have h6:((ef g i).map (·.m))[b]?=some a.1.m:=by rw[Yd,hb];rfl
    have h7:=eF hFn.nd h5 h6;subst h7;rw[hp] at hb;cases hb;rfl
  .refine (sj.join hs).fK (L':=.sl out 210 3 (A.map dw)::L) (R:=[.sl s 330 3 (F.map dw)]) ?_;refine (List.perm_append_comm (l₂:=[It.sl out 210 3 (A.map dw)])).trans (.cons _ ?_);exact (List.perm_append_comm (l₁:=[It.sl s 330 3 (F.map dw)]))
theorem qk(r:Int)(m:Ms)(h:Heap):Fn Pz 122 #[.int .i64 r,.agg ⟨m.cs⟩] h fun v h'=>v=.agg ⟨aC r m.ev⟩/\Ext h h':=by
 apply UO r m.p m.l;unfold Z9;refine (St.refl h).ak fun h3 hs=>?_;refine hs.ak fun h4 hs=>?_;refine⟨_,hs.rd 1 rfl (i:=0) rfl,_,hs.rd 1 rfl (i:=1) rfl,?_⟩;refine hs.put 0 rfl (o:=0) (vs:=aC r m.ev) rfl (show 5<=5 by decide) fun h7 hs=>?_;exact⟨_,_,_,_,⟨none,0,0⟩,hs.at 0 rfl (o:=0) (n:=5) rfl,rfl,hs.ext⟩
abbrev gD:=Nat × FS
def rC(a:gD):List Value:=[.int .i64 (a.1:Nat),.int .i64 a.2.1.m.p,.int .i64 a.2.1.m.l,.slice a.2.2.a a.2.2.n a.2.2.c]
def cq(a:gD):fP:=⟨(a.1:Nat),1+(a.2.1.path.length:Int),a.2.1.m⟩
def aaw(K:List Ev)(L:List gD)(out:Int):Prop:=(out=-1/\(L.map cq).foldl (fc K) none=none)\/∃(o:Nat) (y:gD),out=(o:Int)/\L[o]?=some y/\(L.map cq).foldl (fc K) none=some (cq y)
theorem qH(r:Int)(K:List Ev)(L:List gD)(s e:Sl)(h:Heap)(hr:Rw h 4 s (L.map rC))(he:Rw h 5 e (K.map (aC r)))(hL:L.length<=1048576)(hK:K.length<=1048576)(hp:∀a∈L,a.2.2.n=a.2.1.path.length):
  Fn Pz 121 #[.slice s.a s.n s.c,.int .i64 r,.slice e.a e.n e.c] h fun v h'=>(∃out,v=.int .i64 out/\aaw K L out)/\Ext h h':=by
 apply UP s r e;unfold aaa;have hn:=hr.ln;refine⟨fun out x h' μ=>∃i:Nat,x=(i:Int)/\s.n-i=μ/\i<=s.n/\Ext h h'/\((out=-1/\((L.take i).map cq).foldl (fc K) none=none)\/∃(o:Nat) (y:gD),out=(o:Int)/\o<i/\L[o]?=some y/\((L.take i).map cq).foldl (fc K) none=some (cq y)),⟨_,0,rfl,rfl,Nat.zero_le _,.iC,.inl ⟨rfl,by rw[mq];rfl⟩⟩,?_⟩;rintro-out _ h6 μ ⟨i,rfl,rfl,hi,E,hI⟩;refine aM (fun c=>?_) (fun c=>?_)
 .obtain⟨x,gx⟩:=get_some (l:=L) (i:=i) (by omega);have rd:∀ {h':Heap} {K':Nat->Nat->Prop},Ext h h'->(∀b o,a6 h' ⟨b,o+Int.toNat (i:Int)*4,none⟩ (rC x)->K' b o)->NB s.a fun b o=>(0<=(i:Int)/\(i:Int)<(s.n:Nat))/\K' b o:=fun {h' K'} E' hK'=>by
   refine (hr.ext E').aD (by omega) (by omega) fun b o d gd t=>?_;replace gd:L[i]?=some d:=gd;rw[gx] at gd;cases gd;exact hK' b o t
  have oL:((L.take (i+1)).map cq).foldl (fc K) none=fc K (((L.take i).map cq).foldl (fc K) none) (cq x):=by rw[aj gx,Ym,List.foldl_append];rfl
  refine rd E fun b7 o8 t=>⟨_,_,t.sub 1 2 rfl,?_⟩;refine (qk r x.2.1.m h6).mono ?_;rintro _ iL ⟨rfl,E2⟩;refine⟨_,_,_,_,⟨none,0,0⟩,rfl,?_⟩;refine (NK r K x.2.1.m.ev e iL (he.ext (E.trans E2)) hK).mono ?_;rintro _ aG ⟨rfl,E3⟩;have E4:=(E.trans E2).trans E3;have yw:IntKind.wrap .i64 ((i:Int)+1)=((i+1:Nat):Int):=by rw[a7 (by omega) (by omega)];omega
  have Pn:s.n-(i+1)<s.n-i:=by omega
  refine⟨_,rfl,aa (fun c2=>?_) (fun c2=>?_)⟩
  .have cN:(cq x).m.ev∈K:=cd c2;rcases hI with ⟨rfl,hf⟩ | ⟨o,y,rfl,ho,gy,hf⟩
   .refine aM (fun _=>?_) (fun c3=>absurd (show (-1:Int)<0 by decide) c3);refine⟨_,Pn,i+1,yw,rfl,by omega,E4,.inr ⟨i,x,rfl,by omega,gx,?_⟩⟩;rw[oL,hf];unfold fc;rw[if_pos cN]
   .refine aM (fun c3=>by omega) (fun c3=>?_);have px:=hp x (Yb gx);have py:=hp y (Yb gy);have uJ:((L.take (i+1)).map cq).foldl (fc K) none=if (cq x).n<(cq y).n then some (cq x) else some (cq y):=by
     rw[oL,hf];unfold fc;rw[if_pos cN]
    have e1:(cq x).n=1+(x.2.1.path.length:Int):=rfl;have e2:(cq y).n=1+(y.2.1.path.length:Int):=rfl;refine rd E4 fun b22 o23 t=>⟨x.2.2,t.nth 3 rfl,?_⟩;refine (hr.ext E4).aD (by omega) (by omega) fun b o' d gd t=>?_;replace gd:L[o]?=some d:=gd;rw[gy] at gd;cases gd;refine⟨y.2.2,t.nth 3 rfl,aM (fun c4=>?_) (fun c4=>?_)⟩
    .exact⟨_,Pn,i+1,yw,rfl,by omega,E4,.inr ⟨i,x,rfl,by omega,gx,by rw[uJ,if_pos (by omega)]⟩⟩
    .exact⟨_,Pn,i+1,yw,rfl,by omega,E4,.inr ⟨o,y,rfl,by omega,gy,by rw[uJ,if_neg (by omega)]⟩⟩
  .have acA:(cq x).m.ev∉K:=eU c2;have uJ:((L.take (i+1)).map cq).foldl (fc K) none=((L.take i).map cq).foldl (fc K) none:=by
    rw[oL];unfold fc;rw[if_neg acA]
   refine⟨_,Pn,i+1,yw,rfl,by omega,E4,?_⟩;rw[uJ];exact hI.imp id fun ⟨o,y,h1,h2,h3,h4⟩=>⟨o,y,h1,by omega,h3,h4⟩
 .rw[Yj (by omega)] at hI;exact⟨⟨out,rfl,hI.imp id fun ⟨o,y,h1,_,h3,h4⟩=>⟨o,y,h1,h3,h4⟩⟩,E⟩
theorem Rr:cI Pz 106 57 1 24=true:=by kernel_rfl
theorem Rq:cI Pz 107 4 1 1=true:=by kernel_rfl
structure Tf (g:Gl) (role:Int) (E:List (Sl × List Ev)) (B:List Bool) (n:Nat):Prop where
 e:E.map Prod.snd=(List.range n).map fun s:Nat=>az g role (s:Nat)
 b:B=(List.range n).map fun s:Nat=>bP g role (s:Nat)
def Cn(ev en:Sl)(role:Int)(E:List (Sl × List Ev))(B:List Bool):List It:=.sl ev 57 1 ((E.map Prod.fst).map eC) :: .sl en 4 1 (B.map bC)::E.map (nest 33 5 (aC role))
theorem Cm(g:Gl)(role:Int)(h:Heap)(hg:GI h g)(hM:JA g.ds)(hG:Aw g role):
  Fn Pz 58 #[g.v,.int .i64 role] h fun v h'=>∃(ev en:Sl) (E:List (Sl × List Ev)) (B:List Bool),v=.agg ⟨[.slice ev.a ev.n ev.c,.slice en.a en.n en.c]⟩/\St h h' (Cn ev en role E B)/\Tf g role E B g.n.toNat:=by
 apply abh (bs g.nm) g.hr g.hd g.n g.s g.e g.he g.ht role;unfold W58;have hN:=hG.1.num.n;refine (St.refl h).ak fun h9 hs=>?_;refine hs.ak fun cF hs=>?_;refine hs.ak fun iQ hs=>?_;have hs:=(hs.bJ 4 1).bJ 57 1;have hs:St h iQ (.ae cF.size [.slice none 0 0,.slice none 0 0] 109 :: .sl ⟨none,0,0⟩ 57 1 [] :: .sl ⟨none,0,0⟩ 4 1 []::[.ae h9.size [.slice none 0 0,.slice none 0 0] 109,.ae h.size g.cs 27]):=hs.perm (List.perm_append_comm (l₁:=[It.sl ⟨none,0,0⟩ 57 1 [],.sl ⟨none,0,0⟩ 4 1 []]) (l₂:=[It.ae cF.size [.slice none 0 0,.slice none 0 0] 109]) |>.append_right _);refine⟨fun x h' μ=>∃(i:Nat) (ev en:Sl) (E:List (Sl × List Ev)) (B:List Bool),x=(i:Int)/\g.n.toNat-i=μ/\i<=g.n.toNat/\St h h' (.ae cF.size [.slice ev.a ev.n ev.c,.slice en.a en.n en.c] 109 :: .sl ev 57 1 ((E.map Prod.fst).map eC) :: .sl en 4 1 (B.map bC)::([.ae h9.size [.slice none 0 0,.slice none 0 0] 109,.ae h.size g.cs 27]++E.map (nest 33 5 (aC role))))/\Tf g role E B i,⟨_,0,⟨none,0,0⟩,⟨none,0,0⟩,[],[],rfl,rfl,Nat.zero_le _,by simpa using hs,⟨rfl,rfl⟩⟩,?_⟩;clear hs;rintro-_ cy μ ⟨i,ev,en,E,B,rfl,rfl,hi,hs,hA⟩;have hEl:E.length=i:=by have:=congrArg List.length hA.e;simpa using this
 have yC:B.length=i:=by rw[hA.b];simp
 refine⟨g.n,hs.rd 4 rfl (i:=3) rfl,aM (fun c=>?_) (fun c=>?_)⟩
 .refine⟨_,_,_,_,_,_,_,_,hs.at 4 rfl (o:=0) (n:=8) rfl,?_⟩;refine (yP g role (i:Int) cy (hg.ext hs.ext) hM hG ⟨by omega,by omega⟩).mono ?_;rintro _ HA ⟨r,rfl,yx⟩;refine⟨r,bP g role (i:Int),0,rfl,?_⟩;have hs:=hs.join yx;refine⟨ev,hs.rd 0 rfl (i:=0) rfl,?_⟩;intro W9 e32;refine hs.rz 0 1 rfl rfl Rr (x:=r) e32 rfl rfl (by rw[Yc];omega) (by decide) 0 (show 0<2 by decide) (by decide) fun ev' bK hs=>?_;refine⟨en,hs.rd 0 rfl (i:=1) rfl,?_⟩;intro pI e37;refine hs.rz 0 2 rfl rfl Rq (x:=bP g role (i:Int)) e37 rfl rfl (by omega) (by decide) 1 (show 1<2 by decide) (by decide) fun en' sz hs=>?_;refine⟨_,(show g.n.toNat-(i+1)<g.n.toNat-i by omega),i+1,ev',en',E++[(r,az g role (i:Int))],B++[bP g role (i:Int)],by rw[a7 (by omega) (by omega)];omega,rfl,by omega,?_,⟨by rw[Ym,hA.e,List.range_succ,Ym];rfl,by rw[hA.b,List.range_succ,Ym];rfl⟩⟩;rw[Ym (f:=Prod.fst),Ym (f:=nest 33 5 (aC role))];have:=hs;simpa [aH,nest] using this
 .have cN:i=g.n.toNat:=by omega
  subst cN;refine⟨ev,en,hs.at 0 rfl (o:=0) (n:=2) rfl,?_⟩;refine hs.put 3 rfl (o:=0) (vs:=[.slice ev.a ev.n ev.c,.slice en.a en.n en.c]) rfl (show 2<=2 by decide) fun uQ hs=>?_;refine⟨ev,en,hs.at 3 rfl (o:=0) (n:=2) rfl,ev,en,E,B,rfl,?_,hA⟩;refine hs.fK (R:=[.ae cF.size [.slice ev.a ev.n ev.c,.slice en.a en.n en.c] 109,.ae h9.size [.slice ev.a ev.n ev.c,.slice en.a en.n en.c] 109,.ae h.size g.cs 27]) ?_;unfold Cn;refine (List.perm_append_comm (l₁:=[It.ae cF.size [.slice ev.a ev.n ev.c,.slice en.a en.n en.c] 109])).trans ?_;refine .cons _ (.cons _ ?_);show List.Perm (([It.ae h9.size [.slice ev.a ev.n ev.c,.slice en.a en.n en.c] 109,.ae h.size g.cs 27]++E.map (nest 33 5 (aC role)))++[It.ae cF.size [.slice ev.a ev.n ev.c,.slice en.a en.n en.c] 109]) _;refine (List.Perm.append_right _ List.perm_append_comm).trans ?_;rw[Yz];exact List.Perm.append_left _ (List.perm_append_comm (l₁:=[_,_]) (l₂:=[_]))
theorem Ro:cI Pz 211 213 4 48=true:=by kernel_rfl
theorem K4(n:Nat):ai Pz 211 n=(List.replicate n (⟨none,0,0⟩:Sl)).map eO:=by
 have e:bV Pz 211=[.slice none 0 0]:=by kernel_rfl
 unfold ai;rw[e]
 induction n with
 | zero=>rfl
 | succ n ih=>rw[List.replicate_succ,ox,ih,List.replicate_succ];rfl
structure yn (g:Gl) (role:Int) (f:Nat->List fP) (R:List It) (MS:List (Sl × List gD)):Prop where
 l:MS.length=g.n.toNat
 s:∀(s:Nat) (q:Sl × List gD),MS[s]?=some q->q.2.map cq=f s
 p:∀q∈MS,∀a∈q.2,nest 65 3 Ac.cs (a.2.2,a.2.1.path)∈R/\a.2.1.path=gh g a.1 a.2.1.m/\a.2.1.path.length<=1000000/\a.1<g.es.length
theorem yn.more{g:Gl}{role:Int}{f:Nat->List fP}{R R':List It}{MS:List (Sl × List gD)}(h:yn g role f R MS)(hR:∀i∈R,i∈R'):yn g role f R' MS:=⟨h.l,h.s,fun q hq a ha=>by obtain⟨h1,h2⟩:=h.p q hq a ha;exact⟨hR _ h1,h2⟩⟩
theorem yn.len{g:Gl}{role:Int}{f:Nat->List fP}{R:List It}{MS:List (Sl × List gD)}(h:yn g role f R MS){s:Nat}{q:Sl × List gD}(hq:MS[s]?=some q):q.2.length=(f s).length:=by
 have:=congrArg List.length (h.s s q hq)
 rwa [Yc] at this
theorem yn.FC{g:Gl}{role:Int}{f f':Nat->List fP}{R:List It}{MS:List (Sl × List gD)}(h:yn g role f R MS){k:Nat}{q:Sl × List gD}(hq:MS[k]?=some q)(r:Sl){a:gD}(h1:f' k=f k++[cq a])(h2:∀s,s≠k->f' s=f s)
  (hp:nest 65 3 Ac.cs (a.2.2,a.2.1.path)∈R/\a.2.1.path=gh g a.1 a.2.1.m/\a.2.1.path.length<=1000000/\a.1<g.es.length):yn g role f' R (MS.set k (r,q.2++[a])):=by
 have hk:=(Ya.1 hq).1;refine⟨by rw[jT,h.l],fun s z hz=>?_,fun z hz b hb=>?_⟩
 .by_cases e:k=s
  .subst e;rw[Yq hk] at hz;cases hz;rw[Ym,h.s k q hq,h1];rfl
  .rw[Yy e] at hz;rw[h.s s z hz,h2 s (Ne.symm e)]
 .rcases List.mem_or_eq_of_mem_set hz with hz | rfl
  .exact h.p z hz b hb
  .rcases Yk.1 hb with hb | hb
   .exact h.p q (Yb hq) b hb
   .rw[Ye] at hb;rw[hb];exact hp
def EG(ob gb:Nat)(g:Gl)(MS:List (Sl × List gD))(R:List It):List It:=[.ae ob ((MS.map Prod.fst).map eO) 211,.ae gb g.cs 27]++MS.map (nest 213 4 rC)++R
def N7(g:Gl)(role:Int)(j s:Nat):List fP:=(oI g.es j s).flatMap (iv g role)
theorem xV{g:Gl}{role:Int}{j:Nat}{x:Ed}(hx:g.es[j]?=some x)(s:Nat):N7 g role (j+1) s=N7 g role j s++(if x.f=(s:Int) then iv g role j else []):=by
 unfold N7;rw[mY hx,List.flatMap_append];congr 1;split
 .simp
 .rfl
theorem kU(g:Gl)(role:Int)(h:Heap)(hg:GI h g)(hV:af g):
  Fn Pz 59 #[g.v,.int .i64 role] h fun v h'=>∃(ob:Nat) (MS:List (Sl × List gD)) (R:List It),v=.slice (some ⟨ob,0,none⟩) g.n.toNat g.n.toNat/\St h h' (.sl ⟨some ⟨ob,0,none⟩,g.n.toNat,g.n.toNat⟩ 211 1 ((MS.map Prod.fst).map eC)::(MS.map (nest 213 4 rC)++R))/\yn g role (du g role) R MS/\∀q∈MS,q.2.length<=160000:=by
 apply abg (bs g.nm) g.hr g.hd g.n g.s g.e g.he g.ht role;unfold W59;have hN:=hV.num.n;have hM:=hV.num.m;have ki:=hg.e.ln;refine (St.refl h).ak fun h9 hs=>?_;refine⟨g.n,hs.rd 0 rfl (i:=3) rfl,⟨by omega,by omega,by omega⟩,?_⟩;rw[K4];refine hs.ak fun iQ hs=>?_;have hs:=hs.qA (α:=gD) (e:=213) (k:=4) (cs:=rC) (A:=[_,_]) (B:=[]) g.n.toNat;have hs:St h iQ (EG h9.size h.size g (List.replicate g.n.toNat ((⟨.none,0,0⟩,[]):Sl × List gD)) []):=by
  unfold EG;rw[List.map_replicate (f:=Prod.fst)];exact hs
 have hA:yn g role (N7 g role 0) [] (List.replicate g.n.toNat ((⟨.none,0,0⟩,[]):Sl × List gD)):=by
  refine⟨Yg,fun s q hq=>?_,fun q hq a ha=>?_⟩
  .have:=List.eq_of_mem_replicate (Yb hq);rw[this];rfl
  .have:=List.eq_of_mem_replicate hq;rw[this] at ha;cases ha
 refine⟨fun x h' μ=>∃(i:Nat) (MS:List (Sl × List gD)) (R:List It),x=(i:Int)/\g.es.length-i=μ/\i<=g.es.length/\St h h' (EG h9.size h.size g MS R)/\yn g role (N7 g role i) R MS/\∀q∈MS,q.2.length<=400*i,⟨_,0,_,[],rfl,rfl,Nat.zero_le _,hs,hA,fun q hq=>by rw[List.eq_of_mem_replicate hq];exact Nat.zero_le _⟩,?_⟩;clear hs hA;rintro-_ cy μ ⟨i,MS,R,rfl,rfl,hi,hs,hA,hB⟩;have hMl:=hA.l;have yw:i<g.es.length->IntKind.wrap .i64 ((i:Int)+1)=((i+1:Nat):Int):=fun hi=>by rw[a7 (by omega) (by omega)];omega
 refine⟨g.he,hs.rd 1 rfl (i:=6) rfl,aM (fun c=>?_) (fun c=>?_)⟩
 .refine⟨g.he,hs.rd 1 rfl (i:=6) rfl,?_⟩;refine (hg.e.rw.ext hs.ext).aD (by omega) (by omega) fun b19 o20 x gx t=>?_;replace gx:g.es[i]?=some x:=gx;have vD:=hV.num.e x (Yb gx);unfold gU at vD;refine⟨_,_,_,_,_,_,t,?_⟩;refine hs.ao (vs:=x.cs) rfl rfl fun JW hs=>?_;refine⟨x.b,hs.rd 0 rfl (i:=2) rfl,fZ (fun cb=>?_) (fun cb=>?_)⟩
  .refine⟨_,(show g.es.length-(i+1)<g.es.length-i by omega),i+1,MS,R,yw (by omega),rfl,by omega,hs.drop 1,⟨hA.l,fun s q hq=>?_,hA.p⟩,fun q hq=>by have:=hB q hq;omega⟩;rw[hA.s s q hq,xV gx];split
   .unfold iv;rw[aK gx,if_neg cb,Yw]
   .rw[Yw]
  .refine⟨_,_,_,_,_,_,_,_,hs.at 2 rfl (o:=0) (n:=8) rfl,?_⟩;refine (xU g i x JW (hg.ext hs.ext) hV gx).mono ?_;rintro _ LJ ⟨s,A,L,rfl,NN,hAp,hsA,hAL,mB⟩;refine⟨s,rfl,?_⟩;have jm:=(hsA.len 0 (s:=s) rfl (by decide)).1;rw[Yc] at jm;have WA:(dM g i).length=A.length:=by rw[<-NN,Yc]
   have dC:St h LJ ([.ae cy.size x.cs 67,.ae h9.size ((MS.map Prod.fst).map eO) 211,.ae h.size g.cs 27]++MS.map (nest 213 4 rC)++(.sl s 210 3 (A.map dw)::(L++R))):=by
    refine (hs.join hsA).perm ?_;unfold EG;show List.Perm ((.ae cy.size x.cs 67::([.ae h9.size ((MS.map Prod.fst).map eO) 211,.ae h.size g.cs 27]++MS.map (nest 213 4 rC)++R))++(.sl s 210 3 (A.map dw)::L)) _;rw[List.cons_append,Yz _ R];refine .cons _ (List.Perm.append_left _ ?_);refine List.perm_append_comm.trans ?_;rw[List.cons_append]
   refine⟨fun y h' μ'=>∃(k:Nat) (MS':List (Sl × List gD)),y=(k:Int)/\s.n-k=μ'/\k<=s.n/\St h h' ([.ae cy.size x.cs 67,.ae h9.size ((MS'.map Prod.fst).map eO) 211,.ae h.size g.cs 27]++MS'.map (nest 213 4 rC)++(.sl s 210 3 (A.map dw)::(L++R)))/\yn g role (fun z=>N7 g role i z++(if x.f=(z:Int) then tM g i ((dM g i).take k) else [])) (L++R) MS'/\∀q∈MS',q.2.length<=400*i+k,⟨_,0,MS,rfl,rfl,Nat.zero_le _,dC,⟨hA.l,fun z q hq=>by
    have e0:tM g i ((dM g i).take 0)=[]:=by rw[mq];rfl
    rw[hA.s z q hq,e0,ite_self,Yw],(hA.more fun j hj=>List.mem_append_right _ hj).p⟩,fun q hq=>hB q hq⟩,?_⟩
   clear hs dC hA hMl hB;rintro-_ od μ' ⟨k,MS,rfl,rfl,hk,hs,hA,hB⟩;have hMl:=hA.l;have JP:x.f.toNat<MS.length:=by omega
   obtain⟨q,hq⟩:=get_some (l:=MS) (i:=x.f.toNat) JP;have sn:=hA.len hq;have nt:=(hs.kH hq (by omega)).ln;have hq6:q.2.length<=160400:=by have:=hB q (Yb hq);omega
   refine aM (fun c2=>?_) (fun c2=>?_)
   .obtain⟨a,ga⟩:=get_some (l:=A) (i:=k) (by omega);have gm:(dM g i)[k]?=some a.1.m:=by rw[<-NN,Yd,ga];rfl
    have hsi:([.ae cy.size x.cs 67,.ae h9.size ((MS.map Prod.fst).map eO) 211,.ae h.size g.cs 27]++MS.map (nest 213 4 rC)++(.sl s 210 3 (A.map dw)::(L++R)))[3+MS.length]?=some (.sl s 210 3 (A.map dw)):=by
     rw[tR (by simp;omega)];simp only[Yh,Yc,j8,List.length_nil];rw[show 3+MS.length-(0+1+1+1+MS.length)=0 by omega];rfl
    have rd:∀ {K:Nat->Nat->Prop},(∀b o,a6 od ⟨b,o+Int.toNat (k:Int)*3,none⟩ (dw a)->K b o)->NB s.a fun b o=>(0<=(k:Int)/\(k:Int)<(s.n:Nat))/\K b o:=fun {K} hK=>by
     refine (hs.rows (3+MS.length) (s:=s) (cs:=dw) (l:=A) hsi (by decide)).aD (by omega) (by omega) fun b o d gd t=>?_;replace gd:A[k]?=some d:=gd;rw[ga] at gd;cases gd;exact hK b o t
    have Pe:∀z:Nat,N7 g role i z++(if x.f=(z:Int) then tM g i ((dM g i).take (k+1)) else [])=(N7 g role i z++(if x.f=(z:Int) then tM g i ((dM g i).take k) else []))++(if x.f=(z:Int) then (if a.1.m.p≠x.a then [ju g i a.1.m] else []) else []):=fun z=>by
     rw[Yz];congr 1;split
     .rw[ry gm,aK gx]
     .rfl
    have Pn:s.n-(k+1)<s.n-k:=by omega
    have qN:IntKind.wrap .i64 ((k:Int)+1)=((k+1:Nat):Int):=by rw[a7 (by omega) (by omega)];omega
    refine rd fun b47 o48 t=>⟨_,t.nth 0 rfl,x.a,hs.rd 0 rfl (i:=1) rfl,fZ (fun c3=>?_) (fun c3=>?_)⟩
    .refine⟨x.f,hs.rd 0 rfl (i:=0) rfl,x.f,hs.rd 0 rfl (i:=0) rfl,⟨by omega,by omega⟩,?_⟩;rw[show 0+Int.toNat x.f*1=x.f.toNat by omega];refine⟨q.1,hs.rd 1 rfl (by rw[Yd,Yd,hq];rfl),?_⟩;refine rd fun b54 o55 t2=>⟨_,_,t2.Dd 2 rfl,rd fun b58 o59 t3=>⟨a.2,t3.nth 2 rfl,?_⟩⟩;refine hs.au fun NO E61 hs=>⟨E61.sm,?_⟩;have hs:St h NO ((.ae od.size (rC (i,a)) 213::[.ae cy.size x.cs 67,.ae h9.size ((MS.map Prod.fst).map eO) 211,.ae h.size g.cs 27])++MS.map (nest 213 4 rC)++(.sl s 210 3 (A.map dw)::(L++R))):=hs;refine hs.ng hq Ro ((i,a):gD) (hs.at 0 rfl (o:=0) (n:=4) rfl) rfl rfl (by omega) (by simp only[maxLen];omega) fun r rM hr fU=>?_;refine⟨fR (hs.same fU 1 1 rfl rfl) kz,⟨by omega,by omega⟩,?_⟩;refine fU.put 2 rfl (o:=x.f.toNat) (vs:=[eO r]) rfl (by rw[Yc,Yc,Yv];omega) fun JV hs=>?_;rw[bz eO (by rw[Yc];omega)] at hs;refine⟨_,Pn,k+1,MS.set x.f.toNat (r,q.2++[((i,a):gD)]),qN,rfl,by omega,by rw[List.map_set];exact hs.drop 1,?_,fun z hz=>?_⟩;rotate_left
     .rcases List.mem_or_eq_of_mem_set hz with hz | rfl
      .have:=hB z hz;omega
      .have:=hB q (Yb hq);simp only[Yh,Yv];omega
     obtain⟨ap1,ap2⟩:=hAp a (Yb ga);refine hA.FC hq r ?_ (fun z hz=>?_) ⟨List.mem_append_left _ (hAL a (Yb ga)),ap1,ap2,(Ya.1 gx).1⟩
     .rw[Pe,if_pos (show x.f=((x.f.toNat:Nat):Int) by omega),if_pos (show x.f=((x.f.toNat:Nat):Int) by omega),if_pos c3];unfold ju cq;simp only;rw[ap1]
     .rw[Pe,if_neg (show ¬x.f=(z:Int) by omega),if_neg (show ¬x.f=(z:Int) by omega),Yw]
    .refine⟨_,Pn,k+1,MS,qN,rfl,by omega,hs,⟨hA.l,fun z q hq=>?_,hA.p⟩,fun z hz=>by have:=hB z hz;omega⟩;rw[hA.s z q hq,Pe,if_neg (show ¬a.1.m.p≠x.a by rw[c3];simp),ite_self,Yw]
   .have Lq:k=A.length:=by omega
    refine⟨_,(show g.es.length-(i+1)<g.es.length-i by omega),i+1,MS,.sl s 210 3 (A.map dw)::(L++R),yw (by omega),rfl,by omega,?_,⟨hA.l,fun z q hq=>?_,(hA.more fun j hj=>Yn _ hj).p⟩,fun z hz=>by have:=hB z hz;omega⟩
    .unfold EG;exact hs.drop 1
    .rw[hA.s z q hq,xV gx];congr 1;split
     .unfold iv;rw[aK gx,if_pos cb,Yj (by omega)]
     .rfl
 .have cN:i=g.es.length:=by omega
  subst cN;refine⟨h9.size,MS,R,rfl,?_,⟨hA.l,fun s q hq=>hA.s s q hq,hA.p⟩,fun q hq=>by have:=hB q hq;omega⟩;have hs:=hs.fK (L':=.ae h9.size ((MS.map Prod.fst).map eO) 211::(MS.map (nest 213 4 rC)++R)) (R:=[.ae h.size g.cs 27]) (by
   unfold EG;refine .cons _ ?_;show List.Perm (([It.ae h.size g.cs 27]++MS.map (nest 213 4 rC))++R) _;rw[Yz];exact List.perm_append_comm)
  exact hs.dP g.n.toNat 1 ((MS.map Prod.fst).map eC) (by
   generalize MS.map Prod.fst=l
   induction l with
   | nil=>rfl
   | cons a l ih=>rw[gG,gG,ox,ih];rfl) (fun r hr=>by obtain⟨x,_,rfl⟩:=Yp.1 hr;rfl) (by rw[Yc,Yc,hA.l]) (by simp only[maxLen];omega)
theorem Ch(x y:Int)(h:Heap):Fn Pz 119 #[.agg ⟨[.int .i64 x,.int .i64 y]⟩] h fun v h'=>v=.int .i64 (if 0<=x/\0<=y then 2 else 1)/\Ext h h':=by
 apply UR x y;unfold aac;refine (St.refl h).ak fun h3 hs=>?_;refine⟨_,hs.rd 0 rfl (i:=0) rfl,aM (fun c=>?_) (fun c=>?_)⟩
 .refine⟨_,hs.rd 0 rfl (i:=1) rfl,aM (fun c2=>?_) (fun c2=>?_)⟩
  .exact⟨by rw[if_pos ⟨by omega,by omega⟩],hs.ext⟩
  .exact⟨by rw[if_neg (by omega)],hs.ext⟩
 .exact⟨by rw[if_neg (by omega)],hs.ext⟩
theorem wB(m:aP):((bO m:Nat):Int)=if 0<=m.x/\0<=m.y then 2 else 1:=by unfold bO;split<;>rfl
def jd(m:aP):List Value:=[.int .i64 m.x,.int .i64 m.y]
theorem KU{g:Gl}{role:Int}{s t:Nat}{m:aP}(hm:m∈bq g.es role s t):
  ((∃e,0<=m.x/\g.es[m.x.toNat]?=some e/\e.t=m.s)\/(m.x<0/\m.s=(s:Int)))/\((∃e,0<=m.y/\g.es[m.y.toNat]?=some e/\e.t=m.t)\/(m.y<0/\m.t=(t:Int))):=by
 unfold bq at hm;rcases Yk.1 hm with hm | hm
 .rcases Yk.1 hm with hm | hm
  .obtain⟨k,hk,rfl⟩:=Yp.1 hm;obtain⟨x,hx,_⟩:=aA.1 (List.mem_filter.1 hk).1;exact⟨.inl ⟨x,Int.natCast_nonneg k,by simpa using hx,by rw[aK hx]⟩,.inr ⟨show (-1:Int)<0 by decide,rfl⟩⟩
  .obtain⟨k,hk,rfl⟩:=Yp.1 hm;obtain⟨x,hx,_⟩:=aA.1 (List.mem_filter.1 hk).1;exact⟨.inr ⟨show (-1:Int)<0 by decide,rfl⟩,.inl ⟨x,Int.natCast_nonneg k,by simpa using hx,by rw[aK hx]⟩⟩
 .unfold kI at hm;obtain⟨i,hi,hm⟩:=List.mem_flatMap.1 hm;obtain⟨x,hx,_⟩:=aA.1 hi;unfold lJ at hm;split at hm
  .cases hm
  .obtain⟨k,hk,rfl⟩:=Yp.1 hm;obtain⟨y,hy,_⟩:=aA.1 (List.mem_filter.1 hk).1;exact⟨.inl ⟨x,Int.natCast_nonneg i,by simpa using hx,by rw[aK hx]⟩,.inl ⟨y,Int.natCast_nonneg k,by simpa using hy,by rw[aK hy]⟩⟩
theorem jQ(g:Gl)(role:Int)(s t:Nat)(m:aP)(h:Heap)(hg:GI h g)(hm:m∈bq g.es role s t):Fn Pz 115 #[g.v,.int .i64 (s:Nat),.int .i64 (t:Nat),.agg ⟨jd m⟩] h fun v h'=>v=.tuple ⟨[.int .i64 m.s,.int .i64 m.t]⟩/\Ext h h':=by
 apply UW (bs g.nm) g.hr g.hd g.n g.s g.e g.he g.ht (s:Nat) (t:Nat) m.x m.y;unfold aag;obtain⟨h1,h2⟩:=KU hm;have ki:=hg.e.ln;refine (St.refl h).ak fun iQ hs=>?_;refine hs.ak fun kj hs=>?_;refine⟨fun x h'=>x=m.s/\h'=kj,⟨_,hs.rd 0 rfl (i:=0) rfl,aM (fun c=>?_) (fun c=>?_)⟩,?_⟩
 .rcases h1 with ⟨e,h0,he,ht⟩ | ⟨h0,_⟩
  .have hl:=(Ya.1 he).1;refine⟨g.he,hs.rd 1 rfl (i:=6) rfl,_,hs.rd 0 rfl (i:=0) rfl,?_⟩;refine (hg.e.rw.ext hs.ext).aD (by omega) (by omega) fun b o d gd u=>?_;replace gd:g.es[m.x.toNat]?=some d:=gd;rw[he] at gd;cases gd;exact⟨_,u.nth 4 rfl,ht,rfl⟩
  .omega
 .rcases h1 with ⟨e,h0,he,ht⟩ | ⟨h0,e⟩
  .omega
  .exact⟨e.symm,rfl⟩
 .rintro-_ _ ⟨rfl,rfl⟩;refine⟨_,hs.rd 0 rfl (i:=1) rfl,aM (fun c=>?_) (fun c=>?_)⟩
  .rcases h2 with ⟨e,h0,he,ht⟩ | ⟨h0,_⟩
   .have hl:=(Ya.1 he).1;refine⟨g.he,hs.rd 1 rfl (i:=6) rfl,_,hs.rd 0 rfl (i:=1) rfl,?_⟩;refine (hg.e.rw.ext hs.ext).aD (by omega) (by omega) fun b o d gd u=>?_;replace gd:g.es[m.y.toNat]?=some d:=gd;rw[he] at gd;cases gd;exact⟨_,u.nth 4 rfl,by rw[ht],hs.ext⟩
   .omega
  .rcases h2 with ⟨e,h0,he,ht⟩ | ⟨h0,e⟩
   .omega
   .exact⟨by rw[e],hs.ext⟩
theorem Ae:cI Pz 214 219 2 16=true:=by kernel_rfl
theorem GL{es:List Ed}{role:Int}{i:Nat}{l:List Nat}{k a:Nat}(ga:l[k]?=some a):lJ es role i (l.take (k+1))=lJ es role i (l.take k)++(if (aW role (eA es i)).isSome=true/\aW role (eA es a)=aW role (eA es i) then [⟨(i:Int),(a:Int),(eA es i).t,(eA es a).t⟩] else []):=by
 unfold lJ;cases h:aW role (eA es i) with
 | none=>simp
 | some e=>
  simp only[Option.isSome_some,true_and];rw[aj ga,List.filter_append,Ym];congr 1;by_cases e2:aW role (eA es a)=some e
  .rw[if_pos e2,List.filter_cons_of_pos (by rw[decide_eq_true e2])];rfl
  .rw[if_neg e2,List.filter_cons_of_neg (by rw[decide_eq_false e2];decide)];rfl
def z6C:List Value:=[.int .i64 0,.int .i64 0,.int .i64 0,.int .i64 0,.int .i64 0,.bool false]
theorem MQ{fM hP hX hY h:Heap}{out ra rb:Sl}{L:List aP}{x y:Ed}{role:Int}{a a' i k m Ie KI Mn OM:Nat}{I:Sl->Int->Heap->Nat->Prop}
  (hs:St fM hP (.ae hX.size z6C 67 :: .ae hY.size z6C 67::[.sl out 219 2 (L.map jd)])) (hL:L.length<=1000000) (h1:Ie<fM.size) (h2:Mn<fM.size) (h3:h.size<fM.size)
  (rdA:∀ {h':Heap} {K:Nat->Nat->Prop},Ext fM h'->(∀b o,hc h' ⟨b,o+Int.toNat (i:Int)*1,none⟩=some (.int .i64 (a:Nat))->K b o)->NB ra.a fun b o=>(0<=(i:Int)/\(i:Int)<(ra.n:Nat))/\K b o)
  (rdB:∀ {h':Heap} {K:Nat->Nat->Prop},Ext fM h'->(∀b o,hc h' ⟨b,o+Int.toNat (k:Int)*1,none⟩=some (.int .i64 (a':Nat))->K b o)->NB rb.a fun b o=>(0<=(k:Int)/\(k:Int)<(rb.n:Nat))/\K b o)
  (ca:¬((aW role x).isSome=true/\aW role y=aW role x)->∀h',St fM h' [.sl out 219 2 (L.map jd)]->∃m2,m2<m/\I out (IntKind.wrap .i64 ((k:Int)+1)) h' m2)
  (qM:((aW role x).isSome=true/\aW role y=aW role x)->∀r h',St fM h' [.sl r 219 2 ((L++([⟨(a:Int),(a':Int),x.t,y.t⟩]:List aP)).map jd)]->∃m2,m2<m/\I r (IntKind.wrap .i64 ((k:Int)+1)) h' m2) :
  CW hP hX x.f x.a x.b x.l x.t x.ag Ie KI (a':Nat) Mn OM (k:Nat) h hY y.f y.a y.b y.l y.t y.ag role ra (i:Nat) rb out m I:=by
 unfold CW;have hs9:=hs;refine hs.put 0 rfl (o:=0) (vs:=x.cs) rfl (show 6<=6 by decide) fun LN hs=>⟨aX hs9 hs (aF h1 (aF h2 (aF h3 bg))),?_⟩;refine hs.put 1 rfl (o:=0) (vs:=y.cs) rfl (show 6<=6 by decide) fun Xj hs=>?_;replace hs:St fM Xj (.ae hX.size x.cs 67 :: .ae hY.size y.cs 67::[.sl out 219 2 (L.map jd)]):=hs;clear hs9;refine⟨_,_,_,_,_,_,hs.at 0 rfl (o:=0) (n:=6) rfl,?_⟩;refine (mL x role Xj).mono ?_;rintro _ Xi ⟨rfl,E1⟩;have hs:=hs.step E1;refine⟨_,rfl,aa (fun c=>?_) (fun c=>ca (fun h9=>by rw[h9.1] at c;cases c) Xi (hs.drop 2))⟩;refine⟨_,_,_,_,_,_,hs.at 1 rfl (o:=0) (n:=6) rfl,?_⟩;refine (mL y role Xi).mono ?_;rintro _ Xf ⟨rfl,E2⟩;have hs:=hs.step E2;refine⟨_,rfl,E2.sm,aa (fun c2=>?_) (fun c2=>ca (fun h9=>by rw[h9.2,h9.1] at c2;cases c2) Xf (hs.drop 2))⟩;obtain⟨ex,hex⟩:=Option.isSome_iff_exists.1 c;obtain⟨ey,hey⟩:=Option.isSome_iff_exists.1 c2;refine⟨_,_,_,_,_,_,hs.at 0 rfl (o:=0) (n:=6) rfl,_,_,_,_,_,_,hs.at 1 rfl (o:=0) (n:=6) rfl,?_⟩;refine (pJ x role ex hex Xf).mono ?_;rintro _ zQ ⟨rfl,E3⟩;have hs:=hs.step E3;refine⟨_,_,_,_,⟨none,0,0⟩,rfl,E3.sm,?_⟩;refine (pJ y role ey hey zQ).mono ?_;rintro _ zP ⟨rfl,E4⟩;have hs:=hs.step E4;refine⟨_,_,_,_,⟨none,0,0⟩,rfl,E4.sm,?_⟩;refine (qb role ex ey zP).mono ?_;rintro _ adH ⟨rfl,E5⟩;have hs:=hs.step E5;refine⟨_,rfl,E5.sm,aa (fun c3=>?_) (fun c3=>ca (fun h9=>?_) adH (hs.drop 2))⟩
 .have Lh:=cd c3;refine rdA hs.ext fun b o u=>⟨_,u,rdB hs.ext fun b o u=>⟨_,u,?_⟩⟩;unfold tT;have zJ:=(hs.len 2 (s:=out) rfl (by decide)).1;rw[Yc] at zJ;refine hs.app 2 rfl Ae (m:=1) [jd ⟨(a:Int),(a':Int),x.t,y.t⟩] rfl rfl (fun r hr=>by rw[Ye] at hr;rw[hr];rfl) rfl (by omega) (by simp only[maxLen];omega) fun r NP nr hs=>?_;refine qM ⟨c,by rw[hex,hey,Lh]⟩ r NP ?_;rw[Ym];exact hs.drop 2
 .have e9:=h9.2;rw[hex,hey] at e9;have:=fH e9;subst this;rw[decide_eq_true rfl] at c3;cases c3
theorem GF(g:Gl)(role:Int)(s t:Nat)(h:Heap)(hg:GI h g)(hV:af g):Fn Pz 114 #[g.v,.int .i64 role,.int .i64 (s:Nat),.int .i64 (t:Nat)] h fun v h'=>∃r:Sl,v=.slice r.a r.n r.c/\St h h' [.sl r 219 2 ((bq g.es role s t).map jd)]:=by
 apply UX (bs g.nm) g.hr g.hd g.n g.s g.e g.he g.ht role (s:Nat) (t:Nat);unfold aah;have hM:=hV.num.m;have ki:=hg.e.ln;refine (St.refl h).ak fun h9 hs=>?_;refine⟨_,_,_,_,_,_,_,_,hs.at 0 rfl (o:=0) (n:=8) rfl,_,_,_,_,_,_,_,_,hs.at 0 rfl (o:=0) (n:=8) rfl,?_⟩;refine (sX g (s:Nat) h9 (hg.ext hs.ext)).mono ?_;rintro _ JW ⟨E1,ra,rfl,Nu⟩;have hs:=hs.step E1;refine⟨ra,rfl,E1.sm,?_⟩;refine (sX g (t:Nat) JW (hg.ext hs.ext)).mono ?_;rintro _ fM ⟨E2,rb,rfl,hrb⟩;have hs:=hs.step E2;refine⟨rb,rfl,E2.sm,?_⟩;have Nu:=Nu.ext E2;have VL:hc fM ⟨h.size,6,none⟩=some (.slice g.he.a g.he.n g.he.c):=hs.rd 0 rfl (i:=6) rfl;have acK:=hg.ext hs.ext;have sj:=hs.drop 1;have na:ra.n=(ah g.es (s:Nat)).length:=by have:=Nu.ln;rwa [show (aw (ah g.es (s:Nat))).length=(ah g.es (s:Nat)).length from Yc _] at this
 have nb:rb.n=(ah g.es (t:Nat)).length:=by have:=hrb.ln;rwa [show (aw (ah g.es (t:Nat))).length=(ah g.es (t:Nat)).length from Yc _] at this
 have la:=cA g.es (s:Nat);have lb:=cA g.es (t:Nat);have rd:∀ {l:List Nat} {sl:Sl} {k a:Nat} {h':Heap} {K:Nat->Nat->Prop},Rw fM 1 sl ((aw l).map aO)->sl.n=l.length->l[k]?=some a->Ext fM h'->(∀b o,hc h' ⟨b,o+Int.toNat (k:Int)*1,none⟩=some (.int .i64 (a:Nat))->b<fM.size->K b o)->NB sl.a fun b o=>(0<=(k:Int)/\(k:Int)<(sl.n:Nat))/\K b o:=fun {l sl k a h' K} hl hn gt X hK=>by
  have qP:=(Ya.1 gt).1;have gI:(aw l)[k]?=some (a:Int):=by unfold aw;rw[Yd,gt];rfl
  refine hl.aD (by omega) (by omega) fun b o d gd u=>?_;replace gd:(aw l)[k]?=some d:=gd;rw[gI] at gd;cases gd;exact hK b o (ay X (u.nth 0 rfl)) (et (u.nth 0 rfl))
 have JJ:∀ {a:Nat} {x:Ed} {h':Heap} {K:Nat->Nat->Prop},g.es[a]?=some x->Ext fM h'->(∀b o,a6 h' ⟨b,o+Int.toNat (a:Int)*6,none⟩ x.cs->b<fM.size->K b o)->NB g.he.a fun b o=>(0<=(a:Int)/\(a:Int)<(g.he.n:Nat))/\K b o:=fun {a x h' K} gx X hK=>by
  have qP:=(Ya.1 gx).1;refine acK.e.rw.aD (by omega) (by omega) fun b o d gd u=>?_;replace gd:g.es[a]?=some d:=gd;rw[gx] at gd;cases gd;exact hK b o (mi X u) (et (u.nth 0 rfl))
 have qt:∀ {a:Nat} {x:Ed},g.es[a]?=some x->AW g.es role a=!(aW role x).isSome:=fun {a x} gx=>by
  unfold AW;rw[aK gx];cases aW role x<;>rfl
 have l1:∀k,(kZ g.es role t ((ah g.es (s:Nat)).take k)).length<=400:=fun k=>by
  have h1:=uD (es:=g.es) (role:=role) (t:=t) (l:=(ah g.es (s:Nat)).take k);rw[Yu] at h1;omega
 have l2:∀k,(oZ g.es role s ((ah g.es (t:Nat)).take k)).length<=400:=fun k=>by
  have h1:=uF (es:=g.es) (role:=role) (t:=s) (l:=(ah g.es (t:Nat)).take k);rw[Yu] at h1;omega
 have dC:=(St.refl fM).bJ 219 2;refine⟨fun out x h' μ=>∃i:Nat,x=(i:Int)/\μ=ra.n-i/\i<=ra.n/\St fM h' [.sl out 219 2 ((kZ g.es role t ((ah g.es (s:Nat)).take i)).map jd)],⟨_,0,rfl,rfl,Nat.zero_le _,by rw[mq];exact dC⟩,?_⟩;clear hs dC;rintro-out _ pI μ ⟨i,rfl,rfl,hi,hs⟩;refine aM (fun c=>?_) (fun c=>?_)
 .obtain⟨a,ga⟩:=get_some (l:=ah g.es (s:Nat)) (i:=i) (by omega);obtain⟨x,gx,_⟩:=aA.1 (Yb ga);refine⟨g.he,ay hs.ext VL,rd Nu na ga hs.ext fun b o u _=>⟨_,u,JJ gx hs.ext fun b o u _=>⟨_,_,_,_,_,_,u,?_⟩⟩⟩;refine (mL x role pI).mono ?_;rintro _ zM ⟨rfl,E⟩;have hs:=hs.step E;have zJ:=(hs.len 0 (s:=out) rfl (by decide)).1;rw[Yc] at zJ;have xn:=l1 i;refine⟨_,rfl,aa (fun c2=>?_) (fun c2=>?_)⟩
  .refine rd Nu na ga hs.ext fun b o u _=>⟨_,u,?_⟩;unfold tT;refine hs.app 0 rfl Ae (m:=1) [jd ⟨(a:Int),-1,(eA g.es a).t,(t:Nat)⟩] rfl rfl (fun r hr=>by rw[Ye] at hr;rw[hr];rfl) rfl (by omega) (by simp only[maxLen];omega) fun r NP nr hs=>?_;refine⟨_,(show ra.n-(i+1)<ra.n-i by omega),i+1,by rw[a7 (by omega) (by omega)];omega,rfl,by omega,?_⟩;rw[lH ga,qt gx,if_pos c2,Ym];exact hs
  .refine⟨_,(show ra.n-(i+1)<ra.n-i by omega),i+1,by rw[a7 (by omega) (by omega)];omega,rfl,by omega,?_⟩;rw[lH ga,qt gx,if_neg (by rw[c2];decide),Yw];exact hs
 rw[Yj (by omega)] at hs;refine⟨fun out x h' μ=>∃i:Nat,x=(i:Int)/\μ=rb.n-i/\i<=rb.n/\St fM h' [.sl out 219 2 ((kZ g.es role t (ah g.es (s:Nat))++oZ g.es role s ((ah g.es (t:Nat)).take i)).map jd)],⟨_,0,rfl,rfl,Nat.zero_le _,by rw[mq,show oZ g.es role s []=[] from rfl,Yw];exact hs⟩,?_⟩;clear hs c;have l1':(kZ g.es role t (ah g.es (s:Nat))).length<=400:=by have:=l1 (ah g.es (s:Nat)).length;rwa [yd] at this
 rintro-out _ xr μ ⟨i,rfl,rfl,hi,hs⟩;refine aM (fun c=>?_) (fun c=>?_)
 .obtain⟨a,ga⟩:=get_some (l:=ah g.es (t:Nat)) (i:=i) (by omega);obtain⟨x,gx,_⟩:=aA.1 (Yb ga);refine⟨g.he,ay hs.ext VL,rd hrb nb ga hs.ext fun b o u _=>⟨_,u,JJ gx hs.ext fun b o u _=>⟨_,_,_,_,_,_,u,?_⟩⟩⟩;refine (mL x role xr).mono ?_;rintro _ zK ⟨rfl,E⟩;have hs:=hs.step E;have zJ:=(hs.len 0 (s:=out) rfl (by decide)).1;rw[Yc,Yh] at zJ;have ig:=l2 i;refine⟨_,rfl,aa (fun c2=>?_) (fun c2=>?_)⟩
  .refine rd hrb nb ga hs.ext fun b o u _=>⟨_,u,?_⟩;unfold tT;refine hs.app 0 rfl Ae (m:=1) [jd ⟨-1,(a:Int),(s:Nat),(eA g.es a).t⟩] rfl rfl (fun r hr=>by rw[Ye] at hr;rw[hr];rfl) rfl (by omega) (by simp only[maxLen];omega) fun r vH nr hs=>?_;refine⟨_,(show rb.n-(i+1)<rb.n-i by omega),i+1,by rw[a7 (by omega) (by omega)];omega,rfl,by omega,?_⟩;rw[lI ga,qt gx,if_pos c2,<-Yz,Ym];exact hs
  .refine⟨_,(show rb.n-(i+1)<rb.n-i by omega),i+1,by rw[a7 (by omega) (by omega)];omega,rfl,by omega,?_⟩;rw[lI ga,qt gx,if_neg (by rw[c2];decide),Yw];exact hs
 rw[Yj (by omega)] at hs;have l2':(oZ g.es role s (ah g.es (t:Nat))).length<=400:=by have:=l2 (ah g.es (t:Nat)).length;rwa [yd] at this
 refine⟨fun out x h' μ=>∃i:Nat,x=(i:Int)/\μ=ra.n-i/\i<=ra.n/\St fM h' [.sl out 219 2 ((kZ g.es role t (ah g.es (s:Nat))++oZ g.es role s (ah g.es (t:Nat))++kI g.es role ((ah g.es (s:Nat)).take i) (ah g.es (t:Nat))).map jd)],⟨_,0,rfl,rfl,Nat.zero_le _,by rw[mq,show kI g.es role [] (ah g.es (t:Nat))=[] from rfl,Yw];exact hs⟩,?_⟩;clear hs c;rintro-out _ h95 μ ⟨i,rfl,rfl,hi,hs⟩;have lb1:(kI g.es role ((ah g.es (s:Nat)).take i) (ah g.es (t:Nat))).length<=160000:=by
  have h1:=po (es:=g.es) (role:=role) (l:=(ah g.es (s:Nat)).take i) (m:=ah g.es (t:Nat));have h2:((ah g.es (s:Nat)).take i).length*(ah g.es (t:Nat)).length<=400*400:=Nat.mul_le_mul (by rw[Yu];omega) (by omega);omega
 refine aM (fun c=>?_) (fun c=>?_)
 .obtain⟨a,ga⟩:=get_some (l:=ah g.es (s:Nat)) (i:=i) (by omega);obtain⟨x,gx,_⟩:=aA.1 (Yb ga);refine⟨fun out y h' μ'=>∃k:Nat,y=(k:Int)/\μ'=rb.n-k/\k<=rb.n/\St fM h' [.sl out 219 2 ((kZ g.es role t (ah g.es (s:Nat))++oZ g.es role s (ah g.es (t:Nat))++kI g.es role ((ah g.es (s:Nat)).take i) (ah g.es (t:Nat))++lJ g.es role a ((ah g.es (t:Nat)).take k)).map jd)],⟨_,0,rfl,rfl,Nat.zero_le _,by rw[mq,show lJ g.es role a []=[] by unfold lJ;split<;>rfl,Yw];exact hs⟩,?_⟩;clear hs;rintro-out _ h101 μ' ⟨k,rfl,rfl,hk,hs⟩;refine aM (fun c2=>?_) (fun c2=>?_)
  .obtain⟨a',SY⟩:=get_some (l:=ah g.es (t:Nat)) (i:=k) (by omega);obtain⟨y,gy,_⟩:=aA.1 (Yb SY);have qN:IntKind.wrap .i64 ((k:Int)+1)=((k+1:Nat):Int):=by rw[a7 (by omega) (by omega)];omega
   have lb2:(lJ g.es role a ((ah g.es (t:Nat)).take k)).length<=400:=mn pE (by rw[Yu];omega);have skip:¬((aW role x).isSome=true/\aW role y=aW role x)->∀h',St fM h' [.sl out 219 2 ((kZ g.es role t (ah g.es (s:Nat))++oZ g.es role s (ah g.es (t:Nat))++kI g.es role ((ah g.es (s:Nat)).take i) (ah g.es (t:Nat))++lJ g.es role a ((ah g.es (t:Nat)).take k)).map jd)]->∃m',m'<rb.n-k/\∃k':Nat,IntKind.wrap .i64 ((k:Int)+1)=(k':Int)/\m'=rb.n-k'/\k'<=rb.n/\St fM h' [.sl out 219 2 ((kZ g.es role t (ah g.es (s:Nat))++oZ g.es role s (ah g.es (t:Nat))++kI g.es role ((ah g.es (s:Nat)).take i) (ah g.es (t:Nat))++lJ g.es role a ((ah g.es (t:Nat)).take k')).map jd)]:=fun ca h' bL=>by
    refine⟨_,(show rb.n-(k+1)<rb.n-k by omega),k+1,qN,rfl,by omega,?_⟩;rw[GL SY,aK gx,aK gy,if_neg ca,Yw];exact bL
   refine⟨g.he,ay hs.ext VL,rd Nu na ga hs.ext fun YF Vy u1 q1=>⟨_,u1,JJ gx hs.ext fun YE Vx u2 q2=>⟨_,_,_,_,_,_,u2,g.he,ay hs.ext VL,rd hrb nb SY hs.ext fun Mn OM u3 q3=>⟨_,u3,JJ gy hs.ext fun Ie KI u4 q4=>⟨_,_,_,_,_,_,u4,?_⟩⟩⟩⟩⟩;have hgl:h.size<fM.size:=et VL;have qM:((aW role x).isSome=true/\aW role y=aW role x)->∀r h',St fM h' [.sl r 219 2 ((kZ g.es role t (ah g.es (s:Nat))++oZ g.es role s (ah g.es (t:Nat))++kI g.es role ((ah g.es (s:Nat)).take i) (ah g.es (t:Nat))++lJ g.es role a ((ah g.es (t:Nat)).take k)++([⟨(a:Int),(a':Int),x.t,y.t⟩]:List aP)).map jd)]->∃m',m'<rb.n-k/\∃k':Nat,IntKind.wrap .i64 ((k:Int)+1)=(k':Int)/\m'=rb.n-k'/\k'<=rb.n/\St fM h' [.sl r 219 2 ((kZ g.es role t (ah g.es (s:Nat))++oZ g.es role s (ah g.es (t:Nat))++kI g.es role ((ah g.es (s:Nat)).take i) (ah g.es (t:Nat))++lJ g.es role a ((ah g.es (t:Nat)).take k')).map jd)]:=fun hc r h' bL=>by
    refine⟨_,(show rb.n-(k+1)<rb.n-k by omega),k+1,qN,rfl,by omega,?_⟩;rw[GL SY,aK gx,aK gy,if_pos hc,<-Yz];exact bL
   have hLL:(kZ g.es role t (ah g.es (s:Nat))++oZ g.es role s (ah g.es (t:Nat))++kI g.es role ((ah g.es (s:Nat)).take i) (ah g.es (t:Nat))++lJ g.es role a ((ah g.es (t:Nat)).take k)).length<=1000000:=by
    rw[Yh,Yh,Yh];omega
   have AL:∀z∈([⟨Ie,KI+Int.toNat (a':Int)*6,none⟩,⟨Mn,OM+Int.toNat (k:Int)*1,none⟩,⟨h.size,6,none⟩,⟨YE,Vx+Int.toNat (a:Int)*6,none⟩,⟨YF,Vy+Int.toNat (i:Int)*1,none⟩,⟨h.size,6,none⟩]:List Addr),z.block<fM.size:=aF q4 (aF q3 (aF hgl (aF q2 (aF q1 (aF hgl bg)))));refine⟨fun Xk aeB=>?_,fun Xe Mc=>?_⟩
   .have s1:=hs.dh aeB;refine⟨aX hs s1 AL,fun adU aeA=>?_⟩;have s2:=s1.dh aeA;exact⟨aX s1 s2 AL,MQ (s2.perm (List.Perm.swap _ _ _)) hLL q4 q3 hgl (fun X hK=>rd Nu na ga X fun b o u _=>hK b o u) (fun X hK=>rd hrb nb SY X fun b o u _=>hK b o u) skip qM⟩
   .have s1:=hs.dh Mc;refine⟨aX hs s1 AL,fun P7 aew=>?_⟩;have s2:=s1.dh aew;exact⟨aX s1 s2 AL,MQ s2 hLL q4 q3 hgl (fun X hK=>rd Nu na ga X fun b o u _=>hK b o u) (fun X hK=>rd hrb nb SY X fun b o u _=>hK b o u) skip qM⟩
  .rw[Yj (l:=ah g.es (t:Nat)) (i:=k) (by omega)] at hs;refine⟨_,(show ra.n-(i+1)<ra.n-i by omega),i+1,by rw[a7 (by omega) (by omega)];omega,rfl,by omega,?_⟩;rw[qF ga,<-Yz];exact hs
 .rw[Yj (by omega)] at hs;exact⟨out,rfl,sj.join hs⟩
theorem gY{α:Type}{n:Nat}(f:Nat->α){s:Nat}(hs:s<n):((List.range n).map f)[s]?=some (f s):=by rw[Yd,ye hs];rfl
theorem uk{g:Gl}(hV:af g){role:Int}{s:Nat}(h:oz g role (s:Nat)):(Du g.es g.ts role g.n.toNat)[s]?=some ⟨dU g.es s,(cu g role g.ts s).k,(cu g role g.ts s).x⟩:=by
 obtain⟨x,hx,hf,ha⟩:=h;obtain⟨_,t,ht,hT⟩:=qs hV hx ha;rw[hf,Ys] at ht;rw[ht,FF hV hT (K6 hV hx ha hf)]
theorem lG{es:List Ed}{role:Int}{s:Nat}{g:Gl}(he:es=g.es):dQ es role s=true ↔ oz g role (s:Nat):=by
 subst he;unfold dQ oz;rw[List.any_eq_true];constructor
 .rintro⟨x,hx,h⟩;rw[Yt,decide_eq_true_eq,decide_eq_true_eq] at h;exact⟨x,hx,h⟩
 .rintro⟨x,hx,h1,h2⟩;exact⟨x,hx,by rw[Yt,decide_eq_true_eq,decide_eq_true_eq];exact⟨h1,h2⟩⟩
theorem QM{g:Gl}(hV:af g){role:Int}{s t:Nat}(hs:s<g.n.toNat)(ht:t<g.n.toNat):QN g role s t ↔ JE g role (s:Nat) (t:Nat):=by
 unfold QN MF JE;rw[gY _ hs,gY _ ht,gY _ hs,gY _ ht,gY _ hs,gY _ ht,Ys,Ys];constructor
 .rintro⟨h1,h2,h3⟩;have o1:=(lG (g:=g) rfl).1 (fH h1);have o2:=(lG (g:=g) rfl).1 (fH h2);refine⟨o1,o2,?_⟩;rw[uk hV o1,uk hV o2];intro e;have e:=fH e;simp only[Ti.mk.injEq] at e;rcases h3 with h3 | h3
  .refine h3 (congrArg some ?_);cases hl:cu g role g.ts s;cases k8:cu g role g.ts t;rw[hl,k8] at e;simp only at e;rw[e.2.1,e.2.2]
  .exact h3 (congrArg some e.1)
 .rintro⟨o1,o2,h3⟩;refine⟨congrArg some ((lG (g:=g) rfl).2 o1),congrArg some ((lG (g:=g) rfl).2 o2),?_⟩;rw[uk hV o1,uk hV o2] at h3;by_cases e1:cu g role g.ts s=cu g role g.ts t
  .refine .inr fun e2=>h3 ?_;rw[fH e2,e1]
  .exact .inl fun e2=>e1 (fH e2)
/-! ### views are what histories lead to -/


structure VfM (h:Heap) (g:Gl) (role:Int) (ev en ar:Sl) (E:List (Sl × List Ev)) (B:List Bool) (MS:List (Sl × List gD)):Prop where
 rv:Rw h 1 ev ((E.map Prod.fst).map eC)
 rn:Rw h 1 en (B.map bC)
 ra:Rw h 1 ar ((MS.map Prod.fst).map eC)
 re:∀q∈E,Rw h 5 q.1 (q.2.map (aC role))
 rm:∀q∈MS,Rw h 4 q.1 (q.2.map rC)
theorem VfM.ext{h h':Heap}{g:Gl}{role:Int}{ev en ar:Sl}{E:List (Sl × List Ev)}{B:List Bool}{MS:List (Sl × List gD)}(hm:VfM h g role ev en ar E B MS)(X:Ext h h'):VfM h' g role ev en ar E B MS:=
 ⟨hm.rv.ext X,hm.rn.ext X,hm.ra.ext X,fun q hq=>(hm.re q hq).ext X,fun q hq=>(hm.rm q hq).ext X⟩
structure RB (g:Gl) (role:Int) (E:List (Sl × List Ev)) (B:List Bool) (MS:List (Sl × List gD)):Prop where
 e:∀s:Nat,s<g.n.toNat->∃q,E[s]?=some q/\q.2=az g role (s:Nat)
 b:∀s:Nat,s<g.n.toNat->B[s]?=some (bP g role (s:Nat))
 m:∀s:Nat,s<g.n.toNat->∃q,MS[s]?=some q/\q.2.map cq=du g role s
 p:∀q∈MS,∀a∈q.2,a.2.2.n=a.2.1.path.length
 l:∀q∈MS,q.2.length<=1048576
 le:∀s:Int,(az g role s).length<=400
theorem RB.of{g:Gl}(hV:af g){role:Int}{E:List (Sl × List Ev)}{B:List Bool}{MS:List (Sl × List gD)}{R:List It}(hA:Tf g role E B g.n.toNat)(hM:yn g role (du g role) R MS)(hl:∀q∈MS,q.2.length<=160000){h0 h:Heap}{L:List It}(hs:St h0 h L)(hR:∀i∈R,i∈L):RB g role E B MS:=by
 refine⟨fun s dC=>?_,fun s dC=>?_,fun s dC=>?_,fun q hq a ha=>?_,fun q hq=>by have:=hl q hq;omega,fun s=>Cd hV⟩
 .have h1:=aR hA.e dC;rw[Yd] at h1;obtain⟨q,hq,e⟩:=sH.1 h1;exact⟨q,hq,e⟩
 .exact aR hA.b dC
 .obtain⟨q,hq⟩:=get_some (l:=MS) (i:=s) (by rw[hM.l];exact dC);exact⟨q,hq,hM.s s q hq⟩
 .have h1:=(hM.p q hq a ha).1;have h2:Rw h 3 a.2.2 (a.2.1.path.map Ac.cs):=hs.nO (e:=65) (hR _ h1) (by decide);exact h2.ln
theorem ES{b o:Nat}{F:Nat->Nat->Prop}(h:F b o):NB (some ⟨b,o,none⟩) F:=h
def bS(n:Nat)(p:Pr):Nat:=n*p.1+p.2
theorem dE{n:Nat}{p:Pr}(h1:p.1<n)(h2:p.2<n):bS n p<n*n:=by
 unfold bS;have:n*p.1+n<=n*n:=by
  have h:=Nat.mul_le_mul_left n (show p.1+1<=n by omega);rw[Nat.mul_add,Nat.mul_one] at h;exact h
 omega
theorem oX{n:Nat}{p:Pr}(h2:p.2<n):bS n p/n=p.1:=by
 unfold bS;rw[Nat.mul_add_div (by omega),Nat.div_eq_of_lt h2];rfl
theorem oV{n:Nat}{p:Pr}(h2:p.2<n):bS n p%n=p.2:=by
 unfold bS;rw[Nat.mul_add_mod,Nat.mod_eq_of_lt h2]
theorem oW{n:Nat}{p q:Pr}(h1:p.2<n)(h2:q.2<n)(e:bS n p=bS n q):p=q:=by
 refine Prod.ext ?_ ?_
 .rw[<-oX h1,<-oX h2,e]
 .rw[<-oV h1,<-oV h2,e]
theorem set_perm{α:Type}{L:List α}{k:Nat}{a x:α}(h:L[k]?=some a):(L++[x]).Perm (L.set k x++[a]):=by
 obtain⟨U,V,rfl,rfl⟩:=pX h;rw[List.set_append_right _ _ (bc _),Nat.sub_self];simp only[List.set_cons_zero,Yz,List.cons_append];refine List.Perm.append_left _ ?_;refine (List.Perm.cons _ List.perm_append_comm).trans ?_;refine (List.Perm.swap _ _ _).trans (List.Perm.cons _ ?_);exact (List.perm_append_comm (l₁:=[a]))
structure Az (g:Gl) (role:Int) (i c:Nat) (A:List Pr) (BL:List Bool) (MV:List (Sl × List aP)):Prop where
 nd:A.Nodup
 pr:∀p∈A,dB g role p
 st:eM g∈A
 bl:BL=(List.range (g.n.toNat*g.n.toNat)).map fun k=>decide (∃p∈A,bS g.n.toNat p=k)
 ml:MV.length=g.n.toNat*g.n.toNat
 m1:∀(j:Nat) p,j<c->A[j]?=some p->∃q,MV[bS g.n.toNat p]?=some q/\q.2=bq g.es role p.1 p.2
 m0:∀(k:Nat) q,MV[k]?=some q->(∀(j:Nat) p,j<c->A[j]?=some p->bS g.n.toNat p≠k)->q.2=[]
 cl:∀(j:Nat) p,j<i->A[j]?=some p->∀m∈bq g.es role p.1 p.2,bj m∈A
theorem dB.nU{g:Gl}(hV:af g){role:Int}{p:Pr}(h:dB g role p):p.1<g.n.toNat/\p.2<g.n.toNat:=by
 have:=h.lt hV;omega
theorem Az.seen{g:Gl}(hV:af g){role:Int}{i c:Nat}{A:List Pr}{BL:List Bool}{MV:List (Sl × List aP)}(h:Az g role i c A BL MV){p:Pr}(h1:p.1<g.n.toNat)(h2:p.2<g.n.toNat):BL[bS g.n.toNat p]?=some (decide (p∈A)):=by
 rw[h.bl,gY _ (dE h1 h2)];congr 1;rw[decide_eq_decide];constructor
 .rintro⟨q,hq,e⟩;have:=oW ((h.pr q hq).nU hV).2 h2 e;rw[<-this];exact hq
 .intro hp;exact⟨p,hp,rfl⟩
theorem Az.len{g:Gl}(hV:af g){role:Int}{i c:Nat}{A:List Pr}{BL:List Bool}{MV:List (Sl × List aP)}(h:Az g role i c A BL MV):A.length<=g.n.toNat*g.n.toNat:=l4 h.nd fun p hp=>(h.pr p hp).nU hV
theorem Az.mov{g:Gl}(hV:af g){role:Int}{i:Nat}{A:List Pr}{BL:List Bool}{MV:List (Sl × List aP)}(h:Az g role i i A BL MV){p:Pr}(hp:A[i]?=some p)(r:Sl):Az g role i (i+1) A BL (MV.set (bS g.n.toNat p) (r,bq g.es role p.1 p.2)):=by
 have dz:=(h.pr p (Yb hp)).nU hV;have bR:bS g.n.toNat p<MV.length:=by rw[h.ml];exact dE dz.1 dz.2
 refine⟨h.nd,h.pr,h.st,h.bl,by rw[jT];exact h.ml,fun j q hj hq=>?_,fun k q hq ca=>?_,h.cl⟩
 .by_cases e:j=i
  .subst e;rw[hp] at hq;cases hq;exact⟨_,Yq bR,rfl⟩
  .have sn:=(h.pr q (Yb hq)).nU hV;have bH:bS g.n.toNat p≠bS g.n.toNat q:=fun e2=>by
    have:=oW dz.2 sn.2 e2;subst this;exact e (eF h.nd hq hp)
   rw[Yy bH];exact h.m1 j q (by omega) hq
 .have bH:bS g.n.toNat p≠k:=ca i p (by omega) hp;rw[Yy bH] at hq;exact h.m0 k q hq fun j p' hj pH=>ca j p' (by omega) pH
theorem Az.push{g:Gl}(hV:af g){role:Int}{i c:Nat}{A:List Pr}{BL:List Bool}{MV:List (Sl × List aP)}(h:Az g role i c A BL MV)(hi:i<=A.length)(hc:c<=A.length){p:Pr}(ca:p∉A)(hr:dB g role p):Az g role i c (A++[p]) (BL.set (bS g.n.toNat p) true) MV:=by
 have dz:=hr.nU hV;have qx:∀ {j:Nat} {q:Pr},j<A.length->(A++[p])[j]?=some q->A[j]?=some q:=fun hj hq=>by rwa [jw hj] at hq
 refine⟨?_,fun x hx=>?_,List.mem_append_left _ h.st,?_,h.ml,fun j q hj hq=>h.m1 j q hj (qx (by omega) hq),fun k q hq hn=>h.m0 k q hq fun j p' hj pH=>hn j p' hj (by rw[jw (by omega)];exact pH),fun j q hj hq m hm=>List.mem_append_left _ (h.cl j q hj (qx (by omega) hq) m hm)⟩
 .rw[List.nodup_append];exact⟨h.nd,by simp,fun a ha b hb e=>by rw[Ye] at hb;subst hb;subst e;exact ca ha⟩
 .rcases Yk.1 hx with hx | hx
  .exact h.pr x hx
  .rw[Ye] at hx;rw[hx];exact hr
 .rw[h.bl];refine cK (dE dz.1 dz.2) (decide_eq_true ⟨p,List.mem_append_right _ (Ye.2 rfl),rfl⟩) fun k hk=>?_;rw[decide_eq_decide];constructor
  .rintro⟨q,hq,e⟩;rcases Yk.1 hq with hq | hq
   .exact⟨q,hq,e⟩
   .rw[Ye] at hq;subst hq;exact absurd e.symm hk
  .rintro⟨q,hq,e⟩;exact⟨q,List.mem_append_left _ hq,e⟩
structure Tb (g:Gl) (role:Int) (BL:List Bool) (MV:List (Sl × List aP)):Prop where
 bl:BL.length=g.n.toNat*g.n.toNat
 ml:MV.length=g.n.toNat*g.n.toNat
 b:∀p:Pr,p.1<g.n.toNat->p.2<g.n.toNat->∃b,BL[bS g.n.toNat p]?=some b/\(b=true ↔ dB g role p)
 m:∀p:Pr,p.1<g.n.toNat->p.2<g.n.toNat->∃q,MV[bS g.n.toNat p]?=some q/\(dB g role p->q.2=bq g.es role p.1 p.2)/\(¬dB g role p->q.2=[])
theorem Az.done{g:Gl}(hV:af g){role:Int}{A:List Pr}{BL:List Bool}{MV:List (Sl × List aP)}(h:Az g role A.length A.length A BL MV):Tb g role BL MV:=by
 have eH:∀p,p∈A ↔ dB g role p:=fun p=>⟨h.pr p,fun hp=>by
  induction hp with
  | start=>exact h.st
  | step _ hm ih=>
   obtain⟨j,hj⟩:=Yf.1 ih;exact h.cl j _ (Ya.1 hj).1 hj _ hm⟩
 refine⟨by rw[h.bl];simp,h.ml,fun p h1 h2=>⟨_,h.seen hV h1 h2,by rw[decide_eq_true_eq,eH]⟩,fun p h1 h2=>?_⟩;obtain⟨q,hq⟩:=get_some (l:=MV) (i:=bS g.n.toNat p) (by rw[h.ml];exact dE h1 h2);refine⟨q,hq,fun hp=>?_,fun hp=>?_⟩
 .obtain⟨j,hj⟩:=Yf.1 ((eH p).2 hp);obtain⟨q',pF,e⟩:=h.m1 j p (Ya.1 hj).1 hj;rw[hq] at pF;cases pF;exact e
 .refine h.m0 _ q hq fun j p' hj pH e=>hp ?_;have hm:=h.pr p' (Yb pH);have:=oW (hm.nU hV).2 h2 e;rw[<-this];exact hm
def LW(sb rb mb N n:Nat)(l:Sl)(G:List It)(BL:List Bool)(MV:List (Sl × List aP))(A:List Pr):List It:=
 .ae sb [.slice (some ⟨rb,0,none⟩) N N,.slice (some ⟨mb,0,none⟩) N N] 115 :: .ae rb (BL.map Value.bool) 4 :: .ae mb ((MV.map Prod.fst).map eO) 214 :: .sl l 3 1 ((aw (A.map (bS n))).map aO)::(G++MV.map (nest 219 2 jd))
theorem ir{α:Type}(f:α->Value):∀l:List α,l.map f=(l.map fun x=>[f x]).flatten
 | []=>rfl
 | x::l=>by rw[gG,gG,ox,<-ir f l];rfl
theorem HL{α:Type}{a B M c d e:α}{N:List α}:(a::B::M::c::d::e::N).Perm ((B::M::N)++[a,c,d,e]):=by
 refine (List.Perm.swap _ _ _).trans (.cons _ ((List.Perm.swap _ _ _).trans (.cons _ ?_)));exact List.perm_append_comm (l₁:=[a,c,d,e])
theorem abK{hX hS hR hM h h9:Heap}{g:Gl}{role:Int}{K:Value->Heap->Prop}
  (hs:St h hX (.ae hS.size [.slice none 0 0,.slice none 0 0] 115 :: .ae hR.size ((List.replicate (g.n.toNat*g.n.toNat) false).map Value.bool) 4 :: .ae hM.size ((List.replicate (g.n.toNat*g.n.toNat) (⟨none,0,0⟩:Sl)).map eO) 214::[.ae h9.size [.slice none 0 0,.slice none 0 0] 115,.ae h.size g.cs 27])) (hg:GI h g) (hV:af g)
  (hK:∀(BL:List Bool) (MV:List (Sl × List aP)) (h':Heap),Tb g role BL MV->St h h' (.sl ⟨some ⟨hR.size,0,none⟩,g.n.toNat*g.n.toNat,g.n.toNat*g.n.toNat⟩ 4 1 (BL.map bC) :: .sl ⟨some ⟨hM.size,0,none⟩,g.n.toNat*g.n.toNat,g.n.toNat*g.n.toNat⟩ 214 1 ((MV.map Prod.fst).map eC)::MV.map (nest 219 2 jd))->K (.agg ⟨[.slice (some ⟨hR.size,0,none⟩) (g.n.toNat*g.n.toNat) (g.n.toNat*g.n.toNat),.slice (some ⟨hM.size,0,none⟩) (g.n.toNat*g.n.toNat) (g.n.toNat*g.n.toNat)]⟩) h') :
  vh hX hS hR g.n g.n hM g.n g.n h role h9 K:=by
 unfold vh;have hN:=hV.num.n;have PT:=hV.num.m;have hn:g.n=((g.n.toNat:Nat):Int):=by omega
 have jm:g.s=((g.s.toNat:Nat):Int):=by omega
 generalize xl:g.n.toNat=n at *;have BK:n<=200:=by omega
 have hNN:n*n<=200*200:=Nat.mul_le_mul BK BK;have hmul:∀a b:Nat,a<n->b<n->IntKind.wrap .i64 (IntKind.wrap .i64 (((a:Nat):Int)*g.n)+((b:Nat):Int))=((bS n (a,b):Nat):Int):=fun a b ha hb=>by
  have h1:=dE (n:=n) (p:=(a,b)) ha hb;unfold bS at h1 ⊢;simp only at h1 ⊢;have h2:((a:Nat):Int)*g.n=((n*a:Nat):Int):=by rw[hn,Int.mul_comm];rfl
  rw[h2,a7 (n:=((n*a:Nat):Int)) (by omega) (by omega),a7 (by omega) (by omega)];rfl
 have hwN:IntKind.wrap .i64 (g.n*g.n)=((n*n:Nat):Int):=by
  have h2:g.n*g.n=((n*n:Nat):Int):=by rw[hn];rfl
  rw[h2,a7 (by omega) (by omega)]
 rw[hwN,Ys];refine hs.put 0 rfl (o:=0) (vs:=[.slice (some ⟨hR.size,0,none⟩) (n*n) (n*n),.slice (some ⟨hM.size,0,none⟩) (n*n) (n*n)]) rfl (show 2<=2 by decide) fun fN hs=>?_;refine⟨g.s,hs.rd 4 rfl (i:=4) rfl,g.n,hs.rd 4 rfl (i:=3) rfl,g.s,hs.rd 4 rfl (i:=4) rfl,?_⟩;have Sy:g.s.toNat<n:=by omega
 rw[jm,hmul _ _ Sy Sy];refine hs.ak fun dX hs=>?_;refine⟨⟨some ⟨hR.size,0,none⟩,n*n,n*n⟩,hs.rd 1 rfl (i:=0) rfl,by decide,((bS n (eM g):Nat):Int),hs.rd 0 rfl (i:=0) rfl,?_⟩;have tq:bS n (eM g)<n*n:=dE Sy Sy;refine ES ⟨⟨Int.natCast_nonneg _,Int.ofNat_lt.2 tq⟩,?_⟩;rw[show 0+Int.toNat ((bS n (eM g):Nat):Int)*1=bS n (eM g) by omega];refine hs.put 2 rfl (o:=bS n (eM g)) (vs:=[.bool true]) rfl (by rw[Yc,Yg,Yv];omega) fun zO hs=>?_;rw[bz Value.bool (by rw[Yg];exact tq)] at hs;have hs:=hs.dP 1 1 ((aw ([eM g].map (bS n))).map aO) rfl (cL _) rfl (by decide);have hs:=hs.qA (α:=aP) (e:=219) (k:=2) (cs:=jd) (A:=[_,_,_,_,_,_]) (B:=[]) (n*n);have hs:St h zO (LW hS.size hR.size hM.size (n*n) n ⟨some ⟨fN.size,0,none⟩,1,1⟩ [.ae h9.size [.slice none 0 0,.slice none 0 0] 115,.ae h.size g.cs 27] ((List.replicate (n*n) false).set (bS n (eM g)) true) (List.replicate (n*n) ((⟨none,0,0⟩,[]):Sl × List aP)) [eM g]):=by
  rw[Yw] at hs;refine hs.perm ?_;unfold LW;rw[List.map_replicate (f:=Prod.fst)];refine (List.perm_append_comm (l₁:=[_]) (l₂:=[_,_,_]) |>.append_right _)
 have hI:Az g role 0 0 [eM g] ((List.replicate (n*n) false).set (bS n (eM g)) true) (List.replicate (n*n) ((⟨none,0,0⟩,[]):Sl × List aP)):=by
  refine⟨by simp,fun p hp=>by rw[Ye] at hp;rw[hp];exact .start,Ye.2 rfl,?_,by rw[Yg,xl],fun j p hj=>by omega,fun k q hq _=>by rw[List.eq_of_mem_replicate (Yb hq)],fun j p hj=>by omega⟩;have e:List.replicate (n*n) false=(List.range (n*n)).map fun _=>false:=by
   apply yG;intro j;rw[List.getElem?_replicate,Yd];by_cases hj:j<n*n
   .rw[if_pos hj,ye hj];rfl
   .rw[if_neg hj,Yl (by rw[mr];omega)];rfl
  rw[e,xl];refine cK tq (decide_eq_true ⟨_,Ye.2 rfl,rfl⟩) fun k hk=>decide_eq_false ?_;rintro⟨q,hq,e⟩;rw[Ye] at hq;subst hq;exact hk e.symm
 refine⟨fun l x h' μ=>∃(i:Nat) (A:List Pr) (BL:List Bool) (MV:List (Sl × List aP)),x=(i:Int)/\μ=n*n-i/\i<=A.length/\St h h' (LW hS.size hR.size hM.size (n*n) n l [.ae h9.size [.slice none 0 0,.slice none 0 0] 115,.ae h.size g.cs 27] BL MV A)/\Az g role i i A BL MV,⟨_,0,_,_,_,rfl,rfl,Nat.zero_le _,hs,hI⟩,?_⟩;clear hs hI;rintro-l _ NQ μ ⟨i,A,BL,MV,rfl,rfl,hi,hs,hI⟩;have mB:=hI.len hV;rw[xl] at mB;have sv:=(hs.len 3 (s:=l) (e:=3) (n:=1) rfl (by decide)).1;rw[Yc,show (aw (A.map (bS n))).length=A.length by unfold aw;rw[Yc,Yc]] at sv;have rl:∀ {A':List Pr} {l':Sl} {vx:List Bool} {MV':List (Sl × List aP)} {h':Heap} {p:Pr} {K':Nat->Nat->Prop},St h h' (LW hS.size hR.size hM.size (n*n) n l' [.ae h9.size [.slice none 0 0,.slice none 0 0] 115,.ae h.size g.cs 27] vx MV' A')->A'[i]?=some p->(∀b o,hc h' ⟨b,o+Int.toNat (i:Int)*1,none⟩=some (.int .i64 (bS n p:Nat))->K' b o)->NB l'.a fun b o=>(0<=(i:Int)/\(i:Int)<(l'.n:Nat))/\K' b o:=fun {A' l' vx MV' h' p K'} bL hp hK'=>by
  have n4:=(Ya.1 hp).1;have Pq:=(bL.len 3 (s:=l') (e:=3) (n:=1) rfl (by decide)).1;rw[Yc,show (aw (A'.map (bS n))).length=A'.length by unfold aw;rw[Yc,Yc]] at Pq;refine (bL.rows 3 (s:=l') (cs:=aO) (l:=aw (A'.map (bS n))) rfl (by decide)).aD (by omega) (by omega) fun b o d gd u=>?_;have gI:(aw (A'.map (bS n)))[i]?=some ((bS n p:Nat):Int):=by unfold aw;rw[Yd,Yd,hp];rfl
  replace gd:(aw (A'.map (bS n)))[i]?=some d:=gd;rw[gI] at gd;cases gd;exact hK' b o (u.nth 0 rfl)
 refine aM (fun c=>?_) (fun c=>?_)
 .obtain⟨p,gp⟩:=get_some (l:=A) (i:=i) (by omega);have D5:=hI.pr p (Yb gp);have dz:=D5.nU hV;rw[xl] at dz;have hpx:=dE (n:=n) (p:=p) dz.1 dz.2;have agw:=fw (es:=g.es) (role:=role) (s:=p.1) (t:=p.2) PT;have hdiv:IntKind.wrap .i64 (Int.tdiv ((bS n p:Nat):Int) g.n)=((p.1:Nat):Int):=by
   have e1:Int.tdiv ((bS n p:Nat):Int) g.n=((bS n p/n:Nat):Int):=by rw[hn];rfl
   rw[e1,oX dz.2,a7 (by omega) (by omega)]
  have Ea:Int.tmod ((bS n p:Nat):Int) g.n=((p.2:Nat):Int):=by
   have e1:Int.tmod ((bS n p:Nat):Int) g.n=((bS n p%n:Nat):Int):=by rw[hn];rfl
   rw[e1,oV dz.2]
  refine rl hs gp fun b34 o35 u=>⟨_,u,g.n,hs.rd 5 rfl (i:=3) rfl,by omega,rl hs gp fun b38 o39 u=>⟨_,u,g.n,hs.rd 5 rfl (i:=3) rfl,by omega,?_⟩⟩;rw[hdiv,Ea];refine⟨⟨some ⟨hM.size,0,none⟩,n*n,n*n⟩,hs.rd 0 rfl (i:=1) rfl,rl hs gp fun b43 o44 u=>⟨_,u,_,_,_,_,_,_,_,_,hs.at 5 rfl (o:=0) (n:=8) rfl,?_⟩⟩;refine (GF g role p.1 p.2 NQ (hg.ext hs.ext) hV).mono ?_;rintro _ kO ⟨r,rfl,yx⟩;refine⟨r,rfl,yx.ext.sm,ES ⟨⟨Int.natCast_nonneg _,Int.ofNat_lt.2 hpx⟩,?_⟩⟩;have jY:=(yx.len 0 (s:=r) rfl (by decide)).1;rw[Yc] at jY;rw[show 0+Int.toNat ((bS n p:Nat):Int)*1=bS n p by omega];have hMl:=hI.ml;rw[xl] at hMl;have hs:=hs.join yx;refine hs.put 2 rfl (o:=bS n p) (vs:=[eO r]) rfl (by rw[Yc,Yc,Yv];omega) fun B4 hs=>?_;rw[bz eO (by rw[Yc];omega)] at hs;obtain⟨q0,Hh⟩:=get_some (l:=MV) (i:=bS n p) (by omega);have hs:St h B4 (LW hS.size hR.size hM.size (n*n) n l [.ae h9.size [.slice none 0 0,.slice none 0 0] 115,.ae h.size g.cs 27] BL (MV.set (bS n p) (r,bq g.es role p.1 p.2)) A):=by
   refine hs.fK (R:=[nest 219 2 jd q0]) ?_;unfold LW;rw[List.map_set (f:=Prod.fst),List.map_set (f:=nest 219 2 jd)];refine .cons _ (.cons _ (.cons _ (.cons _ ?_)));show List.Perm (([It.ae h9.size [.slice none 0 0,.slice none 0 0] 115,.ae h.size g.cs 27]++MV.map (nest 219 2 jd))++[.sl r 219 2 ((bq g.es role p.1 p.2).map jd)]) (([It.ae h9.size [.slice none 0 0,.slice none 0 0] 115,.ae h.size g.cs 27]++(MV.map (nest 219 2 jd)).set (bS n p) (nest 219 2 jd (r,bq g.es role p.1 p.2)))++[nest 219 2 jd q0]);rw[Yz,Yz];exact List.Perm.append_left _ (set_perm (by rw[Yd,Hh];rfl))
  have gF:=hI.mov hV gp r;rw[xl] at gF;refine⟨fun l' y h' μ'=>∃(k:Nat) (A':List Pr) (vx:List Bool),y=(k:Int)/\μ'=r.n-k/\k<=r.n/\A.length<=A'.length/\St h h' (LW hS.size hR.size hM.size (n*n) n l' [.ae h9.size [.slice none 0 0,.slice none 0 0] 115,.ae h.size g.cs 27] vx (MV.set (bS n p) (r,bq g.es role p.1 p.2)) A')/\Az g role i (i+1) A' vx (MV.set (bS n p) (r,bq g.es role p.1 p.2))/\A'[i]?=some p/\∀m∈(bq g.es role p.1 p.2).take k,bj m∈A',⟨_,0,A,BL,rfl,rfl,Nat.zero_le _,bc _,hs,gF,gp,fun m hm=>by rw[mq] at hm;cases hm⟩,?_⟩;have hMg:(MV.set (bS n p) (r,bq g.es role p.1 p.2))[bS n p]?=some (r,bq g.es role p.1 p.2):=Yq (by omega);clear hs gF;rintro-l' _ h65 μ' ⟨k,A',vx,rfl,rfl,hk,hAA,hs,gF,HG,eN⟩;have WW:=gF.len hV;rw[xl] at WW;have n4:=(Ya.1 HG).1;have acE:=(hs.len 3 (s:=l') (e:=3) (n:=1) rfl (by decide)).1;rw[Yc,show (aw (A'.map (bS n))).length=A'.length by unfold aw;rw[Yc,Yc]] at acE;have hMr:hc h65 ⟨hM.size,0+Int.toNat ((bS n p:Nat):Int)*1,none⟩=some (.slice r.a r.n r.c):=by
   rw[show 0+Int.toNat ((bS n p:Nat):Int)*1=bS n p by omega];exact hs.rd 2 rfl (by rw[Yd,Yd,hMg];rfl)
  have hrr:Rw h65 2 r ((bq g.es role p.1 p.2).map jd):=hs.nO (e:=219) (by
   unfold LW;refine Yn _ (Yn _ (Yn _ (Yn _ (List.mem_append_right _ ?_))));exact Yp.2 ⟨(r,bq g.es role p.1 p.2),Yb hMg,rfl⟩) (by decide)
  refine⟨⟨some ⟨hM.size,0,none⟩,n*n,n*n⟩,hs.rd 0 rfl (i:=1) rfl,rl hs HG fun b67 o68 u=>⟨_,u,ES ⟨⟨Int.natCast_nonneg _,Int.ofNat_lt.2 hpx⟩,r,hMr,?_⟩⟩⟩;refine aM (fun c2=>?_) (fun c2=>?_)
  .obtain⟨m,gm⟩:=get_some (l:=bq g.es role p.1 p.2) (i:=k) (by omega);have mz:=Yb gm;have pG:=ia hV (p:=p) (by omega) mz;have acw:=dB.step D5 mz;have qN:IntKind.wrap .i64 ((k:Int)+1)=((k+1:Nat):Int):=by rw[a7 (by omega) (by omega)];omega
   refine⟨_,_,_,_,_,_,_,_,hs.at 5 rfl (o:=0) (n:=8) rfl,⟨some ⟨hM.size,0,none⟩,n*n,n*n⟩,hs.rd 0 rfl (i:=1) rfl,rl hs HG fun b82 o83 u=>⟨_,u,ES ⟨⟨Int.natCast_nonneg _,Int.ofNat_lt.2 hpx⟩,r,hMr,?_⟩⟩⟩;refine hrr.aD (by omega) (by omega) fun b88 o89 d gd u=>?_;replace gd:(bq g.es role p.1 p.2)[k]?=some d:=gd;rw[gm] at gd;cases gd;refine⟨_,_,u,?_⟩;refine (jQ g role p.1 p.2 m h65 (hg.ext hs.ext) mz).mono ?_;rintro _ h95 ⟨rfl,E⟩;have hs:=hs.step E;refine⟨_,_,rfl,⟨some ⟨hR.size,0,none⟩,n*n,n*n⟩,hs.rd 0 rfl (i:=0) rfl,g.n,hs.rd 5 rfl (i:=3) rfl,?_⟩;have xn:(bj m).1<n:=by omega
   have ig:(bj m).2<n:=by omega
   have uL:IntKind.wrap .i64 (IntKind.wrap .i64 (m.s*g.n)+m.t)=((bS n (bj m):Nat):Int):=by
    have:=hmul (bj m).1 (bj m).2 xn ig;rw[pG.2.2.1,pG.2.2.2] at this;exact this
   have hpq:=dE (n:=n) (p:=bj m) xn ig;have Nq:=gF.seen hV (p:=bj m) (by rw[xl];exact xn) (by rw[xl];exact ig);rw[xl] at Nq;have yC:vx.length=n*n:=by rw[gF.bl,xl];simp
   rw[uL];have e0:0+Int.toNat ((bS n (bj m):Nat):Int)*1=bS n (bj m):=by omega
   refine ES ⟨⟨Int.natCast_nonneg _,Int.ofNat_lt.2 hpq⟩,decide (bj m∈A'),by rw[e0];exact hs.rd 1 rfl (by rw[Yd,Nq];rfl),?_⟩;have WI:∀ {A2:List Pr},(∀x∈A',x∈A2)->bj m∈A2->∀x∈(bq g.es role p.1 p.2).take (k+1),bj x∈A2:=fun h1 h2 x hx=>by
    rw[aj gm,Yk,Ye] at hx;rcases hx with hx | rfl
    .exact h1 _ (eN x hx)
    .exact h2
   refine aa (fun c3=>?_) (fun c3=>?_)
   .have ca:bj m∉A':=by simpa using c3
    refine⟨⟨some ⟨hR.size,0,none⟩,n*n,n*n⟩,hs.rd 0 rfl (i:=0) rfl,g.n,hs.rd 5 rfl (i:=3) rfl,?_⟩;rw[uL];refine ES ⟨⟨Int.natCast_nonneg _,Int.ofNat_lt.2 hpq⟩,?_⟩;rw[e0];refine hs.put 1 rfl (o:=bS n (bj m)) (vs:=[.bool true]) rfl (by rw[Yc,Yv];omega) fun ahB hs=>?_;rw[bz Value.bool (by omega)] at hs;refine⟨g.n,hs.rd 5 rfl (i:=3) rfl,?_⟩;rw[uL];refine hs.app 3 rfl dv (m:=1) [aO ((bS n (bj m):Nat):Int)] rfl rfl (fun r hr=>by rw[Ye] at hr;rw[hr];rfl) rfl (by omega) (by simp only[maxLen];omega) fun l2 HE nl hs=>?_;have hI3:=gF.push hV (by omega) (by omega) ca acw;rw[xl] at hI3;refine⟨_,(show r.n-(k+1)<r.n-k by omega),k+1,A'++[bj m],vx.set (bS n (bj m)) true,qN,rfl,by omega,by rw[Yh];omega,?_,hI3,by rw[jw n4];exact HG,WI (fun x hx=>List.mem_append_left _ hx) (List.mem_append_right _ (Ye.2 rfl))⟩;unfold LW;have e5:(aw ((A'++[bj m]).map (bS n))).map aO=(aw (A'.map (bS n))).map aO++[aO ((bS n (bj m):Nat):Int)]:=by
     unfold aw;rw[Ym,Ym,Ym];rfl
    rw[e5];exact hs
   .have cN:bj m∈A':=by simpa using c3
    exact⟨_,(show r.n-(k+1)<r.n-k by omega),k+1,A',vx,qN,rfl,by omega,hAA,hs,gF,HG,WI (fun x hx=>hx) cN⟩
  .rw[Yj (by omega)] at eN;refine⟨_,(show n*n-(i+1)<n*n-i by omega),i+1,A',vx,_,by rw[a7 (by omega) (by omega)];omega,rfl,by omega,hs,gF.nd,gF.pr,gF.st,gF.bl,gF.ml,gF.m1,gF.m0,fun j x hj hx m hm=>?_⟩;by_cases e:j=i
   .subst e;rw[HG] at hx;cases hx;exact eN m hm
   .exact gF.cl j x (by omega) hx m hm
 .have cN:i=A.length:=by omega
  subst cN;have hRR:=hI.done hV;have hRb:=hRR.bl;have hRm:=hRR.ml;rw[xl] at hRb hRm;refine⟨⟨some ⟨hR.size,0,none⟩,n*n,n*n⟩,⟨some ⟨hM.size,0,none⟩,n*n,n*n⟩,hs.at 0 rfl (o:=0) (n:=2) rfl,?_⟩;refine hs.put 4 rfl (o:=0) (vs:=[.slice (some ⟨hR.size,0,none⟩) (n*n) (n*n),.slice (some ⟨hM.size,0,none⟩) (n*n) (n*n)]) rfl (show 2<=2 by decide) fun Qc hs=>?_;refine⟨⟨some ⟨hR.size,0,none⟩,n*n,n*n⟩,⟨some ⟨hM.size,0,none⟩,n*n,n*n⟩,hs.at 4 rfl (o:=0) (n:=2) rfl,?_⟩;refine hK BL MV Qc hRR ?_;have hs:=hs.kq 1 rfl (n*n) 1 (BL.map bC) (ir Value.bool BL) (fun r hr=>by obtain⟨x,_,rfl⟩:=Yp.1 hr;rfl) (by rw[Yc];exact hRb) (by simp only[maxLen];omega);have hs:=hs.kq 2 rfl (n*n) 1 ((MV.map Prod.fst).map eC) (ir eO _) (fun r hr=>by obtain⟨x,_,rfl⟩:=Yp.1 hr;rfl) (by rw[Yc,Yc];exact hRm) (by simp only[maxLen];omega);exact hs.fK HL
def ExK(g:Gl)(role:Int)(h:Heap)(v:Value)(h':Heap):Prop:=
 ∃(rs ms:Sl) (BL:List Bool) (MV:List (Sl × List aP)),v=.agg ⟨[.slice rs.a rs.n rs.c,.slice ms.a ms.n ms.c]⟩/\Tb g role BL MV/\St h h' (.sl rs 4 1 (BL.map bC) :: .sl ms 214 1 ((MV.map Prod.fst).map eC)::MV.map (nest 219 2 jd))
theorem jg(n:Nat):ai Pz 214 n=(List.replicate n (⟨none,0,0⟩:Sl)).map eO:=by
 have e:bV Pz 214=[.slice none 0 0]:=by kernel_rfl
 unfold ai;rw[e]
 induction n with
 | zero=>rfl
 | succ n ih=>rw[List.replicate_succ,ox,ih,List.replicate_succ];rfl
theorem tF(g:Gl)(role:Int)(h:Heap)(hg:GI h g)(hV:af g):Fn Pz 60 #[g.v,.int .i64 role] h (ExK g role h):=by
 apply abf (bs g.nm) g.hr g.hd g.n g.s g.e g.he g.ht role;unfold W60;have hN:=hV.num.n;refine (St.refl h).ak fun h9 hs=>hs.ak fun cF hs=>?_;refine⟨g.n,hs.rd 1 rfl (i:=3) rfl,g.n,hs.rd 1 rfl (i:=3) rfl,g.n,hs.rd 1 rfl (i:=3) rfl,g.n,hs.rd 1 rfl (i:=3) rfl,?_⟩;have h0:h.size<cF.size:=et (hs.rd 1 rfl (i:=3) rfl);have JH:∀z∈([⟨h.size,3,none⟩,⟨h.size,3,none⟩]:List Addr),z.block<cF.size:=aF h0 (aF h0 bg);have AL4:∀z∈([⟨h.size,3,none⟩,⟨h.size,3,none⟩,⟨h.size,3,none⟩,⟨h.size,3,none⟩]:List Addr),z.block<cF.size:=aF h0 (aF h0 JH);have hNN:g.n.toNat*g.n.toNat<=200*200:=Nat.mul_le_mul (by omega) (by omega);have hw:IntKind.wrap .i64 (g.n*g.n)=((g.n.toNat*g.n.toNat:Nat):Int):=by
  have h2:g.n*g.n=((g.n.toNat*g.n.toNat:Nat):Int):=by rw[Int.natCast_mul,show ((g.n.toNat:Nat):Int)=g.n by omega]
  rw[h2,a7 (by omega) (by omega)]
 have hn:Int.toNat (IntKind.wrap .i64 (g.n*g.n))=g.n.toNat*g.n.toNat:=by rw[hw,Ys]
 have hb:Al g.n g.n:=by unfold Al;rw[hw];exact⟨by omega,by omega,by omega⟩
 have hc:Ak g.n g.n:=by unfold Ak;rw[hw];exact⟨by omega,by omega,by omega⟩
 have hr:=St.refl cF;have F:∀ {hX hS hR hM:Heap},St h hX (.ae hS.size [.slice none 0 0,.slice none 0 0] 115 :: .ae hR.size ((List.replicate (g.n.toNat*g.n.toNat) false).map Value.bool) 4 :: .ae hM.size ((List.replicate (g.n.toNat*g.n.toNat) (⟨none,0,0⟩:Sl)).map eO) 214::[.ae h9.size [.slice none 0 0,.slice none 0 0] 115,.ae h.size g.cs 27])->vh hX hS hR g.n g.n hM g.n g.n h role h9 (ExK g role h):=fun {hX hS hR hM} hs=>abK hs hg hV fun BL MV h' hx bL=>⟨⟨some ⟨hR.size,0,none⟩,g.n.toNat*g.n.toNat,g.n.toNat*g.n.toNat⟩,⟨some ⟨hM.size,0,none⟩,g.n.toNat*g.n.toNat,g.n.toNat*g.n.toNat⟩,BL,MV,rfl,hx,bL⟩;refine⟨⟨hc,fun rP e1=>?_⟩,⟨hb,fun rP e1=>?_⟩,fun rP e1=>?_⟩
 .have s1:=hs.dh e1;have t1:=hr.dh e1;rw[hn,nh] at s1;refine⟨aX hr t1 JH,⟨hb,fun cy e2=>?_⟩,fun cy e2=>?_⟩
  .have s2:=s1.dh e2;have t2:=t1.dh e2;rw[hn,jg] at s2;refine⟨aX t1 t2 JH,fun iL e3=>?_⟩;have s3:=s2.dh e3;have t3:=t2.dh e3;exact⟨aX t2 t3 AL4,F (s3.perm (.cons _ (List.Perm.swap _ _ _)))⟩
  .have s2:=s1.dh e2;have t2:=t1.dh e2;refine⟨aX t1 t2 AL4,hb,fun iL e3=>?_⟩;have s3:=s2.dh e3;have t3:=t2.dh e3;rw[hn,jg] at s3;exact⟨aX t2 t3 JH,F (s3.perm ((List.Perm.swap _ _ _).trans (.cons _ (List.Perm.swap _ _ _))))⟩
 .have s1:=hs.dh e1;have t1:=hr.dh e1;rw[hn,jg] at s1;refine⟨aX hr t1 JH,⟨hc,fun cy e2=>?_⟩,fun cy e2=>?_⟩
  .have s2:=s1.dh e2;have t2:=t1.dh e2;rw[hn,nh] at s2;refine⟨aX t1 t2 JH,fun iL e3=>?_⟩;have s3:=s2.dh e3;have t3:=t2.dh e3;exact⟨aX t2 t3 AL4,F s3⟩
  .have s2:=s1.dh e2;have t2:=t1.dh e2;refine⟨aX t1 t2 AL4,hc,fun iL e3=>?_⟩;have s3:=s2.dh e3;have t3:=t2.dh e3;rw[hn,nh] at s3;exact⟨aX t2 t3 JH,F (s3.perm (List.Perm.swap _ _ _))⟩
 .have s1:=hs.dh e1;have t1:=hr.dh e1;refine⟨aX hr t1 AL4,⟨hc,fun cy e2=>?_⟩,hb,fun cy e2=>?_⟩
  .have s2:=s1.dh e2;have t2:=t1.dh e2;rw[hn,nh] at s2;refine⟨aX t1 t2 JH,hb,fun iL e3=>?_⟩;have s3:=s2.dh e3;have t3:=t2.dh e3;rw[hn,jg] at s3;exact⟨aX t2 t3 JH,F (s3.perm ((List.Perm.cons _ (List.Perm.swap _ _ _)).trans ((List.Perm.swap _ _ _).trans (.cons _ (List.Perm.swap _ _ _)))))⟩
  .have s2:=s1.dh e2;have t2:=t1.dh e2;rw[hn,jg] at s2;refine⟨aX t1 t2 JH,hc,fun iL e3=>?_⟩;have s3:=s2.dh e3;have t3:=t2.dh e3;rw[hn,nh] at s3;exact⟨aX t2 t3 JH,F (s3.perm ((List.Perm.cons _ (List.Perm.swap _ _ _)).trans (List.Perm.swap _ _ _)))⟩
theorem qX{α:Type}{p:α->Bool}:∀ {l:List α} {i:Nat} {x:α},l[i]?=some x->p x=true->(∀j y,j<i->l[j]?=some y->p y=false)->l.findIdx p=i
 | [],i,x,h,_,_=>by cases h
 | a::l,0,x,h,hp,_=>by cases h;rw[List.findIdx_cons,hp];rfl
 | a::l,i+1,x,h,hp,hn=>by
  rw[List.findIdx_cons,hn 0 a (by omega) rfl,qX (l:=l) (i:=i) (x:=x) h hp fun j y hj hy=>hn (j+1) y (by omega) hy];rfl
theorem qW{α:Type}{p:α->Bool}:∀ {l:List α},(∀(j:Nat) y,l[j]?=some y->p y=false)->l.findIdx p=l.length
 | [],_=>rfl
 | a::l,hn=>by
  rw[List.findIdx_cons,hn 0 a rfl,qW (l:=l) fun j y hy=>hn (j+1) y hy];rfl
theorem il{α:Type}{p:α->Bool}:∀ {l:List α},(l.find? p).isSome=decide (l.findIdx p<l.length)/\∀x,l.find? p=some x->l[l.findIdx p]?=some x
 | []=>⟨rfl,fun x h=>by cases h⟩
 | a::l=>by
  rw[List.find?_cons,List.findIdx_cons];cases hp:p a with
  | true=>exact⟨by simp,fun x h=>by simpa using h⟩
  | false=>
   obtain⟨h1,h2⟩:=il (p:=p) (l:=l);refine⟨?_,fun x h=>by simpa using h2 x h⟩;rw[h1,decide_eq_decide];simp only[cond_false,j8];omega
theorem mc(r:Int)(E K:List Ev)(s e:Sl)(h:Heap)(hr:Rw h 5 s (E.map (aC r)))(he:Rw h 5 e (K.map (aC r)))(hE:E.length<=1048576)(hK:K.length<=1048576):
  Fn Pz 120 #[.slice s.a s.n s.c,.slice e.a e.n e.c] h fun v h'=>v=.int .i64 ((E.findIdx (dx K):Nat):Int)/\Ext h h':=by
 apply UQ s e;unfold aab;have hn:=hr.ln;refine⟨fun x h' μ=>∃i:Nat,x=(i:Int)/\s.n-i=μ/\i<=s.n/\Ext h h'/\∀(j:Nat) y,j<i->E[j]?=some y->dx K y=false,⟨_,0,rfl,rfl,Nat.zero_le _,.iC,fun j y hj=>by omega⟩,?_⟩;rintro-_ h5 μ ⟨i,rfl,rfl,hi,X,hd⟩;refine aM (fun c=>?_) (fun c=>?_)
 .obtain⟨x,gx⟩:=get_some (l:=E) (i:=i) (by omega);have rd:∀ {h':Heap} {K':Nat->Nat->Prop},Ext h h'->(∀b o,a6 h' ⟨b,o+Int.toNat (i:Int)*5,none⟩ (aC r x)->K' b o)->NB s.a fun b o=>(0<=(i:Int)/\(i:Int)<(s.n:Nat))/\K' b o:=fun {h' K'} E' hK'=>by
   refine (hr.ext E').aD (by omega) (by omega) fun b o d gd t=>?_;replace gd:E[i]?=some d:=gd;rw[gx] at gd;cases gd;exact hK' b o t
  have yw:IntKind.wrap .i64 ((i:Int)+1)=((i+1:Nat):Int):=by rw[a7 (by omega) (by omega)];omega
  have next:dx K x=false->∀h',Ext h h'->∃m2,m2<s.n-i/\∃i':Nat,IntKind.wrap .i64 ((i:Int)+1)=(i':Int)/\s.n-i'=m2/\i'<=s.n/\Ext h h'/\∀(j:Nat) y,j<i'->E[j]?=some y->dx K y=false:=fun hx h' X'=>⟨_,(show s.n-(i+1)<s.n-i by omega),i+1,yw,rfl,by omega,X',fun j y hj hy=>by
   by_cases e:j=i
   .subst e;rw[gx] at hy;cases hy;exact hx
   .exact hd j y (by omega) hy⟩
  refine rd X fun b6 o7 u=>⟨_,u.nth 1 rfl,?_⟩;refine aa (fun c2=>?_) (fun c2=>?_)
  .refine rd X fun b9 o10 u2=>⟨_,_,_,_,⟨none,0,0⟩,u2,?_⟩;refine (NK r K x e h5 (he.ext X) hK).mono ?_;rintro _ fN ⟨rfl,X2⟩;refine⟨_,rfl,aa (fun c3=>?_) (fun c3=>?_)⟩
   .have hx:dx K x=true:=by unfold dx;rw[c2,c3];rfl
    exact⟨by rw[qX gx hx hd],X.trans X2⟩
   .refine next ?_ fN (X.trans X2);unfold dx;rw[c2,c3];rfl
  .refine next ?_ h5 X;unfold dx;rw[c2];rfl
 .refine⟨?_,X⟩;rw[qW fun j y hy=>hd j y (by have:=(Ya.1 hy).1;omega) hy,<-hn]
structure J2 (h:Heap) (g:Gl) (role:Int) (ev en ar rs ms:Sl) (E:List (Sl × List Ev)) (B:List Bool) (MS:List (Sl × List gD)) (BL:List Bool) (MV:List (Sl × List aP)):Prop where
 v:VfM h g role ev en ar E B MS
 rb:Rw h 1 rs (BL.map bC)
 rm:Rw h 1 ms ((MV.map Prod.fst).map eC)
 mm:∀q∈MV,Rw h 2 q.1 (q.2.map jd)
 rp:∀q∈MS,∀a∈q.2,RL h 3 a.2.2 Ac.cs a.2.1.path
theorem J2.ext{h h':Heap}{g:Gl}{role:Int}{ev en ar rs ms:Sl}{E:List (Sl × List Ev)}{B:List Bool}{MS:List (Sl × List gD)}{BL:List Bool}{MV:List (Sl × List aP)}(hm:J2 h g role ev en ar rs ms E B MS BL MV)(X:Ext h h'):J2 h' g role ev en ar rs ms E B MS BL MV:=
 ⟨hm.v.ext X,hm.rb.ext X,hm.rm.ext X,fun q hq=>(hm.mm q hq).ext X,fun q hq a ha=>(hm.rp q hq a ha).ext X⟩
structure S7 (g:Gl) (role:Int) (E:List (Sl × List Ev)) (B:List Bool) (MS:List (Sl × List gD)) (BL:List Bool) (MV:List (Sl × List aP)):Prop where
 p:RB g role E B MS
 r:Tb g role BL MV
 w:∀q∈MS,∀a∈q.2,a.2.1.path=gh g a.1 a.2.1.m/\a.2.1.path.length<=1000000/\a.1<g.es.length
def kg(g:Gl)(role kind:Int)(ev en ar rs ms:Sl):List Value:=[.string (bs g.nm),.slice g.hr.a g.hr.n g.hr.c,.slice g.hd.a g.hd.n g.hd.c,.int .i64 g.n,.int .i64 g.s,.int .i64 g.e,.slice g.he.a g.he.n g.he.c,.slice g.ht.a g.ht.n g.ht.c,.int .i64 role,.int .i64 kind,.slice ev.a ev.n ev.c,.slice en.a en.n en.c,.slice ar.a ar.n ar.c,.slice rs.a rs.n rs.c,.slice ms.a ms.n ms.c]
noncomputable def oH(g:Gl)(role kind:Int)(p:Pr):Int:=(bQ g role kind p).getD ax
theorem RB.el{g:Gl}{role:Int}{E:List (Sl × List Ev)}{B:List Bool}{MS:List (Sl × List gD)}(hp:RB g role E B MS)(s:Nat):(az g role (s:Nat)).length<=1048576:=by have:=hp.le (s:Nat);omega
theorem kF{α:Type}{h:Heap}{s:Sl}{L:List (Sl × α)}(hr:Rw h 1 s ((L.map Prod.fst).map eC)){i:Nat}{q:Sl × α}(hq:L[i]?=some q){K:Nat->Nat->Prop}(hK:∀b o,hc h ⟨b,o+Int.toNat (i:Int)*1,none⟩=some (.slice q.1.a q.1.n q.1.c)->K b o):NB s.a fun b o=>(0<=(i:Int)/\(i:Int)<(s.n:Nat))/\K b o:=by
 have hl:=(Ya.1 hq).1;have hn:=hr.ln;rw[Yc] at hn;refine hr.aD (by omega) (by omega) fun b o d gd t=>?_;replace gd:(L.map Prod.fst)[i]?=some d:=gd;rw[Yd,hq] at gd;cases gd;exact hK b o (t.nth 0 rfl)
theorem Gj(g:Gl)(role kind:Int)(ev en ar rs ms:Sl)(E:List (Sl × List Ev))(B:List Bool)(MS:List (Sl × List gD))(BL:List Bool)(MV:List (Sl × List aP))(p:Pr)(h:Heap)(hg:GI h g)(hV:af g)(hM:J2 h g role ev en ar rs ms E B MS BL MV)(hP:S7 g role E B MS BL MV)(h1:p.1<g.n.toNat)(h2:p.2<g.n.toNat)(hk:kind=1\/kind=3\/kind=4):
  Fn Pz 118 #[.agg ⟨kg g role kind ev en ar rs ms⟩,.int .i64 (p.1:Nat),.int .i64 (p.2:Nat)] h fun v h'=>v=.int .i64 (oH g role kind p)/\Ext h h':=by
 apply US (bs g.nm) g.hr g.hd g.n g.s g.e g.he g.ht role kind ev en ar rs ms (p.1:Nat) (p.2:Nat);unfold aad;obtain⟨q1,my,e1⟩:=hP.p.e p.1 h1;obtain⟨q2,fL,e2⟩:=hP.p.e p.2 h2;obtain⟨qa,Hg,ea⟩:=hP.p.m p.1 h1;have xn:=hP.p.el (role:=role) p.1;have ig:=hP.p.el (role:=role) p.2;refine (St.refl h).ak fun cy hs=>?_;refine⟨kind,hs.rd 0 rfl (i:=9) rfl,dp (fun c=>?_) (fun c=>dp (fun c2=>?_) (fun c2=>dp (fun c3=>?_) (fun c3=>?_)))⟩
 .subst c;have r1:=(hM.v.re q1 (Yb my));have r2:=(hM.v.re q2 (Yb fL));rw[e1] at r1;rw[e2] at r2;refine⟨ev,hs.rd 0 rfl (i:=10) rfl,kF (hM.v.rv.ext hs.ext) my fun b o u=>⟨q1.1,u,ev,hs.rd 0 rfl (i:=10) rfl,kF (hM.v.rv.ext hs.ext) fL fun b2 o2 u2=>⟨q2.1,u2,ev,hs.rd 0 rfl (i:=10) rfl,kF (hM.v.rv.ext hs.ext) my fun b3 o3 u3=>⟨q1.1,u3,?_⟩⟩⟩⟩;refine (mc role _ _ q1.1 q2.1 cy (r1.ext hs.ext) (r2.ext hs.ext) xn ig).mono ?_;rintro _ W9 ⟨rfl,X⟩;have hn:=r1.ln;have hf:=(il (p:=dx (az g role (p.2:Nat))) (l:=az g role (p.1:Nat))).1;refine⟨_,rfl,X.sm,aM (fun c4=>?_) (fun c4=>?_)⟩
  .refine⟨?_,hs.ext.trans X⟩;rw[decide_eq_true (by omega)] at hf;unfold oH bQ;rw[if_pos rfl,if_pos ⟨h1,h2⟩,if_pos hf];rfl
  .refine⟨?_,hs.ext.trans X⟩;rw[decide_eq_false (by omega)] at hf;unfold oH bQ;rw[if_pos rfl,if_pos ⟨h1,h2⟩,if_neg (by rw[hf];decide)];rfl
 .subst c2;refine⟨_,_,_,_,_,_,_,_,hs.at 0 rfl (o:=0) (n:=8) rfl,role,hs.rd 0 rfl (i:=8) rfl,?_⟩;refine (wq g role (p.1:Nat) (p.2:Nat) cy (hg.ext hs.ext) hV).mono ?_;rintro _ uQ ⟨⟨b,rfl,hb⟩,X⟩;rw[<-QM hV h1 h2] at hb;refine⟨b,rfl,aa (fun c4=>?_) (fun c4=>?_)⟩
  .refine⟨?_,hs.ext.trans X⟩;unfold oH bQ;rw[if_neg (by decide),if_pos rfl,if_pos (hb.1 c4)];rfl
  .refine⟨?_,hs.ext.trans X⟩;unfold oH bQ;rw[if_neg (by decide),if_pos rfl,if_neg (cw hb c4)];rfl
 .subst c3;have ra:=hM.v.rm qa (Yb Hg);have r2:=(hM.v.re q2 (Yb fL));rw[e2] at r2;refine⟨ar,hs.rd 0 rfl (i:=12) rfl,kF (hM.v.ra.ext hs.ext) Hg fun b o u=>⟨qa.1,u,role,hs.rd 0 rfl (i:=8) rfl,ev,hs.rd 0 rfl (i:=10) rfl,kF (hM.v.rv.ext hs.ext) fL fun b2 o2 u2=>⟨q2.1,u2,?_⟩⟩⟩;refine (qH role _ qa.2 qa.1 q2.1 cy (ra.ext hs.ext) (r2.ext hs.ext) (hP.p.l qa (Yb Hg)) ig (hP.p.p qa (Yb Hg))).mono ?_;rintro _ kO ⟨⟨out,rfl,hL⟩,X⟩;have hs:=hs.step X;have eo:oH g role 4 p=((cR (az g role (p.2:Nat)) (qa.2.map cq)).map (·.n)).getD ax:=by
   unfold oH bQ;rw[if_neg (by decide),if_neg (by decide),if_pos ⟨h1,h2⟩,ea]
  refine⟨out,rfl,aM (fun c4=>?_) (fun c4=>?_)⟩
  .rcases hL with ⟨rfl,_⟩ | ⟨o,y,rfl,hy,hf⟩
   .exact absurd c4 (by decide)
   .have hyq:=Yb hy;have hyl:=hP.p.p qa (Yb Hg) y hyq;have hw:=hP.w qa (Yb Hg) y hyq;have han:=ra.ln;have tt:=(Ya.1 hy).1;refine⟨ar,hs.rd 0 rfl (i:=12) rfl,kF (hM.v.ra.ext hs.ext) Hg fun b b2 u=>⟨qa.1,u,?_⟩⟩;refine (ra.ext hs.ext).aD (by omega) (by omega) fun b3 o3 d gd t=>?_;replace gd:qa.2[o]?=some d:=gd;rw[hy] at gd;cases gd;refine⟨_,t.nth 3 rfl,?_,hs.ext⟩;rw[hyl,a7 (by omega) (by omega),eo];unfold cR;rw[hf];rfl
  .rcases hL with ⟨rfl,hf⟩ | ⟨o,y,rfl,hy,hf⟩
   .refine⟨?_,hs.ext⟩;rw[eo];unfold cR;rw[hf];rfl
   .exact absurd c4 (by omega)
 .omega
def tZ(D:List Int):Nat:=(D.map Int.toNat).sum
theorem vU:∀ {D:List Int} {j:Nat} {v v':Int},D[j]?=some v->0<=v'->v'<v->tZ (D.set j v')<tZ D
 | [],j,v,v',h,_,_=>by cases h
 | a::D,0,v,v',h,h0,h1=>by
  cases h;unfold tZ;rw[List.set_cons_zero,gG,gG,List.sum_cons,List.sum_cons];omega
 | a::D,j+1,v,v',h,h0,h1=>by
  have:=vU (D:=D) (j:=j) h h0 h1;unfold tZ at this ⊢;rw[List.set_cons_succ,gG,gG,List.sum_cons,List.sum_cons];omega
theorem iM.chain{g:Gl}{role kind:Int}{C:Nat}(hC:∀p,dB g role p->∀c,bt g role kind p=some c->c<=C):∀N v,v<=N->∀p,dB g role p->iM (bE g role) (bt g role kind) p v ->
  ∃l:List Pr,l.Nodup/\(∀q∈l,dB g role q/\∃w,w<=v/\iM (bE g role) (bt g role kind) q w)/\v<=C+2*l.length:=by
 intro N
 induction N with
 | zero=>intro v hv p hp hl;exact⟨[],List.nodup_nil,fun q hq=>(by cases hq),by omega⟩
 | succ N ih=>
  intro v hv p hp hl;have hd:=hl.1;cases hd with
  | base hc=>exact⟨[],List.nodup_nil,fun q hq=>(by cases hq),by have:=hC p hp _ hc;omega⟩
  | @step _ m n hm Hr=>
   have dz:=bM m;have k8:iM (bE g role) (bt g role kind) (bj m) n:=⟨Hr,fun k hk=>by have:=hl.2 _ (.step hm hk);omega⟩;obtain⟨l,h1,h2,h3⟩:=ih n (by omega) (bj m) (.step hp hm) k8;refine⟨p::l,List.nodup_cons.2 ⟨fun cN=>?_,h1⟩,fun q hq=>?_,by rw[j8];omega⟩
   .obtain⟨_,w,hw,hlw⟩:=h2 p cN;have:=hlw.uniq hl;omega
   .rcases Yr.1 hq with rfl | hq
    .exact⟨hp,_,bc _,hl⟩
    .obtain⟨a,w,b,c⟩:=h2 q hq;exact⟨a,w,by omega,c⟩
theorem iM.bd{g:Gl}(hV:af g){role kind:Int}{C:Nat}(hC:∀p,dB g role p->∀c,bt g role kind p=some c->c<=C){v:Nat}{p:Pr}(hp:dB g role p)(hl:iM (bE g role) (bt g role kind) p v):v<=C+2*(g.n.toNat*g.n.toNat):=by
 obtain⟨l,h1,h2,h3⟩:=hl.chain hC v v (bc _) p hp;have:=l4 h1 fun q hq=>(h2 q hq).1.nU hV;omega
structure JF (g:Gl) (role kind:Int) (D:List Int):Prop where
 ln:D.length=g.n.toNat*g.n.toNat
 v:∀p:Pr,p.1<g.n.toNat->p.2<g.n.toNat->∃v,D[bS g.n.toNat p]?=some v/\0<=v/\v<=ax/\(v=ax\/∃k:Nat,v=(k:Int)/\v<ax/\Dn (bE g role) (bt g role kind) p k)/\(dB g role p->∀c,bt g role kind p=some c->v<=(c:Int))
def aay(g:Gl)(role:Int)(D:List Int):Prop:=∀p,dB g role p->∀m∈bE g role p,∀v w,D[bS g.n.toNat p]?=some v->D[bS g.n.toNat (bj m)]?=some w->v<=w+(bO m:Nat)
theorem JF.fin{g:Gl}(hV:af g){role kind:Int}{D:List Int}(hI:JF g role kind D)(hC:∀p,dB g role p->∀c,bt g role kind p=some c->c<=1000001)(hF:aay g role D){p:Pr}(hp:dB g role p):D[bS g.n.toNat p]?=some (dL (bE g role) (bt g role kind) p):=by
 have hN:=hV.num.n;have hNN:g.n.toNat*g.n.toNat<=200*200:=Nat.mul_le_mul (by omega) (by omega);have s1:∀ {k:Nat} {p:Pr},Dn (bE g role) (bt g role kind) p k->dB g role p->∀v,D[bS g.n.toNat p]?=some v->v<=(k:Int):=by
  intro k p hd
  induction hd with
  | base hc=>
   intro hp v hv;obtain⟨v',vE,_,_,_,hb⟩:=hI.v _ (hp.nU hV).1 (hp.nU hV).2;rw[hv] at vE;cases vE;exact hb hp _ hc
  | @step p m n hm _ ih=>
   intro hp v hv;have hq:=dB.step hp hm;obtain⟨w,hw,_⟩:=hI.v _ (hq.nU hV).1 (hq.nU hV).2;have h1:=ih hq w hw;have h2:=hF p hp m hm v w hv hw;omega
 have s2:∀ {p:Pr} {v:Int},dB g role p->D[bS g.n.toNat p]?=some v->v≠ax->∃k:Nat,v=(k:Int)/\iM (bE g role) (bt g role kind) p k:=fun {p v} hp hv bH=>by
  obtain⟨v',vE,_,_,hc,_⟩:=hI.v _ (hp.nU hV).1 (hp.nU hV).2;rw[hv] at vE;cases vE;rcases hc with h | ⟨k,hk,_,hd⟩
  .exact absurd h bH
  .exact⟨k,hk,hd,fun j hj=>by have:=s1 hj hp v hv;omega⟩
 have s3:∀ {k:Nat} {p:Pr},Dn (bE g role) (bt g role kind) p k->dB g role p->D[bS g.n.toNat p]?≠some ax:=by
  intro k p hd
  induction hd with
  | base hc=>
   intro hp hv;have h1:=s1 (.base hc) hp _ hv;have h2:=hC _ hp _ hc;unfold ax at h1;omega
  | @step p m n hm hd ih=>
   intro hp hv;have hq:=dB.step hp hm;obtain⟨w,hw,_⟩:=hI.v _ (hq.nU hV).1 (hq.nU hV).2;obtain⟨k',rfl,hl⟩:=s2 hq hw (fun e=>ih hq (by rw[hw,e]));have h1:=hl.bd hV hC hq;have h2:=hF p hp m hm _ _ hv hw;have h3:=bM m;unfold ax at h2;omega
 obtain⟨v,hv,_⟩:=hI.v _ (hp.nU hV).1 (hp.nU hV).2;rw[hv];by_cases e:v=ax
 .rw[e,tK fun n hn=>s3 hn.1 hp (by rw[hv,e])]
 .obtain⟨k,rfl,hl⟩:=s2 hp hv e;rw[js hl]
theorem JF.set{g:Gl}(hV:af g){role kind:Int}{D:List Int}(hI:JF g role kind D){p:Pr}(hp:dB g role p){m:aP}(hm:m∈bE g role p){v w:Int}(hv:D[bS g.n.toNat p]?=some v)(hw:D[bS g.n.toNat (bj m)]?=some w)(bR:w+(bO m:Nat)<v):JF g role kind (D.set (bS g.n.toNat p) (w+(bO m:Nat))):=by
 have dz:=hp.nU hV;have hq:=dB.step hp hm;obtain⟨v',vE,a1,a2,a3,a4⟩:=hI.v _ dz.1 dz.2;rw[hv] at vE;cases vE;obtain⟨w',Ss,b1,b2,b3,b4⟩:=hI.v _ (hq.nU hV).1 (hq.nU hV).2;rw[hw] at Ss;cases Ss;have hlen:bS g.n.toNat p<D.length:=by rw[hI.ln];exact dE dz.1 dz.2
 refine⟨by rw[jT,hI.ln],fun q h1 h2=>?_⟩;by_cases e:bS g.n.toNat p=bS g.n.toNat q
 .have:=oW dz.2 h2 e;subst this;have V6:=bM m;refine⟨_,Yq hlen,by omega,by omega,.inr ?_,fun hq c hc=>by have:=a4 hq c hc;omega⟩;rcases b3 with rfl | ⟨k,rfl,_,hd⟩
  .omega
  .exact⟨k+bO m,by omega,by omega,.step hm hd⟩
 .rw[Yy e];exact hI.v q h1 h2
noncomputable def O4(g:Gl)(role kind:Int)(k:Nat):Int:=by
 classical exact if dB g role (k/g.n.toNat,k%g.n.toNat) then oH g role kind (k/g.n.toNat,k%g.n.toNat) else ax
theorem JF.init{g:Gl}{role kind:Int}(hc:∀p c,bQ g role kind p=some c->0<=c/\c<=1000001){D:List Int}(hl:D.length=g.n.toNat*g.n.toNat)(hD:∀k:Nat,k<g.n.toNat*g.n.toNat->D[k]?=some (O4 g role kind k)):JF g role kind D:=by
 refine⟨hl,fun p h1 h2=>⟨_,hD _ (dE h1 h2),?_⟩⟩;unfold O4;rw[oX h2,oV h2];by_cases hp:dB g role (p.1,p.2)
 .rw[if_pos hp];unfold oH bt;cases h:bQ g role kind (p.1,p.2) with
  | none=>exact⟨by decide,by decide,.inl rfl,fun _ c iO=>by cases iO⟩
  | some c=>
   have:=hc _ _ h;unfold ax;refine⟨this.1,by show c<=_;omega,.inr ⟨c.toNat,by show c=_;omega,by show c<_;omega,.base (by rw[h];rfl)⟩,fun _ c' iO=>by cases iO;show c<=_;omega⟩
 .rw[if_neg hp];exact⟨by decide,by decide,.inl rfl,fun h9=>absurd h9 hp⟩
structure RZ (MV:List (Sl × List aP)) (n:Nat) (D D':List Int) (ch:Bool) (P:Nat->Nat->Prop):Prop where
 lt:ch=true->tZ D'<tZ D
 eq:ch=false->D'=D/\∀j t q m,MV[j]?=some q->q.2[t]?=some m->P j t->∀v w,D[j]?=some v->D[bS n (bj m)]?=some w->v<=w+(bO m:Nat)
theorem RZ.le{MV:List (Sl × List aP)}{n:Nat}{D D':List Int}{ch:Bool}{P:Nat->Nat->Prop}(h:RZ MV n D D' ch P):tZ D'<=tZ D:=by
 cases ch with
 | true=>exact Nat.le_of_lt (h.1 rfl)
 | false=>rw[(h.2 rfl).1];exact bc _
theorem RZ.br{MV:List (Sl × List aP)}{n:Nat}{D D':List Int}{ch:Bool}{P P':Nat->Nat->Prop}(h:RZ MV n D D' ch P)(hP:∀j t q m,MV[j]?=some q->q.2[t]?=some m->P' j t->P j t\/∀v w,D'[j]?=some v->D'[bS n (bj m)]?=some w->v<=w+(bO m:Nat)):RZ MV n D D' ch P':=by
 refine⟨h.1,fun c=>⟨(h.2 c).1,fun j t q m hq hm hp v w hv hw=>?_⟩⟩;rcases hP j t q m hq hm hp with h1 | h1
 .exact (h.2 c).2 j t q m hq hm h1 v w hv hw
 .rw[(h.2 c).1] at h1;exact h1 v w hv hw
def Q4(ob gb h0:Nat)(g:Gl)(pc:List Value)(D:List Int):List It:=[.ae ob (D.map (Value.int .i64)) 3,.ae gb g.cs 27,.ae h0 pc 118]
def aeS(g:Gl)(role kind:Int)(h:Heap)(v:Value)(h':Heap):Prop:=
 ∃(ob:Nat) (D:List Int),v=.slice (some ⟨ob,0,none⟩) (g.n.toNat*g.n.toNat) (g.n.toNat*g.n.toNat)/\St h h' [.sl ⟨some ⟨ob,0,none⟩,g.n.toNat*g.n.toNat,g.n.toNat*g.n.toNat⟩ 3 1 (D.map aO)]/\D.length=g.n.toNat*g.n.toNat/\∀p,dB g role p->D[bS g.n.toNat p]?=some (dL (bE g role) (bt g role kind) p)
theorem Mm(g:Gl)(role kind:Int)(ev en ar rs ms:Sl)(E:List (Sl × List Ev))(B:List Bool)(MS:List (Sl × List gD))(BL:List Bool)(MV:List (Sl × List aP))(h:Heap)(hg:GI h g)(hV:af g)(hM:J2 h g role ev en ar rs ms E B MS BL MV)(hP:S7 g role E B MS BL MV)(hc:∀p c,bQ g role kind p=some c->0<=c/\c<=1000001)(hk:kind=1\/kind=3\/kind=4):
  Fn Pz 117 #[.agg ⟨kg g role kind ev en ar rs ms⟩] h (aeS g role kind h):=by
 apply UT (bs g.nm) g.hr g.hd g.n g.s g.e g.he g.ht role kind ev en ar rs ms;unfold aae;have hN:=hV.num.n;have PT:=hV.num.m;have hn:g.n=((g.n.toNat:Nat):Int):=by omega
 have hNN:g.n.toNat*g.n.toNat<=200*200:=Nat.mul_le_mul (by omega) (by omega);have jY:=hM.rb.ln;rw[hP.r.bl] at jY;have hrN:Int.toNat (rs.n:Int)=g.n.toNat*g.n.toNat:=by omega
 have fB:0<g.n.toNat:=by omega
 have Lv:∀i:Nat,bS g.n.toNat (i/g.n.toNat,i%g.n.toNat)=i:=fun i=>Nat.div_add_mod i g.n.toNat;have Lw:∀i:Nat,i<g.n.toNat*g.n.toNat->i/g.n.toNat<g.n.toNat/\i%g.n.toNat<g.n.toNat:=fun i hi=>⟨Nat.div_lt_of_lt_mul hi,Nat.mod_lt _ fB⟩;have hdiv:∀i:Nat,i<g.n.toNat*g.n.toNat->IntKind.wrap .i64 (Int.tdiv (i:Int) g.n)=((i/g.n.toNat:Nat):Int):=fun i hi=>by
  have e1:Int.tdiv (i:Int) g.n=((i/g.n.toNat:Nat):Int):=by
   conv=>lhs;rw[hn]
   rfl
  have h0:=(Lw i hi).1;rw[e1];generalize i/g.n.toNat=a at h0 ⊢;rw[a7 (by omega) (by omega)]
 have Ea:∀i:Nat,Int.tmod (i:Int) g.n=((i%g.n.toNat:Nat):Int):=fun i=>by
  conv=>lhs;rw[hn]
  rfl
 have hmul:∀a b:Nat,a<g.n.toNat->b<g.n.toNat->IntKind.wrap .i64 (IntKind.wrap .i64 (((a:Nat):Int)*g.n)+((b:Nat):Int))=((bS g.n.toNat (a,b):Nat):Int):=fun a b ha hb=>by
  have h1:=dE (n:=g.n.toNat) (p:=(a,b)) ha hb;unfold bS at h1 ⊢;simp only at h1 ⊢;have h2:((a:Nat):Int)*g.n=((g.n.toNat*a:Nat):Int):=by rw[Int.natCast_mul,<-hn,Int.mul_comm]
  rw[h2,a7 (n:=((g.n.toNat*a:Nat):Int)) (by omega) (by omega),a7 (by omega) (by omega)];rfl
 refine (St.refl h).ak fun cy hs=>?_;refine⟨_,_,_,_,_,_,_,_,hs.at 0 rfl (o:=0) (n:=8) rfl,?_⟩;refine hs.ak fun h25 hs=>?_;refine hs.put 0 rfl (o:=0) (vs:=g.cs) rfl (show 8<=8 by decide) fun rN hs=>?_;refine⟨rs,hs.rd 1 rfl (i:=13) rfl,⟨by omega,by omega,by omega⟩,?_⟩;refine hs.ak fun JW hs=>?_;rw[GP,hrN] at hs;rw[hrN];have hs:St h JW (Q4 rN.size cy.size h.size g (kg g role kind ev en ar rs ms) (List.replicate (g.n.toNat*g.n.toNat) (0:Int))):=hs;refine⟨fun x h' μ=>∃(i:Nat) (D:List Int),x=(i:Int)/\μ=g.n.toNat*g.n.toNat-i/\i<=g.n.toNat*g.n.toNat/\St h h' (Q4 rN.size cy.size h.size g (kg g role kind ev en ar rs ms) D)/\D.length=g.n.toNat*g.n.toNat/\∀k,k<i->D[k]?=some (O4 g role kind k),⟨_,0,_,rfl,rfl,Nat.zero_le _,hs,Yg,fun k hk=>by omega⟩,?_⟩;clear hs;rintro-_ NQ μ ⟨i,D,rfl,rfl,hi,hs,SO,hD⟩;refine aM (fun c=>?_) (fun c=>?_)
 .have Pw:i<g.n.toNat*g.n.toNat:=by omega
  have e0:0+Int.toNat (i:Int)*1=i:=by omega
  refine⟨⟨by omega,by omega⟩,?_⟩;rw[e0];have BR:=Lw i Pw;have next:∀D' h',D'.length=g.n.toNat*g.n.toNat->(∀k,k<i->D'[k]?=D[k]?)->D'[i]?=some (O4 g role kind i)->St h h' (Q4 rN.size cy.size h.size g (kg g role kind ev en ar rs ms) D')->∃m2,m2<g.n.toNat*g.n.toNat-i/\∃(i':Nat) (D':List Int),IntKind.wrap .i64 ((i:Int)+1)=(i':Int)/\m2=g.n.toNat*g.n.toNat-i'/\i'<=g.n.toNat*g.n.toNat/\St h h' (Q4 rN.size cy.size h.size g (kg g role kind ev en ar rs ms) D')/\D'.length=g.n.toNat*g.n.toNat/\∀k,k<i'->D'[k]?=some (O4 g role kind k):=fun D' h' h1 h2 h3 h4=>
   ⟨_,(show g.n.toNat*g.n.toNat-(i+1)<g.n.toNat*g.n.toNat-i by omega),i+1,D',by rw[a7 (by omega) (by omega)];omega,rfl,by omega,h4,h1,fun k hk=>by
    by_cases e:k=i
    .rw[e,h3]
    .rw[h2 k (by omega),hD k (by omega)]⟩
  refine hs.put 0 rfl (o:=i) (vs:=[.int .i64 1073741824]) rfl (by rw[Yc,Yv];omega) fun oe hs=>?_;rw[bz (Value.int .i64) (by omega)] at hs;obtain⟨bv,hbv,hbp⟩:=hP.r.b (i/g.n.toNat,i%g.n.toNat) BR.1 BR.2;rw[Lv] at hbv;refine (hM.rb.ext hs.ext).aD (by omega) (by omega) fun YC Vv d gd u=>?_;replace gd:BL[i]?=some d:=gd;rw[hbv] at gd;cases gd;refine⟨_,u.nth 0 rfl,aa (fun c2=>?_) (fun c2=>?_)⟩
  .refine⟨_,_,_,_,_,_,_,_,_,_,_,_,_,_,_,hs.at 2 rfl (o:=0) (n:=15) rfl,g.n,hs.rd 1 rfl (i:=3) rfl,by omega,g.n,hs.rd 1 rfl (i:=3) rfl,by omega,?_⟩;rw[hdiv i Pw,Ea];refine (Gj g role kind ev en ar rs ms E B MS BL MV (i/g.n.toNat,i%g.n.toNat) oe (hg.ext hs.ext) hV (hM.ext hs.ext) hP BR.1 BR.2 hk).mono ?_;rintro _ uP ⟨rfl,X⟩;have hs:=hs.step X;refine⟨_,rfl,⟨by omega,by omega⟩,?_⟩;refine hs.put 0 rfl (o:=i) (vs:=[.int .i64 (oH g role kind (i/g.n.toNat,i%g.n.toNat))]) rfl (by rw[Yc,jT,Yv];omega) fun NP hs=>?_;rw[bz (Value.int .i64) (by rw[jT];omega)] at hs;refine next _ NP (by rw[jT,jT,SO]) (fun k hk=>by rw[Yy (by omega),Yy (by omega)]) ?_ hs;rw[Yq (by rw[jT];omega)];unfold O4;rw[if_pos (hbp.1 c2)]
  .refine next _ oe (by rw[jT,SO]) (fun k hk=>by rw[Yy (by omega)]) ?_ hs;rw[Yq (by omega)];unfold O4;rw[if_neg (cw hbp c2)];rfl
 .have cN:i=g.n.toNat*g.n.toNat:=by omega
  subst cN;have hB:=JF.init hc SO hD;refine⟨fun ch h' μ=>∃D,μ=2*tZ D+(if ch=true then 1 else 0)/\St h h' (Q4 rN.size cy.size h.size g (kg g role kind ev en ar rs ms) D)/\JF g role kind D/\(ch=false->aay g role D),⟨_,D,rfl,hs,hB,fun h9=>by cases h9⟩,?_⟩;clear hs hB hD SO;rintro-ch h65 μ ⟨D,rfl,hs,hB,hF⟩;refine aa (fun c2=>?_) (fun c2=>?_)
  .subst c2;refine⟨fun ch2 x h' μ=>∃(r:Nat) (D':List Int),x=(r:Int)-1/\r=μ/\r<=g.n.toNat*g.n.toNat/\St h h' (Q4 rN.size cy.size h.size g (kg g role kind ev en ar rs ms) D')/\JF g role kind D'/\RZ MV g.n.toNat D D' ch2 (fun j _=>r<=j),⟨_,g.n.toNat*g.n.toNat,D,by rw[a7 (by omega) (by omega)];omega,rfl,bc _,hs,hB,⟨(fun h9=>by cases h9),fun _=>⟨rfl,fun j t q m hq _ hj=>by have:=(Ya.1 hq).1;rw[hP.r.ml] at this;omega⟩⟩⟩,?_⟩;clear hs hB hF;rintro-ch2 _ LH μ ⟨r,D',rfl,rfl,hr,hs,hB,hR⟩;refine aM (fun c3=>?_) (fun c3=>?_)
   .obtain⟨i,rfl⟩:∃i,r=i+1:=⟨r-1,by omega⟩;rw[show ((i+1:Nat):Int)-1=(i:Int) by omega];have Pw:i<g.n.toNat*g.n.toNat:=by omega
    have BR:=Lw i Pw;obtain⟨q,hq,my,Hh⟩:=hP.r.m (i/g.n.toNat,i%g.n.toNat) BR.1 BR.2;rw[Lv] at hq;have hqm:=Yb hq;have rq:=hM.mm q hqm;have nt:=rq.ln;have acv:∀ {t:Nat} {m:aP},q.2[t]?=some m->dB g role (i/g.n.toNat,i%g.n.toNat)/\m∈bE g role (i/g.n.toNat,i%g.n.toNat):=fun {t m} hm=>by
     by_cases hp:dB g role (i/g.n.toNat,i%g.n.toNat)
     .refine⟨hp,?_⟩;rw[my hp] at hm;exact Yb hm
     .rw[Hh hp] at hm;cases hm
    have sn:q.2.length<=160800:=by
     by_cases hp:dB g role (i/g.n.toNat,i%g.n.toNat)
     .rw[my hp];exact fw PT
     .rw[Hh hp];exact Nat.zero_le _
    refine⟨ms,hs.rd 2 rfl (i:=14) rfl,kF (hM.rm.ext hs.ext) hq fun b73 o74 u=>⟨q.1,u,?_⟩⟩;refine⟨fun ch3 x h' μ=>∃(k:Nat) (D2:List Int),x=(k:Int)/\μ=q.1.n-k/\k<=q.1.n/\St h h' (Q4 rN.size cy.size h.size g (kg g role kind ev en ar rs ms) D2)/\JF g role kind D2/\RZ MV g.n.toNat D D2 ch3 (fun j t=>i+1<=j\/(j=i/\t<k)),⟨_,0,D',rfl,rfl,Nat.zero_le _,hs,hB,hR.br fun j t q' m _ _ hp=>.inl (by omega)⟩,?_⟩;clear hs hB hR;rintro-ch3 _ zK μ ⟨k,D2,rfl,rfl,jn,hs,hB,hR⟩;refine aM (fun c4=>?_) (fun c4=>?_)
    .obtain⟨m,gm⟩:=get_some (l:=q.2) (i:=k) (by omega);obtain⟨D5,mz⟩:=acv gm;have pG:=ia hV (p:=(i/g.n.toNat,i%g.n.toNat)) ⟨by simp only;omega,by simp only;omega⟩ mz;have xn:(bj m).1<g.n.toNat:=by omega
     have ig:(bj m).2<g.n.toNat:=by omega
     have uL:IntKind.wrap .i64 (IntKind.wrap .i64 (m.s*g.n)+m.t)=((bS g.n.toNat (bj m):Nat):Int):=by
      have:=hmul (bj m).1 (bj m).2 xn ig;rw[pG.2.2.1,pG.2.2.2] at this;exact this
     have hpq:=dE (n:=g.n.toNat) (p:=bj m) xn ig;have e0:0+Int.toNat ((bS g.n.toNat (bj m):Nat):Int)*1=bS g.n.toNat (bj m):=by omega
     have e1:0+Int.toNat (i:Int)*1=i:=by omega
     obtain⟨w,hw,w0,w1,_⟩:=hB.v (bj m) xn ig;obtain⟨v,hv,v0,v1,_⟩:=hB.v (i/g.n.toNat,i%g.n.toNat) BR.1 BR.2;have vE:=hv;rw[Lv] at hv;have V6:=bM m;unfold ax at w1 v1;have qN:IntKind.wrap .i64 ((k:Int)+1)=((k+1:Nat):Int):=by rw[a7 (by omega) (by omega)];omega
     have rd:∀ {h':Heap} {K':Nat->Nat->Prop},Ext h h'->(∀b o,a6 h' ⟨b,o+Int.toNat (k:Int)*2,none⟩ (jd m)->K' b o)->NB q.1.a fun b o=>(0<=(k:Int)/\(k:Int)<(q.1.n:Nat))/\K' b o:=fun {h' K'} X hK'=>by
      refine (rq.ext X).aD (by omega) (by omega) fun b o d gd t=>?_;replace gd:q.2[k]?=some d:=gd;rw[gm] at gd;cases gd;exact hK' b o t
     refine⟨_,_,_,_,_,_,_,_,hs.at 1 rfl (o:=0) (n:=8) rfl,g.n,hs.rd 1 rfl (i:=3) rfl,by omega,g.n,hs.rd 1 rfl (i:=3) rfl,by omega,rd hs.ext fun b92 o93 t=>⟨_,_,t,?_⟩⟩;rw[hdiv i Pw,Ea];refine (jQ g role (i/g.n.toNat) (i%g.n.toNat) m zK (hg.ext hs.ext) mz).mono ?_;rintro _ WY ⟨rfl,X⟩;have hs:=hs.step X;refine⟨_,_,rfl,g.n,hs.rd 1 rfl (i:=3) rfl,?_⟩;rw[uL];refine⟨⟨by omega,by omega⟩,?_⟩;rw[e0];refine⟨w,hs.rd 0 rfl (by rw[Yd,hw];rfl),rd hs.ext fun ahY agc t2=>⟨_,_,t2,?_⟩⟩;refine (Ch m.x m.y WY).mono ?_;rintro _ aed ⟨rfl,X2⟩;have hs:=hs.step X2;rw[<-wB];refine⟨_,rfl,X2.sm,⟨by omega,by omega⟩,?_⟩;rw[e1];refine⟨v,hs.rd 0 rfl (by rw[Yd,hv];rfl),?_⟩;rw[a7 (n:=w+((bO m:Nat):Int)) (by omega) (by omega)];refine aM (fun c5=>?_) (fun c5=>?_)
     .refine⟨⟨by omega,by omega⟩,?_⟩;have hD2:=hB.ln;refine hs.put 0 rfl (o:=i) (vs:=[.int .i64 (w+(bO m:Nat))]) rfl (by rw[Yc,Yv];omega) fun ahA hs=>?_;rw[bz (Value.int .i64) (by omega)] at hs;have PW:=hB.set hV D5 mz vE hw c5;rw[Lv] at PW;refine⟨_,(show q.1.n-(k+1)<q.1.n-k by omega),k+1,_,qN,rfl,by omega,hs,PW,⟨fun _=>?_,fun h9=>by cases h9⟩⟩;have:=vU hv (v':=w+(bO m:Nat)) (by omega) c5;have:=hR.le;omega
     .refine⟨_,(show q.1.n-(k+1)<q.1.n-k by omega),k+1,D2,qN,rfl,by omega,hs,hB,hR.br fun j t q' m' pF jZ hp=>?_⟩;by_cases e:j=i/\t=k
      .obtain⟨rfl,rfl⟩:=e;rw[hq] at pF;cases pF;rw[gm] at jZ;cases jZ;refine .inr fun v' w' Nl D3=>?_;rw[hv] at Nl;cases Nl;rw[hw] at D3;cases D3;omega
      .exact .inl (by omega)
    .refine⟨_,(show i<i+1 by omega),i,D2,by rw[a7 (by omega) (by omega)],rfl,by omega,hs,hB,hR.br fun j t q' m' pF jZ hp=>.inl ?_⟩;by_cases e:j=i
     .subst e;rw[hq] at pF;cases pF;have:=(Ya.1 jZ).1;exact .inr ⟨rfl,by omega⟩
     .exact .inl (by omega)
   .have Pg:r=0:=by omega
    subst Pg;refine⟨_,?_,D',rfl,hs,hB,fun c4=>?_⟩
    .cases ch2 with
     | true=>have:=hR.1 rfl;simp;omega
     | false=>rw[(hR.2 rfl).1];simp
    .obtain⟨h1,h2⟩:=hR.2 c4;intro p hp m hm v w hv hw;have dz:=hp.nU hV;obtain⟨q,hq,my,_⟩:=hP.r.m p dz.1 dz.2;obtain⟨t,ht⟩:=Yf.1 hm;rw[h1] at hv hw;exact h2 (bS g.n.toNat p) t q m hq (by rw[my hp];exact ht) (Nat.zero_le _) v w hv hw
  .have hs:=hs.dP (g.n.toNat*g.n.toNat) 1 (D.map aO) (ir (Value.int .i64) D) (cL _) (by rw[Yc,hB.ln]) (by simp only[maxLen];omega);refine⟨rN.size,D,rfl,hs.fK (L':=[_]) (R:=[_,_]) (List.Perm.refl _),hB.ln,fun p hp=>hB.fin hV (fun p' _ c iO=>?_) (hF c2) hp⟩;unfold bt at iO;obtain⟨c0,fV,rfl⟩:=sH.1 iO;have:=hc p' c0 fV;omega
def vO(wb ob gb rb h0 N:Nat)(g:Gl)(pc:List Value)(D:List Int)(w:Wt)(F S:List Ac):List It:=
 [.ae wb w.cs 39,.sl w.f 65 3 (F.map Ac.cs),.sl w.s 65 3 (S.map Ac.cs),.sl ⟨some ⟨ob,0,none⟩,N,N⟩ 3 1 (D.map aO),.ae gb g.cs 27,.ae rb cx.cs 39,.ae h0 pc 118]
def RA(h h':Heap)(W:WS)(b:Bool)(v:Value):Prop:=∃w:Wt,w.k=W.k/\w.r=W.r/\w.e=W.e/\w.o=W.o/\v=.tuple ⟨[.agg ⟨w.cs⟩,.bool b]⟩/\∃L,St h h' (.sl w.f 65 3 (W.F.map Ac.cs) :: .sl w.s 65 3 (W.S.map Ac.cs)::L)
theorem Gn{h hX kP cy:Heap}{ob gb h0 N:Nat}{g:Gl}{pc:List Value}{D:List Int}{w:Wt}{F S:List Ac}{K:Value->Heap->Prop}(hs:St h hX (vO kP.size ob gb cy.size h0 N g pc D w F S))
  (hK:∀h',RA h h' ⟨w.k,w.r,F,S,w.e,w.o⟩ true (.tuple ⟨[.agg ⟨w.cs⟩,.bool true]⟩)->K (.tuple ⟨[.agg ⟨w.cs⟩,.bool true]⟩) h'):IC hX kP cy K:=by
 unfold IC;refine yF hs 0 5 (w:=w) (w0:=cx) rfl rfl fun h' hs=>?_;refine oS (w:=w) (Q:=fun cs=>K (.tuple ⟨[.agg ⟨cs⟩,.bool true]⟩) h') (hs.at 5 rfl (o:=0) (n:=14) rfl) ?_;exact hK h' ⟨w,rfl,rfl,rfl,rfl,rfl,_,hs.drop 1⟩
theorem Oo{h hX kP iL:Heap}{ob rb N:Nat}{g:Gl}{role kind:Int}{pc:List Value}{D:List Int}{f s:Sl}{ms:List aP}{p:Pr}{q:Sl}{M:List aP}{k:Nat}{m:aP}{μ:Nat}{I:Int->Int->Heap->Nat->Prop}
  (hs:St h hX (vO kP.size ob iL.size rb h.size N g pc D ⟨kind,role,f,s,bp,bp⟩ (facts g ms) (ct g ms))) (hg:GI h g) (hq:Rw h 2 q (M.map jd)) (hm:M[k]?=some m) (mz:m∈bq g.es role p.1 p.2) (hl:ms.length<=8388608)
  (hI:∀h' f' s',St h h' (vO kP.size ob iL.size rb h.size N g pc D ⟨kind,role,f',s',bp,bp⟩ (facts g (ms++[m])) (ct g (ms++[m])))->∃m2,m2<μ/\I m.s m.t h' m2) :
  IB q (k:Nat) hX kP iL (p.1:Nat) (p.2:Nat) μ I:=by
 unfold IB;have fJ:=nz g ms;have nX:=sR g ms;have nt:=hq.ln;have qP:=(Ya.1 hm).1;have ki:=hg.e.ln;obtain⟨edx,edy⟩:=Bt mz;have rd:∀ {h':Heap} {K':Nat->Nat->Prop},Ext h h'->(∀b o,a6 h' ⟨b,o+Int.toNat (k:Int)*2,none⟩ (jd m)->K' b o)->NB q.a fun b o=>(0<=(k:Int)/\(k:Int)<(q.n:Nat))/\K' b o:=fun {h' K'} X hK'=>by
  refine (hq.ext X).aD (by omega) (by omega) fun b o d gd t=>?_;replace gd:M[k]?=some d:=gd;rw[hm] at gd;cases gd;exact hK' b o t
 have fin:∀ {h':Heap} {f' s':Sl},St h h' (vO kP.size ob iL.size rb h.size N g pc D ⟨kind,role,f',s',bp,bp⟩ (facts g ms++rQ g m.x) (ct g ms++rQ g m.y))->Mx h' iL q (k:Nat) (p.1:Nat) (p.2:Nat) μ I:=fun {h' f' s'} hs=>by
  unfold Mx;refine⟨_,_,_,_,_,_,_,_,hs.at 4 rfl (o:=0) (n:=8) rfl,rd hs.ext fun b o t=>⟨_,_,t,?_⟩⟩;refine (jQ g role p.1 p.2 m h' (hg.ext hs.ext) mz).mono ?_;rintro _ Xd ⟨rfl,X⟩;have hs:=hs.step X;refine⟨_,_,rfl,hI Xd f' s' ?_⟩;rw[q6,qc];exact hs
 refine⟨fun h'=>∃f',St h h' (vO kP.size ob iL.size rb h.size N g pc D ⟨kind,role,f',s,bp,bp⟩ (facts g ms++rQ g m.x) (ct g ms)),?_,?_⟩
 .refine rd hs.ext fun b o t=>⟨_,t.nth 0 rfl,aM (fun c=>?_) (fun c=>?_)⟩
  .have BE:=edx c;refine⟨f,hs.rd 0 rfl (i:=2) rfl,g.he,hs.rd 4 rfl (i:=6) rfl,rd hs.ext fun b2 o2 t2=>⟨_,t2.nth 0 rfl,?_⟩⟩;refine (hg.e.rw.ext hs.ext).aD (by omega) (by omega) fun Q9 OJ x gx u=>?_;replace gx:g.es[m.x.toNat]?=some x:=gx;have uN:rQ g m.x=[x.act]:=by unfold rQ;rw[if_pos c,aK gx]
   refine⟨x.a,x.b,x.l,u.sub 1 3 rfl,fun uS e2=>⟨(show Ext hX uS by rw[e2];exact Ext.push _ _).sm,?_⟩⟩;refine hs.rz 0 1 rfl rfl eJ (x:=x.act) e2 rfl rfl (by omega) (by decide) 2 (by show 2<14;decide) (by decide) fun s' h' hs=>?_;refine⟨s',?_⟩;rw[uN];exact hs
  .have uN:rQ g m.x=[]:=by unfold rQ;rw[if_neg c]
   refine⟨f,?_⟩;rw[uN,Yw];exact hs
 .clear hs;rintro-Qa ⟨f',hs⟩;refine rd hs.ext fun b o t=>⟨_,t.nth 1 rfl,aM (fun c=>?_) (fun c=>?_)⟩
  .have hyl:=edy c;refine⟨s,hs.rd 0 rfl (i:=3) rfl,g.he,hs.rd 4 rfl (i:=6) rfl,rd hs.ext fun b2 o2 t2=>⟨_,t2.nth 1 rfl,?_⟩⟩;refine (hg.e.rw.ext hs.ext).aD (by omega) (by omega) fun Q9 OJ x gx u=>?_;replace gx:g.es[m.y.toNat]?=some x:=gx;have uN:rQ g m.y=[x.act]:=by unfold rQ;rw[if_pos c,aK gx]
   refine⟨x.a,x.b,x.l,u.sub 1 3 rfl,fun uS e2=>⟨(show Ext Qa uS by rw[e2];exact Ext.push _ _).sm,?_⟩⟩;refine hs.rz 0 2 rfl rfl eJ (x:=x.act) e2 rfl rfl (by omega) (by decide) 3 (by show 3<14;decide) (by decide) fun s' h' hs=>?_;refine fin (f':=f') (s':=s') ?_;rw[uN];exact hs
  .have uN:rQ g m.y=[]:=by unfold rQ;rw[if_neg c]
   refine fin (f':=f') (s':=s) ?_;rw[uN,Yw];exact hs
theorem jU{a:Addr}{al:List Addr}{h h':Heap}(h1:Sm [a] h h')(h2:Sm al h h'):Sm (a::al) h h':=fun x hx=>by
 rcases Yr.1 hx with rfl | hx
 .exact h1 _ (Ye.2 rfl)
 .exact h2 x hx
theorem NV{h hX kP iL cy ht:Heap}{ob N:Nat}{g:Gl}{role:Int}{ev en ar rs ms:Sl}{D:List Int}{f s:Sl}{F S:List Ac}{a:gD}{K:Value->Heap->Prop}
  (hs:St h hX (.ae ht.size [.int .i64 0,.int .i64 0,.int .i64 0,.slice none 0 0] 213::vO kP.size ob iL.size cy.size h.size N g (kg g role 4 ev en ar rs ms) D ⟨4,role,f,s,bp,bp⟩ F S)) (hg:GI h g) {x:Ed} (hx:g.es[a.1]?=some x) (hv:aW role x=some ⟨false,x.a,x.l⟩) (hp:RL h 3 a.2.2 Ac.cs a.2.1.path) (hF:F.length<=8388608) (hP:a.2.1.path.length<=1000000)
  (hK:∀w h',RA h h' ⟨4,role,F++[x.act]++a.2.1.path,S,aI role a.2.1.m.ev,aI role ⟨false,x.a,x.l⟩⟩ true (.tuple ⟨[.agg ⟨Wt.cs w⟩,.bool true]⟩)->K (.tuple ⟨[.agg ⟨Wt.cs w⟩,.bool true]⟩) h') :
  My hX ht (a.1:Nat) a.2.1.m.p a.2.1.m.l a.2.2 h iL kP cy K:=by
 unfold My;have ki:=hg.e.ln;have BE:=(Ya.1 hx).1;refine hs.put 0 rfl (o:=0) (vs:=rC a) rfl (show 4<=4 by decide) fun ado hs=>?_;refine⟨role,hs.rd 7 rfl (i:=8) rfl,_,_,hs.at 0 rfl (o:=1) (n:=2) rfl,g.he,hs.rd 5 rfl (i:=6) rfl,_,hs.rd 0 rfl (i:=0) rfl,?_⟩;have JJ:∀ {h':Heap} {K':Nat->Nat->Prop},Ext h h'->(∀b o,a6 h' ⟨b,o+Int.toNat ((a.1:Nat):Int)*6,none⟩ x.cs->b<h.size->K' b o)->NB g.he.a fun b o=>(0<=((a.1:Nat):Int)/\((a.1:Nat):Int)<(g.he.n:Nat))/\K' b o:=fun {h' K'} X hK'=>by
  refine hg.e.rw.aD (by omega) (by omega) fun b o d gd u=>?_;replace gd:g.es[a.1]?=some d:=gd;rw[hx] at gd;cases gd;exact hK' b o (mi X u) (et (u.nth 0 rfl))
 refine JJ hs.ext fun ahF afK u hb=>⟨_,_,_,_,_,_,u,role,hs.rd 7 rfl (i:=8) rfl,?_⟩;refine (qk role a.2.1.m ado).mono ?_;rintro _ adn ⟨rfl,X1⟩;have hs:=hs.step X1;refine⟨_,_,_,_,⟨none,0,0⟩,rfl,X1.sm,?_⟩;refine (pJ x role _ hv adn).mono ?_;rintro _ ahb ⟨rfl,X2⟩;have hs:=hs.step X2;refine⟨_,_,_,_,⟨none,0,0⟩,rfl,X2.sm,?_⟩;refine hs.put 1 rfl (o:=4) (vs:=aC role a.2.1.m.ev) rfl (show 4+5<=14 by decide) fun aha bG=>?_;refine⟨jU (hs.jk bG 7 7 8 rfl rfl) (jU (aX hs bG (aF hb bg)) (jU (hs.jk bG 0 0 0 rfl rfl) (hs.jk bG 5 5 6 rfl rfl))),?_⟩;refine bG.put 1 rfl (o:=9) (vs:=aC role ⟨false,x.a,x.l⟩) rfl (show 9+5<=14 by decide) fun P3 hs=>?_;have hs:St h P3 (.ae ht.size (rC a) 213::vO kP.size ob iL.size cy.size h.size N g (kg g role 4 ev en ar rs ms) D ⟨4,role,f,s,aI role a.2.1.m.ev,aI role ⟨false,x.a,x.l⟩⟩ F S):=hs;refine⟨f,hs.rd 1 rfl (i:=2) rfl,g.he,hs.rd 5 rfl (i:=6) rfl,_,hs.rd 0 rfl (i:=0) rfl,JJ hs.ext fun ahE afJ u2 _=>⟨_,_,_,u2.sub 1 3 rfl,a.2.2,hs.rd 0 rfl (i:=3) rfl,fun adl e=>?_⟩⟩;have BQ:=(hs.len 2 (s:=f) (e:=65) (n:=3) rfl (by decide)).1;rw[Yc] at BQ;refine⟨(show Ext P3 adl by rw[e];exact Ext.push _ _).sm,?_⟩;have fU:=hs.dh e;have hpn:=hp.ln;refine fU.appended 3 (s:=f) (rows:=F.map Ac.cs) rfl eJ (m:=1) (news:=[x.act.cs]) (by rw[List.flatten_singleton];exact fU.at 0 rfl (o:=0) (n:=3) rfl) rfl (fun r hr=>by rw[Ye.1 hr];rfl) rfl (by omega) (by simp only[maxLen];omega) fun abS adk agk iK=>?_;have iK:St h adk (.ae P3.size x.act.cs 65 :: .ae ht.size (rC a) 213 :: .ae kP.size (Wt.cs ⟨4,role,f,s,aI role a.2.1.m.ev,aI role ⟨false,x.a,x.l⟩⟩) 39 :: .sl abS 65 3 (F.map Ac.cs++[x.act.cs])::_):=iK;refine⟨fU.jk iK 1 1 3 rfl rfl,?_⟩;refine iK.dY 3 (rows:=F.map Ac.cs++[x.act.cs]) (news:=a.2.1.path.map Ac.cs) rfl eJ (y:=a.2.2) (hp.rw.ext iK.ext) (Aj _) hp.nil (eu (fun _=>rfl) _) (by omega) (by simp only[maxLen];omega) fun Kx agZ agj Hc=>?_;refine Hc.put 2 rfl (o:=2) (vs:=[.slice Kx.a Kx.n Kx.c]) rfl (show 2+1<=14 by decide) fun adj hs=>?_;have hs:St h adj (vO kP.size ob iL.size cy.size h.size N g (kg g role 4 ev en ar rs ms) D ⟨4,role,Kx,s,aI role a.2.1.m.ev,aI role ⟨false,x.a,x.l⟩⟩ (F++[x.act]++a.2.1.path) S):=by
  have hs:=hs.drop 2;unfold vO;rw[Ym,Ym];exact hs
 exact Gn hs fun h' hw=>hK _ h' hw
theorem Ka{α:Type}{a b c d e f i:α}:([a,b,c,d,e,i,f]:List α).Perm [c,a,b,f,d,e,i]:=
 ((List.perm_append_comm (l₁:=[a,b]) (l₂:=[c])).append_right [d,e,i,f]).trans (List.Perm.append_left [c,a,b] (List.perm_append_comm (l₁:=[d,e,i]) (l₂:=[f])))
theorem Gd(ms:List aP):ms.length<=(ms.map bO).sum:=by
 induction ms with
 | nil=>exact Nat.zero_le _
 | cons m ms ih=>have:=bM m;rw[gG,List.sum_cons,j8];omega
def YJ(g:Gl)(role kind:Int)(h:Heap)(v:Value)(h':Heap):Prop:=∃W n,ku g role kind W n/\RA h h' W (decide (n<ax)) v
theorem Ig{g:Gl}{role:Int}{s:Nat}{y:fP}(hV:af g)(hy:y∈du g role s):∃(i:Nat) (x:Ed),y.e=(i:Int)/\g.es[i]?=some x/\aW role x=some ⟨false,x.a,x.l⟩:=by
 unfold du at hy;obtain⟨i,hi,hy⟩:=List.mem_flatMap.1 hy;obtain⟨x,hx,_⟩:=aA.1 hi;unfold iv at hy;split at hy
 .rename_i hb;rw[aK hx] at hb;unfold tM at hy;obtain⟨m,_,rfl⟩:=Yp.1 hy;refine⟨i,x,rfl,hx,?_⟩;have hd:=hV.num.e x (Yb hx);unfold aW;rw[if_neg (fun e=>?_),if_pos hb.symm];unfold gU at hd;omega
 .cases hy
theorem C6(g:Gl)(role kind:Int)(ev en ar rs ms:Sl)(E:List (Sl × List Ev))(B:List Bool)(MS:List (Sl × List gD))(BL:List Bool)(MV:List (Sl × List aP))(h:Heap)(hg:GI h g)(hV:af g)(hM:J2 h g role ev en ar rs ms E B MS BL MV)(hP:S7 g role E B MS BL MV)(hcb:∀p c,bQ g role kind p=some c->0<=c/\c<=1000001)(hk:kind=1\/kind=3\/kind=4):
  Fn Pz 62 #[.agg ⟨kg g role kind ev en ar rs ms⟩] h (YJ g role kind h):=by
 apply abd (bs g.nm) g.hr g.hd g.n g.s g.e g.he g.ht role kind ev en ar rs ms;unfold W62 EI;have hN:=hV.num.n;have PT:=hV.num.m;have hNN:g.n.toNat*g.n.toNat<=200*200:=Nat.mul_le_mul (by omega) (by omega);have hmul:∀p:Pr,p.1<g.n.toNat->p.2<g.n.toNat->IntKind.wrap .i64 (IntKind.wrap .i64 (((p.1:Nat):Int)*g.n)+((p.2:Nat):Int))=((bS g.n.toNat p:Nat):Int):=fun p ha hb=>by
  have h1:=dE ha hb;unfold bS at h1 ⊢;have h2:((p.1:Nat):Int)*g.n=((g.n.toNat*p.1:Nat):Int):=by rw[Int.natCast_mul,show ((g.n.toNat:Nat):Int)=g.n by omega,Int.mul_comm]
  rw[h2,a7 (n:=((g.n.toNat*p.1:Nat):Int)) (by omega) (by omega),a7 (by omega) (by omega)];rfl
 refine (St.refl h).ak fun cy hs=>?_;refine hs.ak fun iL hs=>?_;refine⟨_,_,_,_,_,_,_,_,hs.at 1 rfl (o:=0) (n:=8) rfl,?_⟩;refine hs.ak fun rN hs=>?_;refine hs.put 0 rfl (o:=0) (vs:=g.cs) rfl (show 8<=8 by decide) fun zO hs=>?_;refine⟨_,_,_,_,_,_,_,_,_,_,_,_,_,_,_,hs.at 2 rfl (o:=0) (n:=15) rfl,?_⟩;refine (Mm g role kind ev en ar rs ms E B MS BL MV zO (hg.ext hs.ext) hV (hM.ext hs.ext) hP hcb hk).mono ?_;rintro _ kP ⟨ob,D,rfl,hsD,SO,hD⟩;have hs:=hs.join hsD;have hs:St h kP [.ae iL.size g.cs 27,.ae cy.size cx.cs 39,.ae h.size (kg g role kind ev en ar rs ms) 118,.sl ⟨some ⟨ob,0,none⟩,g.n.toNat*g.n.toNat,g.n.toNat*g.n.toNat⟩ 3 1 (D.map aO)]:=hs;have rdD:∀ {h':Heap} {L:List It} {k:Nat} {p:Pr} {K':Nat->Nat->Prop},St h h' L->L[k]?=some (.sl ⟨some ⟨ob,0,none⟩,g.n.toNat*g.n.toNat,g.n.toNat*g.n.toNat⟩ 3 1 (D.map aO))->dB g role p->(∀b o,hc h' ⟨b,o+Int.toNat ((bS g.n.toNat p:Nat):Int)*1,none⟩=some (.int .i64 (dL (bE g role) (bt g role kind) p))->K' b o)->NB (Sl.a ⟨some ⟨ob,0,none⟩,g.n.toNat*g.n.toNat,g.n.toNat*g.n.toNat⟩) fun b o=>(0<=((bS g.n.toNat p:Nat):Int)/\((bS g.n.toNat p:Nat):Int)<(Sl.n ⟨some ⟨ob,0,none⟩,g.n.toNat*g.n.toNat,g.n.toNat*g.n.toNat⟩:Nat))/\K' b o:=fun {h' L k p K'} bL hL hp hK'=>by
  have dz:=hp.nU hV;refine (bL.rows k (s:=⟨some ⟨ob,0,none⟩,g.n.toNat*g.n.toNat,g.n.toNat*g.n.toNat⟩) (cs:=aO) (l:=D) hL (by decide)).aD (Int.natCast_nonneg _) (Int.ofNat_lt.2 (dE dz.1 dz.2)) fun b o d gd u=>?_;replace gd:D[bS g.n.toNat p]?=some d:=gd;rw[hD p hp] at gd;cases gd;exact hK' b o (u.nth 0 rfl)
 have oL:dB g role (eM g):=.start;have nX:=oL.nU hV;have hgs:g.s=(((eM g).1:Nat):Int):=by show g.s=((g.s.toNat:Nat):Int);omega
 have acI:g.s=(((eM g).2:Nat):Int):=hgs;refine⟨⟨some ⟨ob,0,none⟩,g.n.toNat*g.n.toNat,g.n.toNat*g.n.toNat⟩,rfl,((eM g).1:Nat),by rw[<-hgs];exact hs.rd 0 rfl (i:=4) rfl,((eM g).2:Nat),by rw[<-acI];exact hs.rd 0 rfl (i:=4) rfl,g.n,hs.rd 0 rfl (i:=3) rfl,?_⟩;rw[hmul _ nX.1 nX.2];refine rdD hs (k:=3) rfl oL fun b49 o50 u=>⟨_,u,aM (fun c=>?_) (fun c=>?_)⟩
 .have ca:∀n,¬iM (bE g role) (bt g role kind) (eM g) n:=fun n hn=>by
   rw[js hn] at c;have:=hn.bd hV (C:=1000001) (fun p _ c iO=>by
    unfold bt at iO;obtain⟨c0,fV,rfl⟩:=sH.1 iO;have:=hcb p c0 fV;omega) oL
   omega
  refine hs.put 1 rfl (o:=0) (vs:=cx.cs) rfl (bc 14) fun zM hs=>?_;refine oS (w:=cx) (Q:=fun cs=>YJ g role kind h (.tuple ⟨[.agg ⟨cs⟩,.bool false]⟩) zM) (hs.at 1 rfl (o:=0) (n:=14) rfl) ?_;exact⟨kY,ax,.iR ca,cx,rfl,rfl,rfl,rfl,rfl,[],(((St.refl h).step hs.ext).bJ 65 3).bJ 65 3⟩
 .have hex:∃n,iM (bE g role) (bt g role kind) (eM g) n:=Classical.byContradiction fun ca=>by
   rw[tK fun n hn=>ca ⟨n,hn⟩] at c;exact c (by decide)
  obtain⟨n,hl⟩:=hex;have hC:∀p,dB g role p->∀c,bt g role kind p=some c->c<=1000001:=fun p _ c iO=>by
   unfold bt at iO;obtain⟨c0,fV,rfl⟩:=sH.1 iO;have:=hcb p c0 fV;omega
  have hdL:∀q,dB g role q->0<=dL (bE g role) (bt g role kind) q/\dL (bE g role) (bt g role kind) q<=ax:=fun q hq=>by
   by_cases he:∃k,iM (bE g role) (bt g role kind) q k
   .obtain⟨k1,Wo⟩:=he;have:=Wo.bd hV hC hq;rw[js Wo];unfold ax;omega
   .rw[tK fun n hn=>he ⟨n,hn⟩];decide
  have hnb:=hl.bd hV hC oL;have yz:=js hl;refine⟨kind,hs.rd 2 rfl (i:=9) rfl,role,hs.rd 2 rfl (i:=8) rfl,?_⟩;refine hs.ak fun PX hs=>?_;refine hs.put 0 rfl (o:=0) (vs:=Wt.cs ⟨kind,role,aq,aq,bp,bp⟩) rfl (bc 14) fun j6 hs=>?_;have hs:St h j6 (vO kP.size ob iL.size cy.size h.size (g.n.toNat*g.n.toNat) g (kg g role kind ev en ar rs ms) D ⟨kind,role,aq,aq,bp,bp⟩ (facts g []) (ct g [])):=by
   have hs:=(hs.bJ 65 3).bJ 65 3;refine hs.perm ?_;exact Ka
  refine⟨fun x y h' μ=>∃(ways:List aP) (p:Pr) (f s:Sl),x=((p.1:Nat):Int)/\y=((p.2:Nat):Int)/\(dL (bE g role) (bt g role kind) p).toNat=μ/\nI (bE g role) (bQ g role kind) (dL (bE g role) (bt g role kind)) (eM g) ways p/\St h h' (vO kP.size ob iL.size cy.size h.size (g.n.toNat*g.n.toNat) g (kg g role kind ev en ar rs ms) D ⟨kind,role,f,s,bp,bp⟩ (facts g ways) (ct g ways)),⟨_,[],eM g,_,_,rfl,rfl,rfl,.nil,hs⟩,?_⟩;clear hs u;rintro-_ _ W4 μ ⟨ways,p,f,s,rfl,rfl,rfl,hG,hs⟩;have hp:=hG.prr;have dz:=hp.nU hV;have hlen:=hG.len;have Nw:=Gd ways;rw[yz] at hlen;obtain⟨np,hlp⟩:∃k,iM (bE g role) (bt g role kind) p k:=Classical.byContradiction fun ca=>by
   rw[tK fun n hn=>ca ⟨n,hn⟩] at hlen;unfold ax at hlen;omega
  have Ef:=js hlp;have SD:=hlp.bd hV hC hp;rw[Ef] at hlen;refine⟨_,_,_,_,_,_,_,_,_,_,_,_,_,_,_,hs.at 6 rfl (o:=0) (n:=15) rfl,g.n,hs.rd 4 rfl (i:=3) rfl,?_⟩;rw[hmul _ dz.1 dz.2];refine rdD hs (k:=3) rfl hp fun b93 o94 u=>⟨_,u,?_⟩;rw[Ef];refine (Gj g role kind ev en ar rs ms E B MS BL MV p W4 (hg.ext hs.ext) hV (hM.ext hs.ext) hP dz.1 dz.2 hk).mono ?_;rintro _ h98 ⟨rfl,X⟩;have hs:=hs.step X;refine⟨_,rfl,X.sm,fZ (fun c2=>?_) (fun c2=>?_)⟩
  .have bH:bQ g role kind p≠some (dL (bE g role) (bt g role kind) p):=fun e=>c2 (by unfold oH;rw[e,Ef];rfl);obtain⟨k0,m0,gE,gm0⟩:∃k0 m0,(bE g role p).findIdx? (qy (dL (bE g role) (bt g role kind)) p)=some k0/\(bE g role p)[k0]?=some m0:=by
    have hd:=hlp.1;cases hd with
    | base iO=>
     unfold bt at iO;obtain⟨c0,fV,e0⟩:=sH.1 iO;have:=hcb p c0 fV;exact absurd (by rw[fV,Ef,<-e0];congr 1;omega) bH
    | @step _ m n' hm Hr=>
     have k8:iM (bE g role) (bt g role kind) (bj m) n':=⟨Hr,fun k hk=>by have:=hlp.2 _ (.step hm hk);omega⟩;have lR:qy (dL (bE g role) (bt g role kind)) p m=true:=by
      unfold qy;rw[js k8,Ef];exact decide_eq_true (by omega)
     cases cn:(bE g role p).findIdx? (qy (dL (bE g role) (bt g role kind)) p) with
     | none=>rw[List.findIdx?_eq_none_iff] at cn;rw[cn m hm] at lR;cases lR
     | some k=>
      obtain⟨h1,_⟩:=List.findIdx?_eq_some_iff_getElem.1 cn;exact⟨k,_,rfl,Yi h1⟩
   have Pp:m0∈bE g role p:=Yb gm0;have Wb:(bO m0:Int)+dL (bE g role) (bt g role kind) (bj m0)=np:=by
    obtain⟨h1,h2,_⟩:=List.findIdx?_eq_some_iff_getElem.1 gE;rw[(Ya.1 gm0).2] at h2;unfold qy at h2;rw[Ef] at h2;exact cd h2
   obtain⟨q,hq,my,_⟩:=hP.r.m p dz.1 dz.2;have fL:q.2=bE g role p:=my hp;have rq:=hM.mm q (Yb hq);rw[fL] at rq;have nt:=rq.ln;have sn:(bE g role p).length<=160800:=fw PT;have s7:∀h2 f' s',St h h2 (vO kP.size ob iL.size cy.size h.size (g.n.toNat*g.n.toNat) g (kg g role kind ev en ar rs ms) D ⟨kind,role,f',s',bp,bp⟩ (facts g (ways++[m0])) (ct g (ways++[m0])))->∃m2,m2<((np:Nat):Int).toNat/\∃(ways:List aP) (p:Pr) (f s:Sl),m0.s=((p.1:Nat):Int)/\m0.t=((p.2:Nat):Int)/\(dL (bE g role) (bt g role kind) p).toNat=m2/\nI (bE g role) (bQ g role kind) (dL (bE g role) (bt g role kind)) (eM g) ways p/\St h h2 (vO kP.size ob iL.size cy.size h.size (g.n.toNat*g.n.toNat) g (kg g role kind ev en ar rs ms) D ⟨kind,role,f,s,bp,bp⟩ (facts g ways) (ct g ways)):=fun h2 f' s' bG=>by
    have pG:=ia hV (p:=p) (by omega) Pp;have V6:=bM m0;refine⟨(dL (bE g role) (bt g role kind) (bj m0)).toNat,?_,ways++[m0],bj m0,f',s',pG.2.2.1.symm,pG.2.2.2.symm,rfl,.snoc hG bH gE gm0,bG⟩;have:=hdL _ (dB.step hp Pp);omega
   have fin:∀ {h':Heap} {μ:Nat} {I:Int->Int->Heap->Nat->Prop},St h h' (vO kP.size ob iL.size cy.size h.size (g.n.toNat*g.n.toNat) g (kg g role kind ev en ar rs ms) D ⟨kind,role,f,s,bp,bp⟩ (facts g ways) (ct g ways))->(∀h2 f' s',St h h2 (vO kP.size ob iL.size cy.size h.size (g.n.toNat*g.n.toNat) g (kg g role kind ev en ar rs ms) D ⟨kind,role,f',s',bp,bp⟩ (facts g (ways++[m0])) (ct g (ways++[m0])))->∃m2,m2<μ/\I m0.s m0.t h2 m2)->IB q.1 (k0:Nat) h' kP iL (p.1:Nat) (p.2:Nat) μ I:=fun hs hI=>Oo hs hg rq gm0 Pp (by omega) hI;refine⟨ms,hs.rd 6 rfl (i:=14) rfl,g.n,hs.rd 4 rfl (i:=3) rfl,?_⟩;rw[hmul _ dz.1 dz.2];refine kF (hM.rm.ext hs.ext) hq fun ahZ agd u2=>⟨q.1,u2,?_⟩;refine⟨fun nx y h' μ=>∃k:Nat,y=(k:Int)/\q.1.n-k=μ/\k<=q.1.n/\St h h' (vO kP.size ob iL.size cy.size h.size (g.n.toNat*g.n.toNat) g (kg g role kind ev en ar rs ms) D ⟨kind,role,f,s,bp,bp⟩ (facts g ways) (ct g ways))/\((nx=-1/\∀(j:Nat) m,j<k->(bE g role p)[j]?=some m->qy (dL (bE g role) (bt g role kind)) p m=false)\/nx=((k0:Nat):Int)),⟨_,0,rfl,rfl,Nat.zero_le _,hs,.inl ⟨rfl,fun j m hj=>by omega⟩⟩,?_⟩;clear hs u u2;rintro-nx _ HE μ ⟨k,rfl,rfl,jn,hs,hI⟩;refine aM (fun c3=>?_) (fun c3=>?_)
   .refine aM (fun c4=>?_) (fun c4=>?_)
    .obtain⟨rfl,ca⟩:nx=-1/\∀(j:Nat) m,j<k->(bE g role p)[j]?=some m->qy (dL (bE g role) (bt g role kind)) p m=false:=by
      rcases hI with h1 | h1
      .exact h1
      .omega
     obtain⟨m,gm⟩:=get_some (l:=bE g role p) (i:=k) (by omega);have mz:m∈bE g role p:=Yb gm;have pG:=ia hV (p:=p) (by omega) mz;have oM:dB g role (bj m):=.step hp mz;have V7:=oM.nU hV;have V6:=bM m;have rd:∀ {h':Heap} {K':Nat->Nat->Prop},Ext h h'->(∀b o,a6 h' ⟨b,o+Int.toNat (k:Int)*2,none⟩ (jd m)->K' b o)->NB q.1.a fun b o=>(0<=(k:Int)/\(k:Int)<(q.1.n:Nat))/\K' b o:=fun {h' K'} X hK'=>by
      refine (rq.ext X).aD (by omega) (by omega) fun b o d gd t=>?_;replace gd:(bE g role p)[k]?=some d:=gd;rw[gm] at gd;cases gd;exact hK' b o t
     have qN:IntKind.wrap .i64 ((k:Int)+1)=((k+1:Nat):Int):=by rw[a7 (by omega) (by omega)];omega
     refine⟨_,_,_,_,_,_,_,_,hs.at 4 rfl (o:=0) (n:=8) rfl,rd hs.ext fun Ie KI t=>⟨_,_,t,?_⟩⟩;refine (jQ g role p.1 p.2 m HE (hg.ext hs.ext) mz).mono ?_;rintro _ adW ⟨rfl,X2⟩;have hs:=hs.step X2;refine⟨_,_,rfl,g.n,hs.rd 4 rfl (i:=3) rfl,?_⟩;rw[<-pG.2.2.1,<-pG.2.2.2,hmul _ V7.1 V7.2];refine rdD hs (k:=3) rfl oM fun ahU afY u=>⟨_,u,rd hs.ext fun ahT afX t2=>⟨_,_,t2,g.n,hs.rd 4 rfl (i:=3) rfl,?_⟩⟩;rw[hmul _ dz.1 dz.2];refine rdD hs (k:=3) rfl hp fun ahR afV u2=>⟨_,u2,?_⟩;refine (Ch m.x m.y adW).mono ?_;rintro _ Ek ⟨rfl,X3⟩;have hs:=hs.step X3;rw[<-wB,Ef];have Lw:=hdL _ oM;have acO:=Lw.2;unfold ax at acO;refine⟨_,rfl,X3.sm,?_⟩;rw[a7 (n:=dL (bE g role) (bt g role kind) (bj m)+((bO m:Nat):Int)) (by omega) (by omega)];refine dp (fun c5=>?_) (fun c5=>?_)
     .have lR:qy (dL (bE g role) (bt g role kind)) p m=true:=by
       unfold qy;rw[Ef];exact decide_eq_true (by omega)
      have:=kJ ca gm lR;rw[gE] at this;cases this;exact⟨_,(show q.1.n-(k0+1)<q.1.n-k0 by omega),k0+1,qN,rfl,by omega,hs,.inr rfl⟩
     .refine⟨_,(show q.1.n-(k+1)<q.1.n-k by omega),k+1,qN,rfl,by omega,hs,.inl ⟨rfl,fun j y hj hy=>?_⟩⟩;by_cases e:j=k
      .subst e;rw[gm] at hy;cases hy;unfold qy;rw[Ef];exact decide_eq_false (by omega)
      .exact ca j y (by omega) hy
    .rcases hI with ⟨rfl,_⟩ | rfl
     .exact absurd (by decide) c4
     .exact fin hs s7
   .rcases hI with ⟨rfl,ca⟩ | rfl
    .rw[w7 fun j y hy=>ca j y (by have:=(Ya.1 hy).1;omega) hy] at gE;cases gE
    .exact fin hs s7
  .have Fj:bQ g role kind p=some (dL (bE g role) (bt g role kind) p):=by
    unfold oH at c2;cases h9:bQ g role kind p with
    | none=>rw[h9] at c2;replace c2:ax=(np:Int):=c2;unfold ax at c2;omega
    | some c0=>rw[h9] at c2;replace c2:c0=(np:Int):=c2;rw[Ef,c2]
   have hB:=ku.hit hl (by omega) hG Fj;obtain⟨q1,my,e1⟩:=hP.p.e p.1 dz.1;obtain⟨q2,fL,e2⟩:=hP.p.e p.2 dz.2;have xn:=hP.p.el (role:=role) p.1;have ig:=hP.p.el (role:=role) p.2;have fJ:=nz g ways;have rL:decide (((n:Nat):Int)<ax)=true:=decide_eq_true (by unfold ax;omega);refine⟨kind,hs.rd 6 rfl (i:=9) rfl,dp (fun c3=>?_) (fun c3=>dp (fun c4=>?_) (fun c4=>?_))⟩
   .subst c3;have r1:=(hM.v.re q1 (Yb my));have r2:=(hM.v.re q2 (Yb fL));rw[e1] at r1;rw[e2] at r2;obtain⟨x0,jJ⟩:∃x0,(az g role (p.1:Nat)).find? (dx (az g role (p.2:Nat)))=some x0:=by
     unfold bQ at Fj;rw[if_pos rfl,if_pos ⟨dz.1,dz.2⟩] at Fj;split at Fj
     .rename_i h9;exact Option.isSome_iff_exists.1 h9
     .cases Fj
    have gx:=il.2 x0 jJ;have he:yE g role 1 (facts g ways) p=(facts g ways,aI role x0,bp):=by unfold yE;rw[if_pos rfl,jJ];rfl
    rw[he] at hB;have Nv:=r1.ln;have n4:=(Ya.1 gx).1;refine⟨ev,hs.rd 6 rfl (i:=10) rfl,kF (hM.v.rv.ext hs.ext) my fun b o u=>⟨q1.1,u,ev,hs.rd 6 rfl (i:=10) rfl,kF (hM.v.rv.ext hs.ext) my fun b2 o2 u2=>⟨q1.1,u2,ev,hs.rd 6 rfl (i:=10) rfl,kF (hM.v.rv.ext hs.ext) fL fun b3 o3 u3=>⟨q2.1,u3,?_⟩⟩⟩⟩;refine (mc role _ _ q1.1 q2.1 h98 (r1.ext hs.ext) (r2.ext hs.ext) xn ig).mono ?_;rintro _ ahf ⟨rfl,X2⟩;have hs:=hs.step X2;refine⟨_,rfl,X2.sm,?_⟩;refine (r1.ext hs.ext).aD (by omega) (by omega) fun b4 o4 d gd t=>?_;replace gd:(az g role (p.1:Nat))[(az g role (p.1:Nat)).findIdx (dx (az g role (p.2:Nat)))]?=some d:=gd;rw[gx] at gd;cases gd;refine⟨_,_,_,_,⟨none,0,0⟩,t,?_⟩;refine hs.put 0 rfl (o:=4) (vs:=aC role x0) rfl (show 4+5<=14 by decide) fun ads hs=>?_;have hs:St h ads (vO kP.size ob iL.size cy.size h.size (g.n.toNat*g.n.toNat) g (kg g role 1 ev en ar rs ms) D ⟨1,role,f,s,aI role x0,bp⟩ (facts g ways) (ct g ways)):=hs;exact Gn hs fun h' hw=>⟨_,_,hB,by rw[rL];exact hw⟩
   .subst c4;obtain⟨qa,Hg,ea⟩:=hP.p.m p.1 dz.1;have xj:=Yb Hg;have ra:=hM.v.rm qa xj;have r2:=(hM.v.re q2 (Yb fL));rw[e2] at r2;have Nv:=ra.ln;have V5:=hP.p.l qa xj;have hap:=hP.p.p qa xj;have fin:∀ {out:Int},aaw (az g role (p.2:Nat)) qa.2 out->∃(o:Nat) (a:gD) (x:Ed),out=(o:Int)/\qa.2[o]?=some a/\g.es[a.1]?=some x/\aW role x=some ⟨false,x.a,x.l⟩/\yE g role 4 (facts g ways) p=(facts g ways++[x.act]++a.2.1.path,aI role a.2.1.m.ev,aI role ⟨false,x.a,x.l⟩):=fun {out} hL=>by
     rcases hL with ⟨_,hf⟩ | ⟨o,a,rfl,ha,hf⟩
     .unfold bQ at Fj;rw[if_neg (by decide),if_neg (by decide),if_pos ⟨dz.1,dz.2⟩,<-ea] at Fj;unfold cR at Fj;rw[hf] at Fj;cases Fj
     .have hay:cq a∈du g role p.1:=by rw[<-ea];exact Yp.2 ⟨a,Yb ha,rfl⟩
      obtain⟨i,x,hi,hx,hv⟩:=Ig hV hay;have Px:a.1=i:=Int.ofNat.inj hi;subst Px;have hw:=hP.w qa xj a (Yb ha);refine⟨o,a,x,rfl,ha,hx,hv,?_⟩;unfold yE;rw[if_neg (by decide),if_pos rfl,<-ea];unfold cR;rw[hf];show (facts g ways++[(eA g.es (Int.toNat (a.1:Int))).act]++gh g (Int.toNat (a.1:Int)) a.2.1.m,aI role a.2.1.m.ev,aI role ⟨false,(eA g.es (Int.toNat (a.1:Int))).a,(eA g.es (Int.toNat (a.1:Int))).l⟩)=_;rw[Ys,aK hx,hw.1]
    refine⟨ar,hs.rd 6 rfl (i:=12) rfl,kF (hM.v.ra.ext hs.ext) Hg fun b o u=>⟨qa.1,u,ar,hs.rd 6 rfl (i:=12) rfl,kF (hM.v.ra.ext hs.ext) Hg fun b2 o2 u2=>⟨qa.1,u2,role,hs.rd 6 rfl (i:=8) rfl,ev,hs.rd 6 rfl (i:=10) rfl,kF (hM.v.rv.ext hs.ext) fL fun b3 o3 u3=>⟨q2.1,u3,?_,fun W8 e=>?_⟩⟩⟩⟩
    .refine (qH role _ qa.2 qa.1 q2.1 h98 (ra.ext hs.ext) (r2.ext hs.ext) V5 ig hap).mono ?_;rintro _ adr ⟨⟨out,rfl,hL⟩,X2⟩;have hs:=hs.step X2;obtain⟨k,a,x,rfl,ha,hx,hv,he⟩:=fin hL;rw[he] at hB;have qP:=(Ya.1 ha).1;have hw:=hP.w qa xj a (Yb ha);refine⟨_,rfl,X2.sm,?_⟩;refine (ra.ext hs.ext).aD (by omega) (by omega) fun b4 o4 d gd t=>?_;replace gd:qa.2[k]?=some d:=gd;rw[ha] at gd;cases gd;refine⟨_,_,_,_,t,fun adq e=>⟨(show Ext adr adq by rw[e];exact Ext.push _ _).sm,?_⟩⟩;exact NV (hs.dh e) hg hx hv (hM.rp qa xj a (Yb ha)) (by omega) hw.2.1 fun w h' Ss=>⟨_,_,hB,by rw[rL];exact Ss⟩
    .refine⟨(show Ext h98 W8 by rw[e];exact Ext.push _ _).sm,?_⟩;have hs:=hs.dh e;refine (qH role _ qa.2 qa.1 q2.1 W8 (ra.ext hs.ext) (r2.ext hs.ext) V5 ig hap).mono ?_;rintro _ agX ⟨⟨out,rfl,hL⟩,X2⟩;have hs:=hs.step X2;obtain⟨k,a,x,rfl,ha,hx,hv,he⟩:=fin hL;rw[he] at hB;have qP:=(Ya.1 ha).1;have hw:=hP.w qa xj a (Yb ha);refine⟨_,rfl,X2.sm,?_⟩;refine (ra.ext hs.ext).aD (by omega) (by omega) fun b4 o4 d gd t=>?_;replace gd:qa.2[k]?=some d:=gd;rw[ha] at gd;cases gd;refine⟨_,_,_,_,t,?_⟩;exact NV hs hg hx hv (hM.rp qa xj a (Yb ha)) (by omega) hw.2.1 fun w h' Ss=>⟨_,_,hB,by rw[rL];exact Ss⟩
   .have he:yE g role kind (facts g ways) p=(facts g ways,bp,bp):=by unfold yE;rw[if_neg c3,if_neg c4]
    rw[he] at hB;exact Gn hs fun h' hw=>⟨_,_,hB,by rw[rL];exact hw⟩
end Go.VC
end

section
namespace Go.VC
open Go.Proofs Go.LexS
abbrev Vq:=Nat × List Nat
structure gV (g:Gl) (MX:Nat->Prop) (Q:List Vq) (par:Nat->Nat) (i k:Nat):Prop where
 q0:Q[0]?=some (g.s.toNat,[])
 nd:(Q.map Prod.fst).Nodup
 lt:∀v∈Q,v.1<g.n.toNat
 p0:par 0=0
 pl:∀j,0<j->j<Q.length->par j<j
 pu:∀j,j<Q.length->par j<=i
 mo:∀j k,j<=k->k<Q.length->par j<=par k
 wd:∀j v,0<j->Q[j]?=some v->∃u a q,Q[par j]?=some u/\(ah g.es (u.1:Nat))[q]?=some a/\v=((eA g.es a).t.toNat,u.2++[a])/\∀(q':Nat) a',q'<q->(ah g.es (u.1:Nat))[q']?=some a'->∃c w,c<j/\Q[c]?=some w/\w.1=(eA g.es a').t.toNat
 cl:∀(j:Nat) v (q:Nat) a,Q[j]?=some v->(ah g.es (v.1:Nat))[q]?=some a->(j<i\/j=i/\q<k)->∃b w,Q[b]?=some w/\w.1=(eA g.es a).t.toNat/\par b<=j
 no:∀(j:Nat) v,j<i->Q[j]?=some v->¬MX v.1
theorem gV.init{g:Gl}(hV:af g){MX:Nat->Prop}:gV g MX [(g.s.toNat,[])] (fun _=>0) 0 0:=by
 have hN:=hV.num.n;refine⟨rfl,by simp,fun v hv=>by rw[Ye] at hv;subst hv;show g.s.toNat<_;omega,rfl,fun j h1 h2=>?_,fun j _=>bc _,fun j k _ _=>bc _,fun j v h1 h2=>?_,fun j v q a _ _ h=>by omega,fun j v h=>by omega⟩
 .rw[Yv] at h2;omega
 .have:=(Ya.1 h2).1;rw[Yv] at this;omega
theorem gV.len{g:Gl}{MX:Nat->Prop}{Q:List Vq}{par:Nat->Nat}{i k:Nat}(h:gV g MX Q par i k):Q.length<=g.n.toNat:=by
 have h1:=List.Nodup.length_le_of_subset h.nd (l₂:=List.range g.n.toNat) fun s hs=>by
  obtain⟨v,hv,rfl⟩:=Yp.1 hs;exact List.mem_range.2 (h.lt v hv)
 rwa [Yc,mr] at h1
theorem gV.skip{g:Gl}{MX:Nat->Prop}{Q:List Vq}{par:Nat->Nat}{i k:Nat}(h:gV g MX Q par i k){v:Vq}(hv:Q[i]?=some v){a:Nat}(ha:(ah g.es (v.1:Nat))[k]?=some a)(cN:(eA g.es a).t.toNat∈Q.map Prod.fst):gV g MX Q par i (k+1):=by
 refine⟨h.q0,h.nd,h.lt,h.p0,h.pl,h.pu,h.mo,h.wd,fun j w q a' hw PS hj=>?_,h.no⟩;by_cases e:j=i/\q=k
 .obtain⟨rfl,rfl⟩:=e;rw[hv] at hw;cases hw;rw[ha] at PS;cases PS;obtain⟨w,hw,e⟩:=Yp.1 cN;obtain⟨b,hb⟩:=Yf.1 hw;exact⟨b,w,hb,e,h.pu b (Ya.1 hb).1⟩
 .exact h.cl j w q a' hw PS (by omega)
theorem gV.push{g:Gl}(hV:af g){MX:Nat->Prop}{Q:List Vq}{par:Nat->Nat}{i k:Nat}(h:gV g MX Q par i k){v:Vq}(hv:Q[i]?=some v){a:Nat}(ha:(ah g.es (v.1:Nat))[k]?=some a)(ca:(eA g.es a).t.toNat∉Q.map Prod.fst):
  gV g MX (Q++[((eA g.es a).t.toNat,v.2++[a])]) (fun j=>if j=Q.length then i else par j) i (k+1):=by
 have hi:=(Ya.1 hv).1;have qx:∀ {j:Nat} {w:Vq},Q[j]?=some w->(Q++[((eA g.es a).t.toNat,v.2++[a])])[j]?=some w:=fun {j w} hw=>by rw[jw (Ya.1 hw).1,hw]
 have new:∀ {j:Nat} {w:Vq},(Q++[((eA g.es a).t.toNat,v.2++[a])])[j]?=some w->(j<Q.length/\Q[j]?=some w)\/(j=Q.length/\w=((eA g.es a).t.toNat,v.2++[a])):=fun {j w} hw=>by
  rcases Nat.lt_trichotomy j Q.length with h1 | h1 | h1
  .rw[jw h1] at hw;exact .inl ⟨h1,hw⟩
  .subst h1;rw[tR (bc _),Nat.sub_self] at hw;exact .inr ⟨rfl,(fH hw).symm⟩
  .have:=(Ya.1 hw).1;rw[Yh,Yv] at this;omega
 obtain⟨Fi,Ee⟩:=va (Yb ha);have hEd:=hV.num.e _ Fi;unfold gU at hEd;have bH:∀ {j:Nat},j<Q.length->(if j=Q.length then i else par j)=par j:=fun hj=>if_neg (by omega);refine⟨qx h.q0,?_,fun w hw=>?_,?_,fun j h1 h2=>?_,fun j h2=>?_,fun j l h1 h2=>?_,fun j w h1 hw=>?_,fun j w q a' hw PS hj=>?_,fun j w hj hw=>?_⟩
 .rw[Ym,List.nodup_append];refine⟨h.nd,by simp,fun x hx y hy e=>?_⟩;rw[List.map_singleton,Ye] at hy;subst hy;subst e;exact ca hx
 .rcases Yk.1 hw with hw | hw
  .exact h.lt w hw
  .rw[Ye] at hw;subst hw;show (eA g.es a).t.toNat<_;omega
 .show (if 0=Q.length then i else par 0)=0;rw[if_neg (by omega)];exact h.p0
 .rw[Yh,Yv] at h2;show (if j=Q.length then i else par j)<j;split
  .omega
  .exact h.pl j h1 (by omega)
 .rw[Yh,Yv] at h2;show (if j=Q.length then i else par j)<=i;split
  .exact bc _
  .exact h.pu j (by omega)
 .rw[Yh,Yv] at h2;show (if j=Q.length then i else par j)<=(if l=Q.length then i else par l);by_cases e1:j=Q.length
  .rw[if_pos e1,if_pos (by omega)];exact bc _
  .rw[if_neg e1];split
   .exact h.pu j (by omega)
   .exact h.mo j l h1 (by omega)
 .rcases new hw with ⟨hj,hw⟩ | ⟨rfl,rfl⟩
  .obtain⟨u,b,q,hu,hb,e,hq⟩:=h.wd j w h1 hw;refine⟨u,b,q,?_,hb,e,fun q' a' h3 h4=>?_⟩
   .show (Q++_)[if j=Q.length then i else par j]?=_;rw[bH hj];exact qx hu
   .obtain⟨c,z,h5,h6,h7⟩:=hq q' a' h3 h4;exact⟨c,z,h5,qx h6,h7⟩
  .refine⟨v,a,k,?_,ha,rfl,fun q' a' h3 h4=>?_⟩
   .show (Q++_)[if Q.length=Q.length then i else par Q.length]?=_;rw[if_pos rfl];exact qx hv
   .obtain⟨b,z,h5,h6,_⟩:=h.cl i v q' a' hv h4 (.inr ⟨rfl,h3⟩);exact⟨b,z,(Ya.1 h5).1,qx h5,h6⟩
 .rcases new hw with ⟨SG,hw⟩ | ⟨rfl,rfl⟩
  .by_cases e:j=i/\q=k
   .obtain⟨rfl,rfl⟩:=e;rw[hv] at hw;cases hw;rw[ha] at PS;cases PS;refine⟨Q.length,_,by rw[tR (bc _),Nat.sub_self];rfl,rfl,?_⟩;show (if Q.length=Q.length then j else par Q.length)<=j;rw[if_pos rfl];exact bc _
   .obtain⟨b,z,h5,h6,h7⟩:=h.cl j w q a' hw PS (by omega);refine⟨b,z,qx h5,h6,?_⟩;show (if b=Q.length then i else par b)<=j;rw[bH (Ya.1 h5).1];exact h7
  .omega
 .rcases new hw with ⟨_,hw⟩ | ⟨rfl,_⟩
  .exact h.no j w hj hw
  .omega
theorem gV.next{g:Gl}{MX:Nat->Prop}{Q:List Vq}{par:Nat->Nat}{i k:Nat}(h:gV g MX Q par i k){v:Vq}(hv:Q[i]?=some v)(hk:(ah g.es (v.1:Nat)).length<=k)(ca:¬MX v.1):gV g MX Q par (i+1) 0:=by
 refine⟨h.q0,h.nd,h.lt,h.p0,h.pl,fun j hj=>by have:=h.pu j hj;omega,h.mo,h.wd,fun j w q a hw ha hj=>?_,fun j w hj hw=>?_⟩
 .refine h.cl j w q a hw ha ?_;by_cases e:j=i
  .subst e;rw[hv] at hw;cases hw;have:=(Ya.1 ha).1;exact .inr ⟨rfl,by omega⟩
  .exact .inl (by omega)
 .by_cases e:j=i
  .subst e;rw[hv] at hw;cases hw;exact ca
  .exact h.no j w (by omega) hw
def iT(par:Nat->Nat):Nat->Nat->Nat
 | 0,j=>j
 | r+1,j=>par (iT par r j)
section
variable {g:Gl} {MX:Nat->Prop} {Q:List Vq} {par:Nat->Nat} {i:Nat} (h:gV g MX Q par i 0) (hi:i<Q.length)
include h hi
theorem gV.rD:∀r,iT par r i<=i
 | 0=>bc _
 | r+1=>by
  have h1:=gV.rD r;show par (iT par r i)<=i;rcases Nat.eq_zero_or_pos (iT par r i) with e | e
  .rw[e,h.p0];exact Nat.zero_le _
  .have:=h.pl _ e (by omega);omega
theorem gV.Rt(r:Nat):iT par (r+1) i<=iT par r i:=by
 have h1:=h.rD hi r;show par (iT par r i)<=_;rcases Nat.eq_zero_or_pos (iT par r i) with e | e
 .rw[e,h.p0];exact bc _
 .have:=h.pl _ e (by omega);omega
theorem gV.Ru{r k:Nat}(hk:k<=r):iT par r i<=iT par k i:=by
 induction r with
 | zero=>rw[show k=0 by omega];exact bc _
 | succ r ih=>
  by_cases e:k=r+1
  .rw[e];exact bc _
  .exact mn (h.Rt hi r) (ih (by omega))
theorem gV.Ip{r k:Nat}(hk:k<r)(hn:∀r',r'<r->iT par r' i≠0):iT par r i<iT par k i:=by
 have h1:=h.Ru hi (r:=r) (k:=k+1) hk;have h2:=h.pl (iT par k i) (by have:=hn k hk;omega) (by have:=h.rD hi k;omega);have:iT par (k+1) i=par (iT par k i):=rfl;omega
theorem gV.Iq:∀ {r:Nat},(∀r',r'<r->iT par r' i≠0)->iT par r i+r<=i
 | 0,_=>bc _
 | r+1,hn=>by
  have h1:=gV.Iq (r:=r) fun r' hr=>hn r' (by omega);have h2:iT par (r+1) i<iT par r i:=h.Ip hi (Nat.lt_succ_self r) hn;show iT par (r+1) i+(r+1)<=i;omega
theorem gV.noD{r s:Nat}(hd:rX g.es MX s r):∀(a:Nat) v,Q[a]?=some v->v.1=s->a<iT par r i->False:=by
 induction hd with
 | base hm=>
  intro a v hv e ha;exact h.no a v ha hv (by rw[e];exact hm)
 | @step s e n he Ee _ ih=>
  intro a v hv e1 ha;have h1:=h.rD hi (n+1);obtain⟨x,hx⟩:=Yf.1 he;have xk:x∈ah g.es (v.1:Nat):=aA.2 ⟨e,hx,by rw[Ee,e1]⟩;obtain⟨q,hq⟩:=Yf.1 xk;obtain⟨b,w,hb,hw,hp⟩:=h.cl a v q x hv hq (.inl (by omega));rw[aK hx] at hw;refine ih b w hb hw ?_;rcases Nat.lt_or_ge b (iT par n i) with h2 | h2
  .exact h2
  .have h3:=h.mo _ _ h2 (Ya.1 hb).1;have h4:iT par (n+1) i=par (iT par n i):=rfl;omega
theorem gV.dn(hm:∀v,Q[i]?=some v->MX v.1):∀ {r:Nat},(∀r',r'<r->iT par r' i≠0)->∀u,Q[iT par r i]?=some u->rX g.es MX u.1 r
 | 0,_,u,hu=>.base (hm u hu)
 | r+1,hn,u,hu=>by
  have hc:=hn r (Nat.lt_succ_self r);obtain⟨v,hv⟩:=get_some (l:=Q) (i:=iT par r i) (by have:=h.rD hi r;omega);have h1:=gV.dn hm (r:=r) (fun r' hr=>hn r' (by omega)) v hv;obtain⟨u',a,q,Sv,ha,e,_⟩:=h.wd _ v (by omega) hv;have hu2:Q[par (iT par r i)]?=some u:=hu;rw[hu2] at Sv;cases Sv;obtain⟨Fi,Ee⟩:=va (Yb ha);subst e;exact .step Fi Ee h1
theorem gV.least(hm:∀v,Q[i]?=some v->MX v.1){r:Nat}(hn:∀r',r'<r->iT par r' i≠0){u:Vq}(hu:Q[iT par r i]?=some u):fO g.es MX u.1 r:=by
 refine⟨h.dn hi hm hn u hu,fun k hk=>?_⟩;rcases Nat.lt_or_ge k r with h1 | h1
 .exact (h.noD hi hk _ u hu rfl (h.Ip hi h1 hn)).elim
 .exact h1
theorem gV.gq(BK:g.n.toNat<=200)(hm:∀v,Q[i]?=some v->MX v.1):∀N j,j<=N->∀r,iT par r i=j->(∀r',r'<r->iT par r' i≠0)->∀v,Q[j]?=some v->GQ g.es (dS g.es MX) g.s.toNat v.2 v.1:=by
 intro N
 induction N with
 | zero=>
  intro j hj r hr hn v hv;rw[show j=0 by omega,h.q0] at hv;cases hv;exact .nil
 | succ N ih=>
  intro j hj r hr hn v hv;rcases Nat.eq_zero_or_pos j with e | e
  .rw[e,h.q0] at hv;cases hv;exact .nil
  .have BN:=(Ya.1 hv).1;have hp:=h.pl j e BN;obtain⟨u,a,q,hu,ha,ev,hq⟩:=h.wd j v e hv;have Nv:iT par (r+1) i=par j:=by show par (iT par r i)=_;rw[hr]
   have D8:∀r',r'<r+1->iT par r' i≠0:=fun r' h1=>by
    by_cases e1:r'=r
    .rw[e1,hr];omega
    .exact hn r' (by omega)
   have h1:=ih (par j) (by omega) (r+1) Nv D8 u hu;have d1:=rh (h.least hi hm D8 (u:=u) (by rw[Nv];exact hu));have d0:=rh (h.least hi hm hn (u:=v) (by rw[hr];exact hv));have sv:=h.Iq hi hn;have hQl:=h.len;subst ev;refine .snoc h1 (by rw[d1];omega) (kJ (fun q' a' h2 h3=>?_) ha ?_) ha
   .obtain⟨c,w,hc,hw,hwe⟩:=hq q' a' h2 h3;unfold Vu;refine decide_eq_false fun h4=>?_;rw[<-hwe,d1] at h4;by_cases hex:∃n,fO g.es MX w.1 n
    .obtain⟨n,hl⟩:=hex;rw[rh hl] at h4;have:n=r:=by omega
     subst this;exact h.noD hi hl.1 c w hw rfl (by rw[hr];exact hc)
    .unfold dS at h4;rw[dif_neg hex] at h4;unfold dd at h4;omega
   .unfold Vu;refine decide_eq_true ?_;rw[d1];show dS g.es MX (eA g.es a).t.toNat=_;have d0':dS g.es MX (eA g.es a).t.toNat=(r:Int):=d0;rw[d0'];omega
end
theorem gV.Og{g:Gl}{MX:Nat->Prop}{Q:List Vq}{par:Nat->Nat}{i k:Nat}(h:gV g MX Q par i k):∀N j:Nat,j<=N->∀v:Vq,Q[j]?=some v->v.2.length<=j:=by
 intro N
 induction N with
 | zero=>
  intro j hj v hv;rw[show j=0 by omega,h.q0] at hv;cases hv;exact Nat.zero_le _
 | succ N ih=>
  intro j hj v hv;rcases Nat.eq_zero_or_pos j with e | e
  .rw[e,h.q0] at hv;cases hv;exact Nat.zero_le _
  .have hp:=h.pl j e (Ya.1 hv).1;obtain⟨u,a,q,hu,_,ev,_⟩:=h.wd j v e hv;have:=ih (par j) (by omega) u hu;subst ev;show (u.2++[a]).length<=j;rw[Yh,Yv];omega
theorem gV.found{g:Gl}{MX:Nat->Prop}{Q:List Vq}{par:Nat->Nat}{i:Nat}(h:gV g MX Q par i 0)(BK:g.n.toNat<=200){v:Vq}(hv:Q[i]?=some v)(hm:MX v.1):∃n,fO g.es MX g.s.toNat n/\n<=1000/\GQ g.es (dS g.es MX) g.s.toNat v.2 v.1/\dS g.es MX v.1=0:=by
 have hi:=(Ya.1 hv).1;have jZ:∀w,Q[i]?=some w->MX w.1:=fun w hw=>by rw[hv] at hw;cases hw;exact hm
 have hG:=h.gq hi BK jZ i i (bc _) 0 rfl (fun r' h1=>by omega) v hv;have d0:dS g.es MX v.1=0:=rh (n:=0) ⟨.base hm,fun _ _=>Nat.zero_le _⟩;have hl:=hG.len;have hw:=h.Og i i (bc _) v hv;have hQ:=h.len;rw[d0] at hl;by_cases hex:∃n,fO g.es MX g.s.toNat n
 .obtain⟨n,hn⟩:=hex;rw[rh hn] at hl;exact⟨n,hn,by omega,hG,d0⟩
 .unfold dS at hl;rw[dif_neg hex] at hl;unfold dd at hl;omega
theorem gV.none_{g:Gl}{MX:Nat->Prop}{Q:List Vq}{par:Nat->Nat}(h:gV g MX Q par Q.length 0)(n:Nat):¬rX g.es MX g.s.toNat n:=by
 have:∀ {s n:Nat},rX g.es MX s n->∀(a:Nat) v,Q[a]?=some v->v.1=s->False:=by
  intro s n hd
  induction hd with
  | base hm=>intro a v hv e;exact h.no a v (Ya.1 hv).1 hv (by rw[e];exact hm)
  | @step s e n he Ee _ ih=>
   intro a v hv e1;obtain⟨x,hx⟩:=Yf.1 he;have xk:x∈ah g.es (v.1:Nat):=aA.2 ⟨e,hx,by rw[Ee,e1]⟩;obtain⟨q,hq⟩:=Yf.1 xk;obtain⟨b,w,hb,hw,_⟩:=h.cl a v q x hv hq (.inl (Ya.1 hv).1);rw[aK hx] at hw;exact ih b w hb hw
 exact fun hd=>this hd 0 _ h.q0 rfl
end Go.VC
end

section
namespace Go.VC
open Go.Proofs Go.LexS
theorem Rn:cI Pz 222 221 2 32=true:=by kernel_rfl
theorem Vr(g:Gl)(s:Int)(h:Heap)(hg:GI h g):Fn Pz 55 #[g.v,.int .i64 s] h fun v h'=>∃r:Sl,v=.slice r.a r.n r.c/\St h h' [.sl r 3 1 ((aw (ah g.es s)).map aO)]:=by
 apply Tp (bs g.nm) g.hr g.hd g.n g.s g.e g.he g.ht;unfold W55;have ki:=hg.e.ln;have Fi:=hg.e.sm;refine (St.refl h).ak fun h9 hs=>?_;have hs:=hs.bJ 3 1;refine gH (n:=g.he.n) hs (fun i rows=>rows=(aw ((List.range i).filter (cB g.es s))).map aO) rfl ?_;clear hs;rintro-i out rP rows hi hs rfl;have Hi:=hs.len 0 (s:=out) (e:=3) (n:=1) rfl (by omega);rw[Yc,show (aw ((List.range i).filter (cB g.es s))).length=((List.range i).filter (cB g.es s)).length from Yc _] at Hi;have tt:((List.range i).filter (cB g.es s)).length<=i:=mn (List.length_filter_le _ _) (by rw[mr];exact bc _);refine⟨g.he,hs.rd 1 rfl rfl,aM (fun c=>?_) (fun c=>?_)⟩
 .refine⟨g.he,hs.rd 1 rfl rfl,?_⟩;refine (hg.e.rw.ext hs.ext).aD (by omega) (by omega) fun b o x gx t=>?_;replace gx:g.es[i]?=some x:=gx;have BI:(List.range (i+1)).filter (cB g.es s)=if x.f=s then (List.range i).filter (cB g.es s)++[i] else (List.range i).filter (cB g.es s):=by
   rw[List.range_succ,List.filter_append];have hp:cB g.es s i=decide (x.f=s):=by unfold cB;rw[gx]
   by_cases e:x.f=s
   .rw[if_pos e,List.filter_cons_of_pos (by rw[hp];exact decide_eq_true e)];rfl
   .rw[if_neg e,List.filter_cons_of_neg (by rw[hp,decide_eq_false e];simp)];simp
  refine⟨_,t.hd,dp (fun c2=>?_) (fun c2=>?_)⟩
  .refine hs.app 0 rfl dv (m:=1) [aO (i:Int)] rfl rfl (fun r hr=>by rw[Ye] at hr;rw[hr];rfl) rfl (by omega) (by simp only[maxLen];omega) fun r zO ns hs=>?_;refine Fu.next (by omega) (by omega) ⟨_,hs,?_⟩;rw[BI,if_pos c2,jC,Ym];rfl
  .exact Fu.next (by omega) (by omega) ⟨_,hs,by rw[BI,if_neg c2]⟩
 .have hie:i=g.es.length:=by omega
  subst hie;exact⟨out,rfl,hs.fK (L':=[_]) (R:=[_]) (List.Perm.refl _)⟩
theorem St.pick{h0 h:Heap}{L:List It}(hs:St h0 h L){x:It}(hx:x∈L):∃L',St h0 h (x::L'):=by
 obtain⟨A,B,rfl⟩:=List.append_of_mem hx;exact⟨_,hs.perm List.perm_middle⟩
def C8(x:Sl × Vq):List Value:=[.int .i64 (x.2.1:Nat),.slice x.1.a x.1.n x.1.c]
def AH(g:Gl)(x:Sl × Vq):It:=nest 65 3 Ac.cs (x.1,cG g.es x.2.2)
def yr(rb fb gb:Nat)(g:Gl)(ev en l seen:Sl)(V:List (Sl × Vq))(T:List It):List It:=
 .sl l 221 2 (V.map C8) :: .sl seen 3 1 ((aw (V.map fun x=>x.2.1)).map aO) :: .ae rb cx.cs 39 :: .ae fb [.slice ev.a ev.n ev.c,.slice en.a en.n en.c] 109 :: .ae gb g.cs 27::(V.map (AH g)++T)
theorem Tm{h0 h:Heap}{L:List It}{g:Gl}{x:Sl × Vq}(hs:St h0 h L)(hx:AH g x∈L)(hl:x.2.2.length<=1000):RL h 3 x.1 Ac.cs (cG g.es x.2.2):=by
 obtain⟨L',bL⟩:=hs.pick hx;have:=bL.len 0 (s:=x.1) (e:=65) (n:=3) rfl (by decide);exact⟨bL.nO (e:=65) Yx (by decide),this.2.1,this.2.2,by rw[show (cG g.es x.2.2).length=x.2.2.length from Yc _];omega⟩
theorem Kb{α:Type}{b1 w bA bT s l r1 r2 r3:α}{N T:List α}:(b1::w::bA::bT::l::s::r1::r2::r3::(N++T)).Perm ((l::s::r1::r2::r3::((N++[w])++T))++[b1,bA,bT]):=by
 refine List.Perm.trans ?_ (List.perm_append_comm (l₁:=[b1,bA,bT]));refine List.Perm.cons _ (((List.perm_middle (l₁:=[bA,bT,l,s,r1,r2,r3]) (a:=w) (l₂:=N++T)).symm).trans ?_);refine List.Perm.append_left [bA,bT,l,s,r1,r2,r3] ?_;show (w::(N++T)).Perm ((N++[w])++T);rw[Yz];exact List.perm_middle.symm
theorem abJ{h hX hA hT:Heap}{rb fb gb:Nat}{g:Gl}{ev en l seen s:Sl}{V:List (Sl × Vq)}{T:List It}{x:Ed}{v:Vq}{a m:Nat}{k:Int}{I:Sl->Sl->Int->Heap->Nat->Prop}{S:List (List Value)}(gx:g.es[a]?=some x)(hx:0<=x.t)
  (hs:St h hX (.sl s 65 3 ((cG g.es v.2).map Ac.cs) :: .ae hA.size x.act.cs 65 :: .ae hT.size x.cs 67 :: .sl l 221 2 (V.map C8) :: .sl seen 3 1 S :: .ae rb cx.cs 39 :: .ae fb [.slice ev.a ev.n ev.c,.slice en.a en.n en.c] 109 :: .ae gb g.cs 27::(V.map (AH g)++T))) (hv:v.2.length<=1000) (hV:V.length<=1000)
  (hS:S=(aw ((V.map fun x=>x.2.1)++[x.t.toNat])).map aO)
  (hI:∀l' w h',St h h' (yr rb fb gb g ev en l' seen (V++[(w,(x.t.toNat,v.2++[a]))]) T)->∃m2,m2<m/\I l' seen (IntKind.wrap .i64 (k+1)) h' m2) :
  EJ s hA hX hT x.t l m I seen k:=by
 unfold EJ;have jm:=(hs.len 0 (s:=s) (e:=65) (n:=3) rfl (by decide)).1;have sv:=(hs.len 3 (s:=l) (e:=221) (n:=2) rfl (by decide)).1;have WA:(cG g.es v.2).length=v.2.length:=Yc _;rw[Yc] at jm sv;refine hs.appended 0 (rows:=(cG g.es v.2).map Ac.cs) rfl eJ (m:=1) (news:=[x.act.cs]) (by rw[List.flatten_singleton];exact hs.at 1 rfl (o:=0) (n:=3) rfl) rfl (fun r hr=>by rw[Ye.1 hr];rfl) rfl (by omega) (by simp only[maxLen];omega) fun r5 ahn n211 bG=>?_;refine⟨hs.jk bG 2 2 4 rfl rfl,fun ahm e=>?_⟩;have fU:=bG.dh e;refine fU.appended 4 (rows:=V.map C8) rfl Rn (m:=1) (news:=[[.int .i64 x.t,.slice r5.a r5.n r5.c]]) (by rw[List.flatten_singleton];exact fU.at 0 rfl (o:=0) (n:=2) rfl) rfl (fun r hr=>by rw[Ye.1 hr];rfl) rfl (by omega) (by simp only[maxLen];omega) fun abV adB n214 iK=>?_;refine hI abV r5 adB ?_;have e1:(V++[(r5,(x.t.toNat,v.2++[a]))]).map C8=V.map C8++[[.int .i64 x.t,.slice r5.a r5.n r5.c]]:=by
  rw[Ym];unfold C8;rw[List.map_singleton,show (((x.t.toNat:Nat)):Int)=x.t by omega]
 have e2:AH g (r5,(x.t.toNat,v.2++[a]))=.sl r5 65 3 ((cG g.es v.2).map Ac.cs++[x.act.cs]):=by
  unfold AH nest cG;simp only[Ym,List.map_singleton,aK gx]
 unfold yr;rw[e1,Ym (f:=fun x:Sl × Vq=>x.2.1),Ym (f:=AH g),List.map_singleton,List.map_singleton,e2,<-hS];exact iK.fK Kb
theorem Xw{h rO:Heap}{kj iQ:Nat}{g:Gl}{ev en l seen:Sl}{V:List (Sl × Vq)}{par:Nat->Nat}{x:Sl × Vq}{i m:Nat}{MX:Nat->Prop}{I:Sl->Sl->Int->Heap->Nat->Prop}(hg:GI h g)(hV:af g)
  (hs:St h rO (yr kj iQ h.size g ev en l seen V [])) (hB:gV g MX (V.map Prod.snd) par i 0) (hx:V[i]?=some x)
  (hI:∀l' p8 V' par' h',St h h' (yr kj iQ h.size g ev en l' p8 V' [])->gV g MX (V'.map Prod.snd) par' i (ah g.es (x.2.1:Nat)).length->V'[i]?=some x->∃m2,m2<m/\I l' p8 (IntKind.wrap .i64 ((i:Int)+1)) h' m2) :
  EK rO h (x.2.1:Nat) l seen (i:Nat) m I:=by
 unfold EK;have hN:=hV.num.n;have hM:=hV.num.m;have ki:=hg.e.ln;refine⟨_,_,_,_,_,_,_,_,hs.at 4 rfl (o:=0) (n:=8) rfl,?_⟩;refine (Vr g (x.2.1:Nat) rO (hg.ext hs.ext)).mono ?_;rintro _ LM ⟨r,rfl,yx⟩;have jY:=(yx.len 0 (s:=r) rfl (by decide)).1;rw[Yc,show (aw (ah g.es (x.2.1:Nat))).length=(ah g.es (x.2.1:Nat)).length from Yc _] at jY;have tt:=cA g.es (x.2.1:Nat);have hs:St h LM (yr kj iQ h.size g ev en l seen V [.sl r 3 1 ((aw (ah g.es (x.2.1:Nat))).map aO)]):=by
  have:=hs.join yx;unfold yr at this ⊢;rw[Yw] at this;exact this
 refine⟨r,rfl,?_⟩;refine⟨fun l' p8 y h' μ=>∃(k:Nat) (V':List (Sl × Vq)) (par':Nat->Nat),y=(k:Int)/\r.n-k=μ/\k<=r.n/\St h h' (yr kj iQ h.size g ev en l' p8 V' [.sl r 3 1 ((aw (ah g.es (x.2.1:Nat))).map aO)])/\gV g MX (V'.map Prod.snd) par' i k/\V'[i]?=some x,⟨_,0,V,par,rfl,rfl,Nat.zero_le _,hs,hB,hx⟩,?_⟩;clear hs hB hx;rintro-l seen _ h177 μ ⟨k,V,par,rfl,rfl,hk,hs,hB,hx⟩;have hVl:=hB.len;rw[Yc] at hVl;have O8:(V.map Prod.snd)[i]?=some x.2:=by rw[Yd,hx];rfl
 have n4:=(Ya.1 hx).1;have Sr:=hB.Og i i (bc _) x.2 O8;have sv:=(hs.len 0 (s:=l) (e:=221) (n:=2) rfl (by decide)).1;rw[Yc] at sv;have jm:=(hs.len 1 (s:=seen) (e:=3) (n:=1) rfl (by decide)).1;rw[Yc,show (aw (V.map fun x=>x.2.1)).length=V.length by unfold aw;rw[Yc,Yc]] at jm;refine aM (fun c=>?_) (fun c=>?_)
 .obtain⟨a,ga⟩:=get_some (l:=ah g.es (x.2.1:Nat)) (i:=k) (by omega);obtain⟨e,ge,Ee⟩:=aA.1 (Yb ga);have WM:=(Ya.1 ge).1;have hEd:=hV.num.e e (Yb ge);unfold gU at hEd;have qN:IntKind.wrap .i64 ((k:Int)+1)=((k+1:Nat):Int):=by rw[a7 (by omega) (by omega)];omega
  have rr:Rw h177 1 r ((aw (ah g.es (x.2.1:Nat))).map aO):=hs.nO (e:=3) (by unfold yr;simp) (by decide);refine⟨g.he,hs.rd 4 rfl (i:=6) rfl,?_⟩;refine rr.aD (by omega) (by omega) fun ahM afQ d gd u=>?_;replace gd:(aw (ah g.es (x.2.1:Nat)))[k]?=some d:=gd;rw[show (aw (ah g.es (x.2.1:Nat)))[k]?=some (a:Int) by unfold aw;rw[Yd,ga];rfl] at gd;cases gd;refine⟨_,u.nth 0 rfl,?_⟩;refine (hg.e.rw.ext hs.ext).aD (by omega) (by omega) fun ahK afP d gd u2=>?_;replace gd:g.es[a]?=some d:=gd;rw[ge] at gd;cases gd;refine⟨_,_,_,_,_,_,u2,fun Xe Mc=>⟨(show Ext h177 Xe by rw[Mc];exact Ext.push _ _).sm,?_⟩⟩;have hs:=hs.dh Mc;refine hs.put 0 rfl (o:=0) (vs:=e.cs) rfl (show 6<=6 by decide) fun P7 hs=>?_;refine⟨e.t,hs.rd 0 rfl (i:=4) rfl,?_⟩;refine (lu (aw (V.map fun x=>x.2.1)) e.t seen P7 (hs.rows 2 (s:=seen) (cs:=aO) (l:=aw (V.map fun x=>x.2.1)) rfl (by decide)) (by rw[show (aw (V.map fun x=>x.2.1)).length=V.length by unfold aw;rw[Yc,Yc]];omega)).mono ?_;rintro _ aho ⟨⟨b,rfl,hb⟩,X⟩;have hs:=hs.step X;have eH:e.t∈aw (V.map fun x=>x.2.1) ↔ (eA g.es a).t.toNat∈(V.map Prod.snd).map Prod.fst:=by
   rw[aK ge];unfold aw;constructor
   .intro h1;obtain⟨s,h2,h3⟩:=Yp.1 h1;obtain⟨z,h4,rfl⟩:=Yp.1 h2;exact Yp.2 ⟨z.2,Yp.2 ⟨z,h4,rfl⟩,by show z.2.1=e.t.toNat;omega⟩
   .intro h1;obtain⟨z2,h2,h5⟩:=Yp.1 h1;obtain⟨z,h4,rfl⟩:=Yp.1 h2;exact Yp.2 ⟨z.2.1,Yp.2 ⟨z,h4,rfl⟩,by rw[h5];omega⟩
  rw[eH] at hb;refine⟨b,rfl,aa (fun c2=>?_) (fun c2=>?_)⟩
  .have ca:(eA g.es a).t.toNat∉(V.map Prod.snd).map Prod.fst:=cw hb (by simpa using c2);have PW:=hB.push hV O8 ga ca;rw[aK ge] at PW;obtain⟨OC,hB3⟩:∃OC,gV g MX (V.map Prod.snd++[(e.t.toNat,x.2.2++[a])]) OC i (k+1):=⟨_,PW⟩;refine⟨e.t,hs.rd 0 rfl (i:=4) rfl,?_⟩;refine hs.app 2 rfl dv (m:=1) [aO e.t] rfl rfl (fun r hr=>by rw[Ye] at hr;rw[hr];rfl) rfl (by omega) (by simp only[maxLen];omega) fun FX P6 n199 hs=>?_;refine⟨e.t,hs.rd 0 rfl (i:=4) rfl,?_⟩;refine (hs.rows 1 (s:=l) (cs:=C8) (l:=V) rfl (by decide)).aD (by omega) (by omega) fun ahJ afO d gd u3=>?_;replace gd:V[i]?=some d:=gd;rw[hx] at gd;cases gd;refine⟨x.1,u3.nth 1 rfl,_,_,_,hs.at 0 rfl (o:=1) (n:=3) rfl,?_⟩;have wd:∀ {h':Heap} {L:List It},St h h' L->AH g x∈L->RL h' 3 x.1 Ac.cs (cG g.es x.2.2):=fun bL hm=>Tm bL hm (by omega);have si:∀(A:List It) (T:List It),AH g x∈A++(V.map (AH g)++T):=fun A T=>List.mem_append_right _ (List.mem_append_left _ (Yp.2 ⟨x,Yb hx,rfl⟩));have hS:(aw (V.map fun x=>x.2.1)).map aO++[aO e.t]=(aw ((V.map fun x=>x.2.1)++[e.t.toNat])).map aO:=by
    unfold aw;rw[Ym,Ym];unfold aO;simp only[gG,List.map_nil];rw[show ((e.t.toNat:Nat):Int)=e.t by omega]
   have hs:St h P6 (.ae h177.size e.cs 67 :: .sl l 221 2 (V.map C8) :: .sl FX 3 1 ((aw (V.map fun x=>x.2.1)).map aO++[aO e.t]) :: .ae kj cx.cs 39 :: .ae iQ [.slice ev.a ev.n ev.c,.slice en.a en.n en.c] 109 :: .ae h.size g.cs 27::(V.map (AH g)++[.sl r 3 1 ((aw (ah g.es (x.2.1:Nat))).map aO)])):=hs;have fin:∀ {Dm:Sl} {hA HB:Heap},St h HB (.sl Dm 65 3 ((cG g.es x.2.2).map Ac.cs) :: .ae hA.size e.act.cs 65 :: .ae h177.size e.cs 67 :: .sl l 221 2 (V.map C8) :: .sl FX 3 1 ((aw (V.map fun x=>x.2.1)).map aO++[aO e.t]) :: .ae kj cx.cs 39 :: .ae iQ [.slice ev.a ev.n ev.c,.slice en.a en.n en.c] 109 :: .ae h.size g.cs 27::(V.map (AH g)++[.sl r 3 1 ((aw (ah g.es (x.2.1:Nat))).map aO)]))->EJ Dm hA HB h177 e.t l (r.n-k) (fun l' p8 y h' μ=>∃(k:Nat) (V':List (Sl × Vq)) (par':Nat->Nat),y=(k:Int)/\r.n-k=μ/\k<=r.n/\St h h' (yr kj iQ h.size g ev en l' p8 V' [.sl r 3 1 ((aw (ah g.es (x.2.1:Nat))).map aO)])/\gV g MX (V'.map Prod.snd) par' i k/\V'[i]?=some x) FX (k:Nat):=fun {Dm hA HB} hs=>
    abJ ge (by omega) hs (by omega) (by omega) hS fun l' w h' bL=>by
     refine⟨_,(show r.n-(k+1)<r.n-k by omega),k+1,_,OC,qN,rfl,by omega,bL,by rw[Ym];exact hB3,by rw[jw n4];exact hx⟩
   have hw:∀r∈(cG g.es x.2.2).map Ac.cs,r.length=3:=Aj _;have sq:((cG g.es x.2.2).map Ac.cs).flatten.all dR=true:=eu (fun _=>rfl) _;have hwn:x.1.n=x.2.2.length:=by
    have:=(wd hs (si [_,_,_,_,_,_] _)).ln;rw[this];exact Yc _
   refine⟨fun Xc Qz=>⟨(show Ext P6 Xc by rw[Qz];exact Ext.push _ _).sm,?_,fun adA XM=>⟨(show Ext Xc adA by rw[XM];exact Ext.push _ _).sm,?_⟩⟩,fun Xb XL=>⟨(show Ext P6 Xb by rw[XL];exact Ext.push _ _).sm,fun ady XK=>⟨(show Ext Xb ady by rw[XK];exact Ext.push _ _).sm,?_⟩⟩⟩
   .have dC:=(hs.dh Qz).dP 0 3 [] rfl (fun r hr=>by cases hr) rfl (by decide);refine dC.dY 0 (rows:=[]) (news:=(cG g.es x.2.2).map Ac.cs) rfl eJ (y:=x.1) (wd dC (si [_,_,_,_,_,_,_] _)).rw hw (wd dC (si [_,_,_,_,_,_,_] _)).nil sq (by show (0+x.1.n)*24<=_;omega) (by show 0+x.1.n<=_;simp only[maxLen];omega) fun Dm LK _ bG=>?_;refine⟨jU (dC.jk bG 1 1 1 rfl rfl) (dC.jk bG 1 1 4 rfl rfl),fun HB XN=>⟨(show Ext LK HB by rw[XN];exact Ext.push _ _).sm,?_⟩⟩;exact fin ((bG.dh XN).perm (List.Perm.swap _ _ _))
   .have dC:=((hs.dh Qz).dP 0 3 [] rfl (fun r hr=>by cases hr) rfl (by decide)).dh XM;refine dC.dY 1 (rows:=[]) (news:=(cG g.es x.2.2).map Ac.cs) rfl eJ (y:=x.1) (wd dC (si [_,_,_,_,_,_,_,_] _)).rw hw (wd dC (si [_,_,_,_,_,_,_,_] _)).nil sq (by show (0+x.1.n)*24<=_;omega) (by show 0+x.1.n<=_;simp only[maxLen];omega) fun Dm LK _ bG=>?_;refine⟨jU (dC.jk bG 2 2 1 rfl rfl) (dC.jk bG 2 2 4 rfl rfl),?_⟩;exact fin (bG.perm (List.Perm.swap _ _ _))
   .have dC:=((hs.dh XL).dh XK).dP 0 3 [] rfl (fun r hr=>by cases hr) rfl (by decide);refine dC.dY 0 (rows:=[]) (news:=(cG g.es x.2.2).map Ac.cs) rfl eJ (y:=x.1) (wd dC (si [_,_,_,_,_,_,_,_] _)).rw hw (wd dC (si [_,_,_,_,_,_,_,_] _)).nil sq (by show (0+x.1.n)*24<=_;omega) (by show 0+x.1.n<=_;simp only[maxLen];omega) fun Dm LK _ bG=>?_;refine⟨jU (dC.jk bG 2 2 1 rfl rfl) (dC.jk bG 2 2 4 rfl rfl),?_⟩;exact fin bG
  .have cN:(eA g.es a).t.toNat∈(V.map Prod.snd).map Prod.fst:=hb.1 (by simpa using c2);exact⟨_,(show r.n-(k+1)<r.n-k by omega),k+1,V,par,qN,rfl,by omega,hs.drop 1,hB.skip O8 ga cN,hx⟩
 .have Lq:k=(ah g.es (x.2.1:Nat)).length:=by omega
  subst Lq;refine hI l seen V par h177 (hs.fK (R:=[.sl r 3 1 ((aw (ah g.es (x.2.1:Nat))).map aO)]) ?_) hB hx;unfold yr;rw[Yw];exact List.Perm.refl _
end Go.VC
end
