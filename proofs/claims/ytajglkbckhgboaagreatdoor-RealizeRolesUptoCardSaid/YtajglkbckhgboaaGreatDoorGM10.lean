/- SyT SyU SyV SyBa SyW SyX SyY SyZ SyZa SyBb SyCa SyCb SyCc SyCd SyCe SyCf SyCg. -/
import Derived.Test.YtajglkbckhgboaaGreatDoorGM09
set_option linter.all false
set_option maxRecDepth 100000
set_option maxHeartbeats 8000000

section
namespace Go.VC
open Go.Proofs Go.LexS
theorem Io:cC Pz 206 210 3 40=true:=by kernel_rfl
structure SrA (F:List FS) (i:Nat) (A:List FS):Prop where
 p:A.Pairwise fun a b=>cu a.1.m b.1.m
 m:A.Perm (F.take i)
theorem SrA.ln{F:List FS}{i:Nat}{A:List FS}(h:SrA F i A)(hi:i<=F.length):A.length=i:=by rw[h.m.length_eq,Yu];omega
theorem Lu(A:List FS)(x:FS)(k:Nat):((A.take k++[x]++A.drop k).map dz)=(A.map dz).take k++[dz x]++(A.map dz).drop k:=by
 rw[Ym,Ym,List.map_take,List.map_drop];rfl
theorem xZ(g:Gl)(i:Nat)(x0:Ed)(h:Heap)(hg:GI h g)(hV:af g)(hi:g.es[i]?=some x0):
  Fn Pz 113 #[g.v,.int .i64 (i:Nat)] h fun v h'=>∃(s:Sl) (A:List FS) (L:List It),v=.slice s.a s.n s.c/\A.map (fun a=>a.1.m)=dP g i/\(∀a∈A,a.1.path=gA g i a.1.m/\a.1.path.length<=1000000)/\St h h' (.sl s 210 3 (A.map dz)::L)/\(∀a∈A,nest 65 3 Ac.cs (a.2,a.1.path)∈L)/\A.length<=g.es.length:=by
 apply Vl (bs g.nm) g.hr g.hd g.n g.s g.e g.he g.ht (i:Nat);unfold aaD C6 Jw Jx;have hM:=hV.num.m;refine (St.refl h).aj fun h9 hs=>?_;refine⟨_,_,_,_,_,_,_,_,hs.at 0 rfl (o:=0) (n:=8) rfl,?_⟩;refine (ui g i x0 h9 (hg.ext hs.ext) hV hi).mono ?_;rintro _ aD ⟨s,F,L,rfl,hF,hsF,Qa,hFn⟩;have qR:=(hs.join hsF).drop 1;have fO:=hFn.len;rw[<-hF,Yc] at fO;have yB:Rw aD 3 s (F.map dz):=hsF.rows 0 rfl (by decide);have iA:=yB.ln;have zR:(F.map (fun f=>f.1.m)).Nodup:=by
  have:=hFn.nd;rw[<-hF,List.map_map] at this;exact this
 refine⟨s,rfl,?_⟩;have hs:=(St.refl aD).bH 210 3;refine⟨fun out x h' μ=>∃(j:Nat) (A:List FS),x=j/\μ=s.n-j/\j<=s.n/\St aD h' [.sl out 210 3 (A.map dz)]/\SrA F j A,⟨_,0,[],rfl,rfl,Nat.zero_le _,hs,.nil,by rw[my]⟩,?_⟩;clear hs;rintro-out _ rX μ ⟨j,A,rfl,rfl,hj,hs,hA⟩;have zP:=hs.len 0 (s:=out) (e:=210) (n:=3) rfl (by decide);have lX:=hA.ln (by omega);rw[Yc] at zP;refine aM (fun c=>?_) (fun c=>?_)
 .obtain⟨a,ga⟩:=get_some (l:=F) (i:=j) (by omega);have tw:∀b∈A,b.1.m≠a.1.m:=fun b hb e=>by
   have jH:=hA.m.mem_iff.1 hb;obtain⟨q,hq⟩:=Yf.1 jH;rw[tS] at hq;split at hq
   .have h5:(F.map (fun f=>f.1.m))[q]?=some a.1.m:=by rw[Yd,hq,<-e];rfl
    have h6:(F.map (fun f=>f.1.m))[j]?=some a.1.m:=by rw[Yd,ga];rfl
    have:=eH zR h5 h6;omega
   .cases hq
  refine aJ (n:=out.n) hs (fun k=>∀(q:Nat) b,q<k->A[q]?=some b->cu b.1.m a.1.m) (fun q b hq=>by omega) ?_;rintro-k fP hk ⟨hs,bU⟩;have load:∀ {h':Heap} {K:Nat->Nat->Prop},Ext aD h'->(∀b o,b<aD.size->aZ h' ⟨b,o+Int.toNat (j:Int)*3,none⟩ (dz a)->K b o)->NB s.a fun b o=>(0<=(j:Int)/\(j:Int)<(s.n:Nat))/\K b o:=fun {h' K} E' hK=>by
   refine yB.aA (by omega) (by omega) fun b o d gd t=>?_;replace gd:F[j]?=some d:=gd;rw[ga] at gd;cases gd;exact hK b o (eu (t.nth 0 rfl)) (mr E' t)
  have J2:(A.map dz).flatten.all dU=true:=eB (fun _=>rfl) _;have LR:(A.map dz).length=A.length:=Yc _;have fin:(∀b,A[k]?=some b->cu a.1.m b.1.m)->∀r' uY,St aD uY [.sl r' 210 3 ((A.map dz).take k++[dz a]++(A.map dz).drop k)]->∃m',m'<s.n-j/\∃(j':Nat) (A:List FS),IntKind.wrap .i64 ((j:Int)+1)=j'/\m'=s.n-j'/\j'<=s.n/\St aD uY [.sl r' 210 3 (A.map dz)]/\SrA F j' A:=fun Hs r' uY zN=>by
   refine⟨_,(show s.n-(j+1)<s.n-j by omega),j+1,A.take k++[a]++A.drop k,by rw[a7 (by omega) (by omega)];omega,rfl,by omega,by rw[Lu];exact zN,Gb (R:=fun a b:FS=>cu a.1.m b.1.m) (fun a b c=>uG) hA.p bU Hs,?_⟩;rw[ak ga,Yz];refine (List.Perm.append_left _ List.perm_append_comm).trans ?_;rw[<-Yz,List.take_append_drop];exact List.Perm.append_right _ hA.m
  refine aM (fun c2=>?_) (fun c2=>?_)
  .obtain⟨b,gb⟩:=get_some (l:=A) (i:=k) (by omega);have hbm:=tw b (Yb gb);have rd:∀ {K:Nat->Nat->Prop},(∀b' o,aZ fP ⟨b',o+Int.toNat (k:Int)*3,none⟩ (dz b)->K b' o)->NB out.a fun b' o=>(0<=(k:Int)/\(k:Int)<(out.n:Nat))/\K b' o:=fun {K} hK=>by
    refine (hs.rows 0 (s:=out) (cs:=dz) (l:=A) rfl (by decide)).aA (by omega) (by omega) fun b' o d gd t=>?_;replace gd:A[k]?=some d:=gd;rw[gb] at gd;cases gd;exact hK b' o t
   have tc:cu b.1.m a.1.m->∃m',m'<out.n-k/\Up out.n (fun k h'=>St aD h' [.sl out 210 3 (A.map dz)]/\∀(q:Nat) b,q<k->A[q]?=some b->cu b.1.m a.1.m) (IntKind.wrap .i64 ((k:Int)+1)) fP m':=fun hl=>by
    refine Up.next (by omega) (by omega) ⟨hs,fun q z hq hz=>?_⟩;by_cases e:q=k
    .subst e;rw[gb] at hz;cases hz;exact hl
    .exact bU q z (by omega) hz
   have bE:¬(b.1.m.p=a.1.m.p/\b.1.m.l=a.1.m.l):=fun h9=>hbm (by
    obtain⟨h8,h7⟩:=h9;cases hm:b.1.m;cases kd:a.1.m;rw[hm,kd] at h8 h7;simp only at h8 h7;rw[h8,h7])
   refine rd fun YY VS t=>⟨_,t.nth 0 rfl,load hs.ext fun YX VR _ t2=>⟨_,t2.nth 0 rfl,?_⟩⟩;refine aM (fun c3=>tc (by unfold cu;omega)) (fun c3=>?_);refine rd fun YY VS t=>⟨_,t.nth 0 rfl,load hs.ext fun YX VR _ t2=>⟨_,t2.nth 0 rfl,?_⟩⟩;refine dw (fun c4=>?_) (fun c4=>?_);refine rd fun YY VS t=>⟨_,t.nth 1 rfl,load hs.ext fun YX VR _ t2=>⟨_,t2.nth 1 rfl,?_⟩⟩;refine aM (fun c5=>tc (by unfold cu;omega)) (fun c5=>?_);rotate_left;all_goals
    refine⟨⟨by omega,by omega,by omega⟩,load hs.ext fun b52 o53 P4 t1=>⟨_,_,t1.Dk 2 rfl,load hs.ext fun b56 o57 PZ t2=>⟨a.2,t2.nth 2 rfl,⟨by omega,by omega,by omega⟩,?_⟩⟩⟩;refine Lv Io hs (by rw[LR];omega) rfl J2 rfl (by decide) (by decide) (by rw[LR];omega) (aF PZ (aF P4 bg)) (fin fun z gz=>?_);rw[gb] at gz;cases gz;unfold cu;omega
  .refine⟨⟨by omega,by omega,by omega⟩,load hs.ext fun b52 o53 P4 t1=>⟨_,_,t1.Dk 2 rfl,load hs.ext fun b56 o57 PZ t2=>⟨a.2,t2.nth 2 rfl,⟨by omega,by omega,by omega⟩,?_⟩⟩⟩;refine Lv Io hs (by rw[LR];omega) rfl J2 rfl (by decide) (by decide) (by rw[LR];omega) (aF PZ (aF P4 bg)) (fin fun z gz=>?_);have:=(Ya.1 gz).1;omega
 .have LH:j=F.length:=by omega
  subst LH;have NY:=hA.m;rw[vM] at NY;have mF:(A.map fun a=>a.1.m)=dP g i:=by
   refine vX (l:=(ef g i).map (·.m)) ?_ ?_ hFn.nd
   .rw[<-hF,List.map_map];exact NY.map _
   .rw[List.pairwise_map];exact hA.p.imp fun {a b} h1 h2=>by unfold cu at h1 h2;omega
  refine⟨out,A,L,rfl,mF,fun a ha=>?_,?_,fun a ha=>Qa a (NY.mem_iff.1 ha),by rw[NY.length_eq];exact fO⟩
  .have eK:a.1∈ef g i:=by rw[<-hF];exact Yp.2 ⟨a,NY.mem_iff.1 ha,rfl⟩
   refine⟨?_,hFn.pl a.1 eK⟩;unfold gA;cases hq:(ef g i).find? fun f=>decide (f.m=a.1.m) with
   | none=>have:=List.find?_eq_none.1 hq a.1 eK;rw[decide_eq_true rfl] at this;exact absurd rfl this
   | some f'=>
    have h3:=List.mem_of_find?_eq_some hq;have h4:f'.m=a.1.m:=by have:=List.find?_some hq;exact cm this
    show a.1.path=f'.path;obtain⟨p,hp⟩:=Yf.1 h3;obtain⟨b,hb⟩:=Yf.1 eK;have h5:((ef g i).map (·.m))[p]?=some a.1.m:=by rw[Yd,hp,<-h4];rfl
    have h6:((ef g i).map (·.m))[b]?=some a.1.m:=by rw[Yd,hb];rfl
    have h7:=eH hFn.nd h5 h6;subst h7;rw[hp] at hb;cases hb;rfl
  .refine (qR.join hs).gK (L':=.sl out 210 3 (A.map dz)::L) (R:=[.sl s 330 3 (F.map dz)]) ?_;refine (List.perm_append_comm (l₂:=[It.sl out 210 3 (A.map dz)])).trans (.cons _ ?_);exact (List.perm_append_comm (l₁:=[It.sl s 330 3 (F.map dz)]))
theorem qp(r:Int)(m:Ms)(h:Heap):Fn Pz 122 #[.int .i64 r,.agg ⟨m.cs⟩] h fun v h'=>v=.agg ⟨aC r m.ev⟩/\Ext h h':=by
 apply Vc r m.p m.l;unfold aau;refine (St.refl h).aj fun h3 hs=>?_;refine hs.aj fun h4 hs=>?_;refine⟨_,hs.rd 1 rfl (i:=0) rfl,_,hs.rd 1 rfl (i:=1) rfl,?_⟩;refine hs.put 0 rfl (o:=0) (vs:=aC r m.ev) rfl (show 5<=5 by decide) fun h7 hs=>?_;exact⟨_,_,_,_,⟨none,0,0⟩,hs.at 0 rfl (o:=0) (n:=5) rfl,rfl,hs.ext⟩
abbrev gF:=Nat × FS
def rC(a:gF):List Value:=[.int .i64 (a.1:Nat),.int .i64 a.2.1.m.p,.int .i64 a.2.1.m.l,.slice a.2.2.a a.2.2.n a.2.2.c]
def cr(a:gF):fT:=⟨(a.1:Nat),1+(a.2.1.path.length:Int),a.2.1.m⟩
def aaR(K:List Ev)(L:List gF)(out:Int):Prop:=(out=-1/\(L.map cr).foldl (fj K) none=none)\/∃(o:Nat) (y:gF),out=(o:Int)/\L[o]?=some y/\(L.map cr).foldl (fj K) none=some (cr y)
theorem qL(r:Int)(K:List Ev)(L:List gF)(s e:Sl)(h:Heap)(hr:Rw h 4 s (L.map rC))(he:Rw h 5 e (K.map (aC r)))(hL:L.length<=1048576)(hK:K.length<=1048576)(hp:∀a∈L,a.2.2.n=a.2.1.path.length):
  Fn Pz 121 #[.slice s.a s.n s.c,.int .i64 r,.slice e.a e.n e.c] h fun v h'=>(∃out,v=.int .i64 out/\aaR K L out)/\Ext h h':=by
 apply Vd s r e;unfold aav;have hn:=hr.ln;refine⟨fun out x h' μ=>∃i:Nat,x=(i:Int)/\s.n-i=μ/\i<=s.n/\Ext h h'/\((out=-1/\((L.take i).map cr).foldl (fj K) none=none)\/∃(o:Nat) (y:gF),out=(o:Int)/\o<i/\L[o]?=some y/\((L.take i).map cr).foldl (fj K) none=some (cr y)),⟨_,0,rfl,rfl,Nat.zero_le _,.iK,.inl ⟨rfl,by rw[my];rfl⟩⟩,?_⟩;rintro-out _ h6 μ ⟨i,rfl,rfl,hi,E,hI⟩;refine aM (fun c=>?_) (fun c=>?_)
 .obtain⟨x,gx⟩:=get_some (l:=L) (i:=i) (by omega);have rd:∀ {h':Heap} {K':Nat->Nat->Prop},Ext h h'->(∀b o,aZ h' ⟨b,o+Int.toNat (i:Int)*4,none⟩ (rC x)->K' b o)->NB s.a fun b o=>(0<=(i:Int)/\(i:Int)<(s.n:Nat))/\K' b o:=fun {h' K'} E' hK'=>by
   refine (hr.ext E').aA (by omega) (by omega) fun b o d gd t=>?_;replace gd:L[i]?=some d:=gd;rw[gx] at gd;cases gd;exact hK' b o t
  have kY:((L.take (i+1)).map cr).foldl (fj K) none=fj K (((L.take i).map cr).foldl (fj K) none) (cr x):=by rw[ak gx,Ym,List.foldl_append];rfl
  refine rd E fun b7 o8 t=>⟨_,_,t.sub 1 2 rfl,?_⟩;refine (qp r x.2.1.m h6).mono ?_;rintro _ iQ ⟨rfl,E2⟩;refine⟨_,_,_,_,⟨none,0,0⟩,rfl,?_⟩;refine (NV r K x.2.1.m.ev e iQ (he.ext (E.trans E2)) hK).mono ?_;rintro _ aD ⟨rfl,E3⟩;have E4:=(E.trans E2).trans E3;have yA:IntKind.wrap .i64 ((i:Int)+1)=((i+1:Nat):Int):=by rw[a7 (by omega) (by omega)];omega
  have PB:s.n-(i+1)<s.n-i:=by omega
  refine⟨_,rfl,aa (fun c2=>?_) (fun c2=>?_)⟩
  .have cO:(cr x).m.ev∈K:=cm c2;rcases hI with ⟨rfl,hf⟩ | ⟨o,y,rfl,ho,gy,hf⟩
   .refine aM (fun _=>?_) (fun c3=>absurd (show (-1:Int)<0 by decide) c3);refine⟨_,PB,i+1,yA,rfl,by omega,E4,.inr ⟨i,x,rfl,by omega,gx,?_⟩⟩;rw[kY,hf];unfold fj;rw[if_pos cO]
   .refine aM (fun c3=>by omega) (fun c3=>?_);have px:=hp x (Yb gx);have py:=hp y (Yb gy);have uN:((L.take (i+1)).map cr).foldl (fj K) none=if (cr x).n<(cr y).n then some (cr x) else some (cr y):=by
     rw[kY,hf];unfold fj;rw[if_pos cO]
    have e1:(cr x).n=1+(x.2.1.path.length:Int):=rfl;have e2:(cr y).n=1+(y.2.1.path.length:Int):=rfl;refine rd E4 fun b22 o23 t=>⟨x.2.2,t.nth 3 rfl,?_⟩;refine (hr.ext E4).aA (by omega) (by omega) fun b o' d gd t=>?_;replace gd:L[o]?=some d:=gd;rw[gy] at gd;cases gd;refine⟨y.2.2,t.nth 3 rfl,aM (fun c4=>?_) (fun c4=>?_)⟩
    .exact⟨_,PB,i+1,yA,rfl,by omega,E4,.inr ⟨i,x,rfl,by omega,gx,by rw[uN,if_pos (by omega)]⟩⟩
    .exact⟨_,PB,i+1,yA,rfl,by omega,E4,.inr ⟨o,y,rfl,by omega,gy,by rw[uN,if_neg (by omega)]⟩⟩
  .have acV:(cr x).m.ev∉K:=eZ c2;have uN:((L.take (i+1)).map cr).foldl (fj K) none=((L.take i).map cr).foldl (fj K) none:=by
    rw[kY];unfold fj;rw[if_neg acV]
   refine⟨_,PB,i+1,yA,rfl,by omega,E4,?_⟩;rw[uN];exact hI.imp id fun ⟨o,y,h1,h2,h3,h4⟩=>⟨o,y,h1,by omega,h3,h4⟩
 .rw[Yj (by omega)] at hI;exact⟨⟨out,rfl,hI.imp id fun ⟨o,y,h1,_,h3,h4⟩=>⟨o,y,h1,h3,h4⟩⟩,E⟩
theorem RJ:cC Pz 106 57 1 24=true:=by kernel_rfl
theorem RH:cC Pz 107 4 1 1=true:=by kernel_rfl
structure TA (g:Gl) (role:Int) (E:List (Sl × List Ev)) (B:List Bool) (n:Nat):Prop where
 e:E.map Prod.snd=(List.range n).map fun s:Nat=>ay g role (s:Nat)
 b:B=(List.range n).map fun s:Nat=>bQ g role (s:Nat)
def Ct(ev en:Sl)(role:Int)(E:List (Sl × List Ev))(B:List Bool):List It:=.sl ev 57 1 ((E.map Prod.fst).map eD) :: .sl en 4 1 (B.map bC)::E.map (nest 33 5 (aC role))
theorem Cs(g:Gl)(role:Int)(h:Heap)(hg:GI h g)(hM:JE g.ds)(hG:tX g role):
  Fn Pz 58 #[g.v,.int .i64 role] h fun v h'=>∃(ev en:Sl) (E:List (Sl × List Ev)) (B:List Bool),v=.agg ⟨[.slice ev.a ev.n ev.c,.slice en.a en.n en.c]⟩/\St h h' (Ct ev en role E B)/\TA g role E B g.n.toNat:=by
 apply abD (bs g.nm) g.hr g.hd g.n g.s g.e g.he g.ht role;unfold W58;have hN:=hG.1.num.n;refine (St.refl h).aj fun h9 hs=>?_;refine hs.aj fun cw hs=>?_;refine hs.aj fun iT hs=>?_;have hs:=(hs.bH 4 1).bH 57 1;have hs:St h iT (.ae cw.size [.slice none 0 0,.slice none 0 0] 109 :: .sl ⟨none,0,0⟩ 57 1 [] :: .sl ⟨none,0,0⟩ 4 1 []::[.ae h9.size [.slice none 0 0,.slice none 0 0] 109,.ae h.size g.cs 27]):=hs.perm (List.perm_append_comm (l₁:=[It.sl ⟨none,0,0⟩ 57 1 [],.sl ⟨none,0,0⟩ 4 1 []]) (l₂:=[It.ae cw.size [.slice none 0 0,.slice none 0 0] 109]) |>.append_right _);refine⟨fun x h' μ=>∃(i:Nat) (ev en:Sl) (E:List (Sl × List Ev)) (B:List Bool),x=(i:Int)/\g.n.toNat-i=μ/\i<=g.n.toNat/\St h h' (.ae cw.size [.slice ev.a ev.n ev.c,.slice en.a en.n en.c] 109 :: .sl ev 57 1 ((E.map Prod.fst).map eD) :: .sl en 4 1 (B.map bC)::([.ae h9.size [.slice none 0 0,.slice none 0 0] 109,.ae h.size g.cs 27]++E.map (nest 33 5 (aC role))))/\TA g role E B i,⟨_,0,⟨none,0,0⟩,⟨none,0,0⟩,[],[],rfl,rfl,Nat.zero_le _,by simpa using hs,⟨rfl,rfl⟩⟩,?_⟩;clear hs;rintro-_ cB μ ⟨i,ev,en,E,B,rfl,rfl,hi,hs,hA⟩;have hEl:E.length=i:=by have:=congrArg List.length hA.e;simpa using this
 have yH:B.length=i:=by rw[hA.b];simp
 refine⟨g.n,hs.rd 4 rfl (i:=3) rfl,aM (fun c=>?_) (fun c=>?_)⟩
 .refine⟨_,_,_,_,_,_,_,_,hs.at 4 rfl (o:=0) (n:=8) rfl,?_⟩;refine (yV g role (i:Int) cB (hg.ext hs.ext) hM hG ⟨by omega,by omega⟩).mono ?_;rintro _ HF ⟨r,rfl,yB⟩;refine⟨r,bQ g role (i:Int),0,rfl,?_⟩;have hs:=hs.join yB;refine⟨ev,hs.rd 0 rfl (i:=0) rfl,?_⟩;intro Tf e32;refine hs.rH 0 1 rfl rfl RJ (x:=r) e32 rfl rfl (by rw[Yc];omega) (by decide) 0 (show 0<2 by decide) (by decide) fun ev' bL hs=>?_;refine⟨en,hs.rd 0 rfl (i:=1) rfl,?_⟩;intro oV e37;refine hs.rH 0 2 rfl rfl RH (x:=bQ g role (i:Int)) e37 rfl rfl (by omega) (by decide) 1 (show 1<2 by decide) (by decide) fun en' sC hs=>?_;refine⟨_,(show g.n.toNat-(i+1)<g.n.toNat-i by omega),i+1,ev',en',E++[(r,ay g role (i:Int))],B++[bQ g role (i:Int)],by rw[a7 (by omega) (by omega)];omega,rfl,by omega,?_,⟨by rw[Ym,hA.e,List.range_succ,Ym];rfl,by rw[hA.b,List.range_succ,Ym];rfl⟩⟩;rw[Ym (f:=Prod.fst),Ym (f:=nest 33 5 (aC role))];have:=hs;simpa [aG,nest] using this
 .have cO:i=g.n.toNat:=by omega
  subst cO;refine⟨ev,en,hs.at 0 rfl (o:=0) (n:=2) rfl,?_⟩;refine hs.put 3 rfl (o:=0) (vs:=[.slice ev.a ev.n ev.c,.slice en.a en.n en.c]) rfl (show 2<=2 by decide) fun xA hs=>?_;refine⟨ev,en,hs.at 3 rfl (o:=0) (n:=2) rfl,ev,en,E,B,rfl,?_,hA⟩;refine hs.gK (R:=[.ae cw.size [.slice ev.a ev.n ev.c,.slice en.a en.n en.c] 109,.ae h9.size [.slice ev.a ev.n ev.c,.slice en.a en.n en.c] 109,.ae h.size g.cs 27]) ?_;unfold Ct;refine (List.perm_append_comm (l₁:=[It.ae cw.size [.slice ev.a ev.n ev.c,.slice en.a en.n en.c] 109])).trans ?_;refine .cons _ (.cons _ ?_);show List.Perm (([It.ae h9.size [.slice ev.a ev.n ev.c,.slice en.a en.n en.c] 109,.ae h.size g.cs 27]++E.map (nest 33 5 (aC role)))++[It.ae cw.size [.slice ev.a ev.n ev.c,.slice en.a en.n en.c] 109]) _;refine (List.Perm.append_right _ List.perm_append_comm).trans ?_;rw[Yz];exact List.Perm.append_left _ (List.perm_append_comm (l₁:=[_,_]) (l₂:=[_]))
theorem RF:cC Pz 211 213 4 48=true:=by kernel_rfl
theorem Lg(n:Nat):ai Pz 211 n=(List.replicate n (⟨none,0,0⟩:Sl)).map eS:=by
 have e:bV Pz 211=[.slice none 0 0]:=by kernel_rfl
 unfold ai;rw[e]
 induction n with
 | zero=>rfl
 | succ n ih=>rw[List.replicate_succ,oC,ih,List.replicate_succ];rfl
structure yt (g:Gl) (role:Int) (f:Nat->List fT) (R:List It) (MS:List (Sl × List gF)):Prop where
 l:MS.length=g.n.toNat
 s:∀(s:Nat) (q:Sl × List gF),MS[s]?=some q->q.2.map cr=f s
 p:∀q∈MS,∀a∈q.2,nest 65 3 Ac.cs (a.2.2,a.2.1.path)∈R/\a.2.1.path=gA g a.1 a.2.1.m/\a.2.1.path.length<=1000000/\a.1<g.es.length
theorem yt.more{g:Gl}{role:Int}{f:Nat->List fT}{R R':List It}{MS:List (Sl × List gF)}(h:yt g role f R MS)(hR:∀i∈R,i∈R'):yt g role f R' MS:=⟨h.l,h.s,fun q hq a ha=>by obtain⟨h1,h2⟩:=h.p q hq a ha;exact⟨hR _ h1,h2⟩⟩
theorem yt.len{g:Gl}{role:Int}{f:Nat->List fT}{R:List It}{MS:List (Sl × List gF)}(h:yt g role f R MS){s:Nat}{q:Sl × List gF}(hq:MS[s]?=some q):q.2.length=(f s).length:=by
 have:=congrArg List.length (h.s s q hq)
 rwa [Yc] at this
theorem yt.FH{g:Gl}{role:Int}{f f':Nat->List fT}{R:List It}{MS:List (Sl × List gF)}(h:yt g role f R MS){k:Nat}{q:Sl × List gF}(hq:MS[k]?=some q)(r:Sl){a:gF}(h1:f' k=f k++[cr a])(h2:∀s,s≠k->f' s=f s)
  (hp:nest 65 3 Ac.cs (a.2.2,a.2.1.path)∈R/\a.2.1.path=gA g a.1 a.2.1.m/\a.2.1.path.length<=1000000/\a.1<g.es.length):yt g role f' R (MS.set k (r,q.2++[a])):=by
 have hk:=(Ya.1 hq).1;refine⟨by rw[jR,h.l],fun s z hz=>?_,fun z hz b hb=>?_⟩
 .by_cases e:k=s
  .subst e;rw[Yq hk] at hz;cases hz;rw[Ym,h.s k q hq,h1];rfl
  .rw[Yy e] at hz;rw[h.s s z hz,h2 s (Ne.symm e)]
 .rcases List.mem_or_eq_of_mem_set hz with hz | rfl
  .exact h.p z hz b hb
  .rcases Yk.1 hb with hb | hb
   .exact h.p q (Yb hq) b hb
   .rw[Ye] at hb;rw[hb];exact hp
def EL(ob gb:Nat)(g:Gl)(MS:List (Sl × List gF))(R:List It):List It:=[.ae ob ((MS.map Prod.fst).map eS) 211,.ae gb g.cs 27]++MS.map (nest 213 4 rC)++R
def Oi(g:Gl)(role:Int)(j s:Nat):List fT:=(oP g.es j s).flatMap (iy g role)
theorem ya{g:Gl}{role:Int}{j:Nat}{x:Ed}(hx:g.es[j]?=some x)(s:Nat):Oi g role (j+1) s=Oi g role j s++(if x.f=(s:Int) then iy g role j else []):=by
 unfold Oi;rw[ng hx,List.flatMap_append];congr 1;split
 .simp
 .rfl
theorem kR(g:Gl)(role:Int)(h:Heap)(hg:GI h g)(hV:af g):
  Fn Pz 59 #[g.v,.int .i64 role] h fun v h'=>∃(ob:Nat) (MS:List (Sl × List gF)) (R:List It),v=.slice (some ⟨ob,0,none⟩) g.n.toNat g.n.toNat/\St h h' (.sl ⟨some ⟨ob,0,none⟩,g.n.toNat,g.n.toNat⟩ 211 1 ((MS.map Prod.fst).map eD)::(MS.map (nest 213 4 rC)++R))/\yt g role (du g role) R MS/\∀q∈MS,q.2.length<=160000:=by
 apply abC (bs g.nm) g.hr g.hd g.n g.s g.e g.he g.ht role;unfold W59;have hN:=hV.num.n;have hM:=hV.num.m;have ke:=hg.e.ln;refine (St.refl h).aj fun h9 hs=>?_;refine⟨g.n,hs.rd 0 rfl (i:=3) rfl,⟨by omega,by omega,by omega⟩,?_⟩;rw[Lg];refine hs.aj fun iT hs=>?_;have hs:=hs.qF (α:=gF) (e:=213) (k:=4) (cs:=rC) (A:=[_,_]) (B:=[]) g.n.toNat;have hs:St h iT (EL h9.size h.size g (List.replicate g.n.toNat ((⟨.none,0,0⟩,[]):Sl × List gF)) []):=by
  unfold EL;rw[List.map_replicate (f:=Prod.fst)];exact hs
 have hA:yt g role (Oi g role 0) [] (List.replicate g.n.toNat ((⟨.none,0,0⟩,[]):Sl × List gF)):=by
  refine⟨Yg,fun s q hq=>?_,fun q hq a ha=>?_⟩
  .have:=List.eq_of_mem_replicate (Yb hq);rw[this];rfl
  .have:=List.eq_of_mem_replicate hq;rw[this] at ha;cases ha
 refine⟨fun x h' μ=>∃(i:Nat) (MS:List (Sl × List gF)) (R:List It),x=(i:Int)/\g.es.length-i=μ/\i<=g.es.length/\St h h' (EL h9.size h.size g MS R)/\yt g role (Oi g role i) R MS/\∀q∈MS,q.2.length<=400*i,⟨_,0,_,[],rfl,rfl,Nat.zero_le _,hs,hA,fun q hq=>by rw[List.eq_of_mem_replicate hq];exact Nat.zero_le _⟩,?_⟩;clear hs hA;rintro-_ cB μ ⟨i,MS,R,rfl,rfl,hi,hs,hA,hB⟩;have hMl:=hA.l;have yA:i<g.es.length->IntKind.wrap .i64 ((i:Int)+1)=((i+1:Nat):Int):=fun hi=>by rw[a7 (by omega) (by omega)];omega
 refine⟨g.he,hs.rd 1 rfl (i:=6) rfl,aM (fun c=>?_) (fun c=>?_)⟩
 .refine⟨g.he,hs.rd 1 rfl (i:=6) rfl,?_⟩;refine (hg.e.rw.ext hs.ext).aA (by omega) (by omega) fun b19 o20 x gx t=>?_;replace gx:g.es[i]?=some x:=gx;have vF:=hV.num.e x (Yb gx);unfold gV at vF;refine⟨_,_,_,_,_,_,t,?_⟩;refine hs.ao (vs:=x.cs) rfl rfl fun J5 hs=>?_;refine⟨x.b,hs.rd 0 rfl (i:=2) rfl,eY (fun cb=>?_) (fun cb=>?_)⟩
  .refine⟨_,(show g.es.length-(i+1)<g.es.length-i by omega),i+1,MS,R,yA (by omega),rfl,by omega,hs.drop 1,⟨hA.l,fun s q hq=>?_,hA.p⟩,fun q hq=>by have:=hB q hq;omega⟩;rw[hA.s s q hq,ya gx];split
   .unfold iy;rw[aL gx,if_neg cb,Yw]
   .rw[Yw]
  .refine⟨_,_,_,_,_,_,_,_,hs.at 2 rfl (o:=0) (n:=8) rfl,?_⟩;refine (xZ g i x J5 (hg.ext hs.ext) hV gx).mono ?_;rintro _ LX ⟨s,A,L,rfl,NY,hAp,hsA,hAL,lX⟩;refine⟨s,rfl,?_⟩;have iA:=(hsA.len 0 (s:=s) rfl (by decide)).1;rw[Yc] at iA;have WY:(dP g i).length=A.length:=by rw[<-NY,Yc]
   have dx:St h LX ([.ae cB.size x.cs 67,.ae h9.size ((MS.map Prod.fst).map eS) 211,.ae h.size g.cs 27]++MS.map (nest 213 4 rC)++(.sl s 210 3 (A.map dz)::(L++R))):=by
    refine (hs.join hsA).perm ?_;unfold EL;show List.Perm ((.ae cB.size x.cs 67::([.ae h9.size ((MS.map Prod.fst).map eS) 211,.ae h.size g.cs 27]++MS.map (nest 213 4 rC)++R))++(.sl s 210 3 (A.map dz)::L)) _;rw[List.cons_append,Yz _ R];refine .cons _ (List.Perm.append_left _ ?_);refine List.perm_append_comm.trans ?_;rw[List.cons_append]
   refine⟨fun y h' μ'=>∃(k:Nat) (MS':List (Sl × List gF)),y=(k:Int)/\s.n-k=μ'/\k<=s.n/\St h h' ([.ae cB.size x.cs 67,.ae h9.size ((MS'.map Prod.fst).map eS) 211,.ae h.size g.cs 27]++MS'.map (nest 213 4 rC)++(.sl s 210 3 (A.map dz)::(L++R)))/\yt g role (fun z=>Oi g role i z++(if x.f=(z:Int) then tP g i ((dP g i).take k) else [])) (L++R) MS'/\∀q∈MS',q.2.length<=400*i+k,⟨_,0,MS,rfl,rfl,Nat.zero_le _,dx,⟨hA.l,fun z q hq=>by
    have e0:tP g i ((dP g i).take 0)=[]:=by rw[my];rfl
    rw[hA.s z q hq,e0,ite_self,Yw],(hA.more fun j hj=>List.mem_append_right _ hj).p⟩,fun q hq=>hB q hq⟩,?_⟩
   clear hs dx hA hMl hB;rintro-_ nD μ' ⟨k,MS,rfl,rfl,hk,hs,hA,hB⟩;have hMl:=hA.l;have JU:x.f.toNat<MS.length:=by omega
   obtain⟨q,hq⟩:=get_some (l:=MS) (i:=x.f.toNat) JU;have uO:=hA.len hq;have nz:=(hs.kF hq (by omega)).ln;have hq6:q.2.length<=160400:=by have:=hB q (Yb hq);omega
   refine aM (fun c2=>?_) (fun c2=>?_)
   .obtain⟨a,ga⟩:=get_some (l:=A) (i:=k) (by omega);have gm:(dP g i)[k]?=some a.1.m:=by rw[<-NY,Yd,ga];rfl
    have hsi:([.ae cB.size x.cs 67,.ae h9.size ((MS.map Prod.fst).map eS) 211,.ae h.size g.cs 27]++MS.map (nest 213 4 rC)++(.sl s 210 3 (A.map dz)::(L++R)))[3+MS.length]?=some (.sl s 210 3 (A.map dz)):=by
     rw[tT (by simp;omega)];simp only[Yh,Yc,j5,List.length_nil];rw[show 3+MS.length-(0+1+1+1+MS.length)=0 by omega];rfl
    have rd:∀ {K:Nat->Nat->Prop},(∀b o,aZ nD ⟨b,o+Int.toNat (k:Int)*3,none⟩ (dz a)->K b o)->NB s.a fun b o=>(0<=(k:Int)/\(k:Int)<(s.n:Nat))/\K b o:=fun {K} hK=>by
     refine (hs.rows (3+MS.length) (s:=s) (cs:=dz) (l:=A) hsi (by decide)).aA (by omega) (by omega) fun b o d gd t=>?_;replace gd:A[k]?=some d:=gd;rw[ga] at gd;cases gd;exact hK b o t
    have Ps:∀z:Nat,Oi g role i z++(if x.f=(z:Int) then tP g i ((dP g i).take (k+1)) else [])=(Oi g role i z++(if x.f=(z:Int) then tP g i ((dP g i).take k) else []))++(if x.f=(z:Int) then (if a.1.m.p≠x.a then [jr g i a.1.m] else []) else []):=fun z=>by
     rw[Yz];congr 1;split
     .rw[rG gm,aL gx]
     .rfl
    have PB:s.n-(k+1)<s.n-k:=by omega
    have tv:IntKind.wrap .i64 ((k:Int)+1)=((k+1:Nat):Int):=by rw[a7 (by omega) (by omega)];omega
    refine rd fun b47 o48 t=>⟨_,t.nth 0 rfl,x.a,hs.rd 0 rfl (i:=1) rfl,eY (fun c3=>?_) (fun c3=>?_)⟩
    .refine⟨x.f,hs.rd 0 rfl (i:=0) rfl,x.f,hs.rd 0 rfl (i:=0) rfl,⟨by omega,by omega⟩,?_⟩;rw[show 0+Int.toNat x.f*1=x.f.toNat by omega];refine⟨q.1,hs.rd 1 rfl (by rw[Yd,Yd,hq];rfl),?_⟩;refine rd fun b54 o55 t2=>⟨_,_,t2.Dk 2 rfl,rd fun b58 o59 t3=>⟨a.2,t3.nth 2 rfl,?_⟩⟩;refine hs.aq fun NZ E61 hs=>⟨E61.sm,?_⟩;have hs:St h NZ ((.ae nD.size (rC (i,a)) 213::[.ae cB.size x.cs 67,.ae h9.size ((MS.map Prod.fst).map eS) 211,.ae h.size g.cs 27])++MS.map (nest 213 4 rC)++(.sl s 210 3 (A.map dz)::(L++R))):=hs;refine hs.nj hq RF ((i,a):gF) (hs.at 0 rfl (o:=0) (n:=4) rfl) rfl rfl (by omega) (by simp only[maxLen];omega) fun r rV hr fN=>?_;refine⟨fV (hs.same fN 1 1 rfl rfl) kv,⟨by omega,by omega⟩,?_⟩;refine fN.put 2 rfl (o:=x.f.toNat) (vs:=[eS r]) rfl (by rw[Yc,Yc,Yv];omega) fun J4 hs=>?_;rw[bw eS (by rw[Yc];omega)] at hs;refine⟨_,PB,k+1,MS.set x.f.toNat (r,q.2++[((i,a):gF)]),tv,rfl,by omega,by rw[List.map_set];exact hs.drop 1,?_,fun z hz=>?_⟩;rotate_left
     .rcases List.mem_or_eq_of_mem_set hz with hz | rfl
      .have:=hB z hz;omega
      .have:=hB q (Yb hq);simp only[Yh,Yv];omega
     obtain⟨ap1,ap2⟩:=hAp a (Yb ga);refine hA.FH hq r ?_ (fun z hz=>?_) ⟨List.mem_append_left _ (hAL a (Yb ga)),ap1,ap2,(Ya.1 gx).1⟩
     .rw[Ps,if_pos (show x.f=((x.f.toNat:Nat):Int) by omega),if_pos (show x.f=((x.f.toNat:Nat):Int) by omega),if_pos c3];unfold jr cr;simp only;rw[ap1]
     .rw[Ps,if_neg (show ¬x.f=(z:Int) by omega),if_neg (show ¬x.f=(z:Int) by omega),Yw]
    .refine⟨_,PB,k+1,MS,tv,rfl,by omega,hs,⟨hA.l,fun z q hq=>?_,hA.p⟩,fun z hz=>by have:=hB z hz;omega⟩;rw[hA.s z q hq,Ps,if_neg (show ¬a.1.m.p≠x.a by rw[c3];simp),ite_self,Yw]
   .have LG:k=A.length:=by omega
    refine⟨_,(show g.es.length-(i+1)<g.es.length-i by omega),i+1,MS,.sl s 210 3 (A.map dz)::(L++R),yA (by omega),rfl,by omega,?_,⟨hA.l,fun z q hq=>?_,(hA.more fun j hj=>Yn _ hj).p⟩,fun z hz=>by have:=hB z hz;omega⟩
    .unfold EL;exact hs.drop 1
    .rw[hA.s z q hq,ya gx];congr 1;split
     .unfold iy;rw[aL gx,if_pos cb,Yj (by omega)]
     .rfl
 .have cO:i=g.es.length:=by omega
  subst cO;refine⟨h9.size,MS,R,rfl,?_,⟨hA.l,fun s q hq=>hA.s s q hq,hA.p⟩,fun q hq=>by have:=hB q hq;omega⟩;have hs:=hs.gK (L':=.ae h9.size ((MS.map Prod.fst).map eS) 211::(MS.map (nest 213 4 rC)++R)) (R:=[.ae h.size g.cs 27]) (by
   unfold EL;refine .cons _ ?_;show List.Perm (([It.ae h.size g.cs 27]++MS.map (nest 213 4 rC))++R) _;rw[Yz];exact List.perm_append_comm)
  exact hs.dG g.n.toNat 1 ((MS.map Prod.fst).map eD) (by
   generalize MS.map Prod.fst=l
   induction l with
   | nil=>rfl
   | cons a l ih=>rw[gJ,gJ,oC,ih];rfl) (fun r hr=>by obtain⟨x,_,rfl⟩:=Yp.1 hr;rfl) (by rw[Yc,Yc,hA.l]) (by simp only[maxLen];omega)
theorem Cm(x y:Int)(h:Heap):Fn Pz 119 #[.agg ⟨[.int .i64 x,.int .i64 y]⟩] h fun v h'=>v=.int .i64 (if 0<=x/\0<=y then 2 else 1)/\Ext h h':=by
 apply Vf x y;unfold aax;refine (St.refl h).aj fun h3 hs=>?_;refine⟨_,hs.rd 0 rfl (i:=0) rfl,aM (fun c=>?_) (fun c=>?_)⟩
 .refine⟨_,hs.rd 0 rfl (i:=1) rfl,aM (fun c2=>?_) (fun c2=>?_)⟩
  .exact⟨by rw[if_pos ⟨by omega,by omega⟩],hs.ext⟩
  .exact⟨by rw[if_neg (by omega)],hs.ext⟩
 .exact⟨by rw[if_neg (by omega)],hs.ext⟩
theorem wE(m:aP):((bO m:Nat):Int)=if 0<=m.x/\0<=m.y then 2 else 1:=by unfold bO;split<;>rfl
def jc(m:aP):List Value:=[.int .i64 m.x,.int .i64 m.y]
theorem K8{g:Gl}{role:Int}{s t:Nat}{m:aP}(hm:m∈bq g.es role s t):
  ((∃e,0<=m.x/\g.es[m.x.toNat]?=some e/\e.t=m.s)\/(m.x<0/\m.s=(s:Int)))/\((∃e,0<=m.y/\g.es[m.y.toNat]?=some e/\e.t=m.t)\/(m.y<0/\m.t=(t:Int))):=by
 unfold bq at hm;rcases Yk.1 hm with hm | hm
 .rcases Yk.1 hm with hm | hm
  .obtain⟨k,hk,rfl⟩:=Yp.1 hm;obtain⟨x,hx,_⟩:=az.1 (List.mem_filter.1 hk).1;exact⟨.inl ⟨x,Int.natCast_nonneg k,by simpa using hx,by rw[aL hx]⟩,.inr ⟨show (-1:Int)<0 by decide,rfl⟩⟩
  .obtain⟨k,hk,rfl⟩:=Yp.1 hm;obtain⟨x,hx,_⟩:=az.1 (List.mem_filter.1 hk).1;exact⟨.inr ⟨show (-1:Int)<0 by decide,rfl⟩,.inl ⟨x,Int.natCast_nonneg k,by simpa using hx,by rw[aL hx]⟩⟩
 .unfold kG at hm;obtain⟨i,hi,hm⟩:=List.mem_flatMap.1 hm;obtain⟨x,hx,_⟩:=az.1 hi;unfold lM at hm;split at hm
  .cases hm
  .obtain⟨k,hk,rfl⟩:=Yp.1 hm;obtain⟨y,hy,_⟩:=az.1 (List.mem_filter.1 hk).1;exact⟨.inl ⟨x,Int.natCast_nonneg i,by simpa using hx,by rw[aL hx]⟩,.inl ⟨y,Int.natCast_nonneg k,by simpa using hy,by rw[aL hy]⟩⟩
theorem jO(g:Gl)(role:Int)(s t:Nat)(m:aP)(h:Heap)(hg:GI h g)(hm:m∈bq g.es role s t):Fn Pz 115 #[g.v,.int .i64 (s:Nat),.int .i64 (t:Nat),.agg ⟨jc m⟩] h fun v h'=>v=.tuple ⟨[.int .i64 m.s,.int .i64 m.t]⟩/\Ext h h':=by
 apply Vj (bs g.nm) g.hr g.hd g.n g.s g.e g.he g.ht (s:Nat) (t:Nat) m.x m.y;unfold aaB;obtain⟨h1,h2⟩:=K8 hm;have ke:=hg.e.ln;refine (St.refl h).aj fun iT hs=>?_;refine hs.aj fun kh hs=>?_;refine⟨fun x h'=>x=m.s/\h'=kh,⟨_,hs.rd 0 rfl (i:=0) rfl,aM (fun c=>?_) (fun c=>?_)⟩,?_⟩
 .rcases h1 with ⟨e,h0,he,ht⟩ | ⟨h0,_⟩
  .have hl:=(Ya.1 he).1;refine⟨g.he,hs.rd 1 rfl (i:=6) rfl,_,hs.rd 0 rfl (i:=0) rfl,?_⟩;refine (hg.e.rw.ext hs.ext).aA (by omega) (by omega) fun b o d gd u=>?_;replace gd:g.es[m.x.toNat]?=some d:=gd;rw[he] at gd;cases gd;exact⟨_,u.nth 4 rfl,ht,rfl⟩
  .omega
 .rcases h1 with ⟨e,h0,he,ht⟩ | ⟨h0,e⟩
  .omega
  .exact⟨e.symm,rfl⟩
 .rintro-_ _ ⟨rfl,rfl⟩;refine⟨_,hs.rd 0 rfl (i:=1) rfl,aM (fun c=>?_) (fun c=>?_)⟩
  .rcases h2 with ⟨e,h0,he,ht⟩ | ⟨h0,_⟩
   .have hl:=(Ya.1 he).1;refine⟨g.he,hs.rd 1 rfl (i:=6) rfl,_,hs.rd 0 rfl (i:=1) rfl,?_⟩;refine (hg.e.rw.ext hs.ext).aA (by omega) (by omega) fun b o d gd u=>?_;replace gd:g.es[m.y.toNat]?=some d:=gd;rw[he] at gd;cases gd;exact⟨_,u.nth 4 rfl,by rw[ht],hs.ext⟩
   .omega
  .rcases h2 with ⟨e,h0,he,ht⟩ | ⟨h0,e⟩
   .omega
   .exact⟨by rw[e],hs.ext⟩
theorem Ao:cC Pz 214 219 2 16=true:=by kernel_rfl
theorem GR{es:List Ed}{role:Int}{i:Nat}{l:List Nat}{k a:Nat}(ga:l[k]?=some a):lM es role i (l.take (k+1))=lM es role i (l.take k)++(if (aW role (eA es i)).isSome=true/\aW role (eA es a)=aW role (eA es i) then [⟨(i:Int),(a:Int),(eA es i).t,(eA es a).t⟩] else []):=by
 unfold lM;cases h:aW role (eA es i) with
 | none=>simp
 | some e=>
  simp only[Option.isSome_some,true_and];rw[ak ga,List.filter_append,Ym];congr 1;by_cases e2:aW role (eA es a)=some e
  .rw[if_pos e2,List.filter_cons_of_pos (by rw[decide_eq_true e2])];rfl
  .rw[if_neg e2,List.filter_cons_of_neg (by rw[decide_eq_false e2];decide)];rfl
def z6C:List Value:=[.int .i64 0,.int .i64 0,.int .i64 0,.int .i64 0,.int .i64 0,.bool false]
theorem Na{fP hP hX hY h:Heap}{out ra rb:Sl}{L:List aP}{x y:Ed}{role:Int}{a a' i k m Ij KT MC O4:Nat}{I:Sl->Int->Heap->Nat->Prop}
  (hs:St fP hP (.ae hX.size z6C 67 :: .ae hY.size z6C 67::[.sl out 219 2 (L.map jc)])) (hL:L.length<=1000000) (h1:Ij<fP.size) (h2:MC<fP.size) (h3:h.size<fP.size)
  (rdA:∀ {h':Heap} {K:Nat->Nat->Prop},Ext fP h'->(∀b o,hc h' ⟨b,o+Int.toNat (i:Int)*1,none⟩=some (.int .i64 (a:Nat))->K b o)->NB ra.a fun b o=>(0<=(i:Int)/\(i:Int)<(ra.n:Nat))/\K b o)
  (rdB:∀ {h':Heap} {K:Nat->Nat->Prop},Ext fP h'->(∀b o,hc h' ⟨b,o+Int.toNat (k:Int)*1,none⟩=some (.int .i64 (a':Nat))->K b o)->NB rb.a fun b o=>(0<=(k:Int)/\(k:Int)<(rb.n:Nat))/\K b o)
  (bK:¬((aW role x).isSome=true/\aW role y=aW role x)->∀h',St fP h' [.sl out 219 2 (L.map jc)]->∃m2,m2<m/\I out (IntKind.wrap .i64 ((k:Int)+1)) h' m2)
  (qQ:((aW role x).isSome=true/\aW role y=aW role x)->∀r h',St fP h' [.sl r 219 2 ((L++([⟨(a:Int),(a':Int),x.t,y.t⟩]:List aP)).map jc)]->∃m2,m2<m/\I r (IntKind.wrap .i64 ((k:Int)+1)) h' m2) :
  C5 hP hX x.f x.a x.b x.l x.t x.ag Ij KT (a':Nat) MC O4 (k:Nat) h hY y.f y.a y.b y.l y.t y.ag role ra (i:Nat) rb out m I:=by
 unfold C5;have hs9:=hs;refine hs.put 0 rfl (o:=0) (vs:=x.cs) rfl (show 6<=6 by decide) fun Mc hs=>⟨aY hs9 hs (aF h1 (aF h2 (aF h3 bg))),?_⟩;refine hs.put 1 rfl (o:=0) (vs:=y.cs) rfl (show 6<=6 by decide) fun XE hs=>?_;replace hs:St fP XE (.ae hX.size x.cs 67 :: .ae hY.size y.cs 67::[.sl out 219 2 (L.map jc)]):=hs;clear hs9;refine⟨_,_,_,_,_,_,hs.at 0 rfl (o:=0) (n:=6) rfl,?_⟩;refine (mO x role XE).mono ?_;rintro _ XD ⟨rfl,E1⟩;have hs:=hs.step E1;refine⟨_,rfl,aa (fun c=>?_) (fun c=>bK (fun h9=>by rw[h9.1] at c;cases c) XD (hs.drop 2))⟩;refine⟨_,_,_,_,_,_,hs.at 1 rfl (o:=0) (n:=6) rfl,?_⟩;refine (mO y role XD).mono ?_;rintro _ XA ⟨rfl,E2⟩;have hs:=hs.step E2;refine⟨_,rfl,E2.sm,aa (fun c2=>?_) (fun c2=>bK (fun h9=>by rw[h9.2,h9.1] at c2;cases c2) XA (hs.drop 2))⟩;obtain⟨ex,hex⟩:=Option.isSome_iff_exists.1 c;obtain⟨ey,hey⟩:=Option.isSome_iff_exists.1 c2;refine⟨_,_,_,_,_,_,hs.at 0 rfl (o:=0) (n:=6) rfl,_,_,_,_,_,_,hs.at 1 rfl (o:=0) (n:=6) rfl,?_⟩;refine (pM x role ex hex XA).mono ?_;rintro _ zY ⟨rfl,E3⟩;have hs:=hs.step E3;refine⟨_,_,_,_,⟨none,0,0⟩,rfl,E3.sm,?_⟩;refine (pM y role ey hey zY).mono ?_;rintro _ zX ⟨rfl,E4⟩;have hs:=hs.step E4;refine⟨_,_,_,_,⟨none,0,0⟩,rfl,E4.sm,?_⟩;refine (qg role ex ey zX).mono ?_;rintro _ aeb ⟨rfl,E5⟩;have hs:=hs.step E5;refine⟨_,rfl,E5.sm,aa (fun c3=>?_) (fun c3=>bK (fun h9=>?_) aeb (hs.drop 2))⟩
 .have Lw:=cm c3;refine rdA hs.ext fun b o u=>⟨_,u,rdB hs.ext fun b o u=>⟨_,u,?_⟩⟩;unfold tV;have zP:=(hs.len 2 (s:=out) rfl (by decide)).1;rw[Yc] at zP;refine hs.app 2 rfl Ao (m:=1) [jc ⟨(a:Int),(a':Int),x.t,y.t⟩] rfl rfl (fun r hr=>by rw[Ye] at hr;rw[hr];rfl) rfl (by omega) (by simp only[maxLen];omega) fun r N2 nr hs=>?_;refine qQ ⟨c,by rw[hex,hey,Lw]⟩ r N2 ?_;rw[Ym];exact hs.drop 2
 .have e9:=h9.2;rw[hex,hey] at e9;have:=fL e9;subst this;rw[decide_eq_true rfl] at c3;cases c3
theorem GK(g:Gl)(role:Int)(s t:Nat)(h:Heap)(hg:GI h g)(hV:af g):Fn Pz 114 #[g.v,.int .i64 role,.int .i64 (s:Nat),.int .i64 (t:Nat)] h fun v h'=>∃r:Sl,v=.slice r.a r.n r.c/\St h h' [.sl r 219 2 ((bq g.es role s t).map jc)]:=by
 apply Vk (bs g.nm) g.hr g.hd g.n g.s g.e g.he g.ht role (s:Nat) (t:Nat);unfold aaC;have hM:=hV.num.m;have ke:=hg.e.ln;refine (St.refl h).aj fun h9 hs=>?_;refine⟨_,_,_,_,_,_,_,_,hs.at 0 rfl (o:=0) (n:=8) rfl,_,_,_,_,_,_,_,_,hs.at 0 rfl (o:=0) (n:=8) rfl,?_⟩;refine (s6 g (s:Nat) h9 (hg.ext hs.ext)).mono ?_;rintro _ J5 ⟨E1,ra,rfl,Hk⟩;have hs:=hs.step E1;refine⟨ra,rfl,E1.sm,?_⟩;refine (s6 g (t:Nat) J5 (hg.ext hs.ext)).mono ?_;rintro _ fP ⟨E2,rb,rfl,hrb⟩;have hs:=hs.step E2;refine⟨rb,rfl,E2.sm,?_⟩;have Hk:=Hk.ext E2;have V8:hc fP ⟨h.size,6,none⟩=some (.slice g.he.a g.he.n g.he.c):=hs.rd 0 rfl (i:=6) rfl;have adh:=hg.ext hs.ext;have qR:=hs.drop 1;have na:ra.n=(ah g.es (s:Nat)).length:=by have:=Hk.ln;rwa [show (aw (ah g.es (s:Nat))).length=(ah g.es (s:Nat)).length from Yc _] at this
 have nb:rb.n=(ah g.es (t:Nat)).length:=by have:=hrb.ln;rwa [show (aw (ah g.es (t:Nat))).length=(ah g.es (t:Nat)).length from Yc _] at this
 have la:=cG g.es (s:Nat);have lb:=cG g.es (t:Nat);have rd:∀ {l:List Nat} {sl:Sl} {k a:Nat} {h':Heap} {K:Nat->Nat->Prop},Rw fP 1 sl ((aw l).map aO)->sl.n=l.length->l[k]?=some a->Ext fP h'->(∀b o,hc h' ⟨b,o+Int.toNat (k:Int)*1,none⟩=some (.int .i64 (a:Nat))->b<fP.size->K b o)->NB sl.a fun b o=>(0<=(k:Int)/\(k:Int)<(sl.n:Nat))/\K b o:=fun {l sl k a h' K} hl hn gt X hK=>by
  have qT:=(Ya.1 gt).1;have gI:(aw l)[k]?=some (a:Int):=by unfold aw;rw[Yd,gt];rfl
  refine hl.aA (by omega) (by omega) fun b o d gd u=>?_;replace gd:(aw l)[k]?=some d:=gd;rw[gI] at gd;cases gd;exact hK b o (ax X (u.nth 0 rfl)) (eu (u.nth 0 rfl))
 have JO:∀ {a:Nat} {x:Ed} {h':Heap} {K:Nat->Nat->Prop},g.es[a]?=some x->Ext fP h'->(∀b o,aZ h' ⟨b,o+Int.toNat (a:Int)*6,none⟩ x.cs->b<fP.size->K b o)->NB g.he.a fun b o=>(0<=(a:Int)/\(a:Int)<(g.he.n:Nat))/\K b o:=fun {a x h' K} gx X hK=>by
  have qT:=(Ya.1 gx).1;refine adh.e.rw.aA (by omega) (by omega) fun b o d gd u=>?_;replace gd:g.es[a]?=some d:=gd;rw[gx] at gd;cases gd;exact hK b o (mr X u) (eu (u.nth 0 rfl))
 have qt:∀ {a:Nat} {x:Ed},g.es[a]?=some x->A7 g.es role a=!(aW role x).isSome:=fun {a x} gx=>by
  unfold A7;rw[aL gx];cases aW role x<;>rfl
 have l1:∀k,(kX g.es role t ((ah g.es (s:Nat)).take k)).length<=400:=fun k=>by
  have h1:=uH (es:=g.es) (role:=role) (t:=t) (l:=(ah g.es (s:Nat)).take k);rw[Yu] at h1;omega
 have l2:∀k,(pH g.es role s ((ah g.es (t:Nat)).take k)).length<=400:=fun k=>by
  have h1:=uJ (es:=g.es) (role:=role) (t:=s) (l:=(ah g.es (t:Nat)).take k);rw[Yu] at h1;omega
 have dx:=(St.refl fP).bH 219 2;refine⟨fun out x h' μ=>∃i:Nat,x=(i:Int)/\μ=ra.n-i/\i<=ra.n/\St fP h' [.sl out 219 2 ((kX g.es role t ((ah g.es (s:Nat)).take i)).map jc)],⟨_,0,rfl,rfl,Nat.zero_le _,by rw[my];exact dx⟩,?_⟩;clear hs dx;rintro-out _ oV μ ⟨i,rfl,rfl,hi,hs⟩;refine aM (fun c=>?_) (fun c=>?_)
 .obtain⟨a,ga⟩:=get_some (l:=ah g.es (s:Nat)) (i:=i) (by omega);obtain⟨x,gx,_⟩:=az.1 (Yb ga);refine⟨g.he,ax hs.ext V8,rd Hk na ga hs.ext fun b o u _=>⟨_,u,JO gx hs.ext fun b o u _=>⟨_,_,_,_,_,_,u,?_⟩⟩⟩;refine (mO x role oV).mono ?_;rintro _ zT ⟨rfl,E⟩;have hs:=hs.step E;have zP:=(hs.len 0 (s:=out) rfl (by decide)).1;rw[Yc] at zP;have xu:=l1 i;refine⟨_,rfl,aa (fun c2=>?_) (fun c2=>?_)⟩
  .refine rd Hk na ga hs.ext fun b o u _=>⟨_,u,?_⟩;unfold tV;refine hs.app 0 rfl Ao (m:=1) [jc ⟨(a:Int),-1,(eA g.es a).t,(t:Nat)⟩] rfl rfl (fun r hr=>by rw[Ye] at hr;rw[hr];rfl) rfl (by omega) (by simp only[maxLen];omega) fun r N2 nr hs=>?_;refine⟨_,(show ra.n-(i+1)<ra.n-i by omega),i+1,by rw[a7 (by omega) (by omega)];omega,rfl,by omega,?_⟩;rw[lK ga,qt gx,if_pos c2,Ym];exact hs
  .refine⟨_,(show ra.n-(i+1)<ra.n-i by omega),i+1,by rw[a7 (by omega) (by omega)];omega,rfl,by omega,?_⟩;rw[lK ga,qt gx,if_neg (by rw[c2];decide),Yw];exact hs
 rw[Yj (by omega)] at hs;refine⟨fun out x h' μ=>∃i:Nat,x=(i:Int)/\μ=rb.n-i/\i<=rb.n/\St fP h' [.sl out 219 2 ((kX g.es role t (ah g.es (s:Nat))++pH g.es role s ((ah g.es (t:Nat)).take i)).map jc)],⟨_,0,rfl,rfl,Nat.zero_le _,by rw[my,show pH g.es role s []=[] from rfl,Yw];exact hs⟩,?_⟩;clear hs c;have l1':(kX g.es role t (ah g.es (s:Nat))).length<=400:=by have:=l1 (ah g.es (s:Nat)).length;rwa [vM] at this
 rintro-out _ xz μ ⟨i,rfl,rfl,hi,hs⟩;refine aM (fun c=>?_) (fun c=>?_)
 .obtain⟨a,ga⟩:=get_some (l:=ah g.es (t:Nat)) (i:=i) (by omega);obtain⟨x,gx,_⟩:=az.1 (Yb ga);refine⟨g.he,ax hs.ext V8,rd hrb nb ga hs.ext fun b o u _=>⟨_,u,JO gx hs.ext fun b o u _=>⟨_,_,_,_,_,_,u,?_⟩⟩⟩;refine (mO x role xz).mono ?_;rintro _ zS ⟨rfl,E⟩;have hs:=hs.step E;have zP:=(hs.len 0 (s:=out) rfl (by decide)).1;rw[Yc,Yh] at zP;have il:=l2 i;refine⟨_,rfl,aa (fun c2=>?_) (fun c2=>?_)⟩
  .refine rd hrb nb ga hs.ext fun b o u _=>⟨_,u,?_⟩;unfold tV;refine hs.app 0 rfl Ao (m:=1) [jc ⟨-1,(a:Int),(s:Nat),(eA g.es a).t⟩] rfl rfl (fun r hr=>by rw[Ye] at hr;rw[hr];rfl) rfl (by omega) (by simp only[maxLen];omega) fun r xy nr hs=>?_;refine⟨_,(show rb.n-(i+1)<rb.n-i by omega),i+1,by rw[a7 (by omega) (by omega)];omega,rfl,by omega,?_⟩;rw[lL ga,qt gx,if_pos c2,<-Yz,Ym];exact hs
  .refine⟨_,(show rb.n-(i+1)<rb.n-i by omega),i+1,by rw[a7 (by omega) (by omega)];omega,rfl,by omega,?_⟩;rw[lL ga,qt gx,if_neg (by rw[c2];decide),Yw];exact hs
 rw[Yj (by omega)] at hs;have l2':(pH g.es role s (ah g.es (t:Nat))).length<=400:=by have:=l2 (ah g.es (t:Nat)).length;rwa [vM] at this
 refine⟨fun out x h' μ=>∃i:Nat,x=(i:Int)/\μ=ra.n-i/\i<=ra.n/\St fP h' [.sl out 219 2 ((kX g.es role t (ah g.es (s:Nat))++pH g.es role s (ah g.es (t:Nat))++kG g.es role ((ah g.es (s:Nat)).take i) (ah g.es (t:Nat))).map jc)],⟨_,0,rfl,rfl,Nat.zero_le _,by rw[my,show kG g.es role [] (ah g.es (t:Nat))=[] from rfl,Yw];exact hs⟩,?_⟩;clear hs c;rintro-out _ h95 μ ⟨i,rfl,rfl,hi,hs⟩;have lb1:(kG g.es role ((ah g.es (s:Nat)).take i) (ah g.es (t:Nat))).length<=160000:=by
  have h1:=pI (es:=g.es) (role:=role) (l:=(ah g.es (s:Nat)).take i) (m:=ah g.es (t:Nat));have h2:((ah g.es (s:Nat)).take i).length*(ah g.es (t:Nat)).length<=400*400:=Nat.mul_le_mul (by rw[Yu];omega) (by omega);omega
 refine aM (fun c=>?_) (fun c=>?_)
 .obtain⟨a,ga⟩:=get_some (l:=ah g.es (s:Nat)) (i:=i) (by omega);obtain⟨x,gx,_⟩:=az.1 (Yb ga);refine⟨fun out y h' μ'=>∃k:Nat,y=(k:Int)/\μ'=rb.n-k/\k<=rb.n/\St fP h' [.sl out 219 2 ((kX g.es role t (ah g.es (s:Nat))++pH g.es role s (ah g.es (t:Nat))++kG g.es role ((ah g.es (s:Nat)).take i) (ah g.es (t:Nat))++lM g.es role a ((ah g.es (t:Nat)).take k)).map jc)],⟨_,0,rfl,rfl,Nat.zero_le _,by rw[my,show lM g.es role a []=[] by unfold lM;split<;>rfl,Yw];exact hs⟩,?_⟩;clear hs;rintro-out _ XG μ' ⟨k,rfl,rfl,hk,hs⟩;refine aM (fun c2=>?_) (fun c2=>?_)
  .obtain⟨a',Tj⟩:=get_some (l:=ah g.es (t:Nat)) (i:=k) (by omega);obtain⟨y,gy,_⟩:=az.1 (Yb Tj);have tv:IntKind.wrap .i64 ((k:Int)+1)=((k+1:Nat):Int):=by rw[a7 (by omega) (by omega)];omega
   have lb2:(lM g.es role a ((ah g.es (t:Nat)).take k)).length<=400:=mw pJ (by rw[Yu];omega);have skip:¬((aW role x).isSome=true/\aW role y=aW role x)->∀h',St fP h' [.sl out 219 2 ((kX g.es role t (ah g.es (s:Nat))++pH g.es role s (ah g.es (t:Nat))++kG g.es role ((ah g.es (s:Nat)).take i) (ah g.es (t:Nat))++lM g.es role a ((ah g.es (t:Nat)).take k)).map jc)]->∃m',m'<rb.n-k/\∃k':Nat,IntKind.wrap .i64 ((k:Int)+1)=(k':Int)/\m'=rb.n-k'/\k'<=rb.n/\St fP h' [.sl out 219 2 ((kX g.es role t (ah g.es (s:Nat))++pH g.es role s (ah g.es (t:Nat))++kG g.es role ((ah g.es (s:Nat)).take i) (ah g.es (t:Nat))++lM g.es role a ((ah g.es (t:Nat)).take k')).map jc)]:=fun bK h' bI=>by
    refine⟨_,(show rb.n-(k+1)<rb.n-k by omega),k+1,tv,rfl,by omega,?_⟩;rw[GR Tj,aL gx,aL gy,if_neg bK,Yw];exact bI
   refine⟨g.he,ax hs.ext V8,rd Hk na ga hs.ext fun Y2 VU u1 q1=>⟨_,u1,JO gx hs.ext fun YZ VT u2 q2=>⟨_,_,_,_,_,_,u2,g.he,ax hs.ext V8,rd hrb nb Tj hs.ext fun MC O4 u3 q3=>⟨_,u3,JO gy hs.ext fun Ij KT u4 q4=>⟨_,_,_,_,_,_,u4,?_⟩⟩⟩⟩⟩;have hgl:h.size<fP.size:=eu V8;have qQ:((aW role x).isSome=true/\aW role y=aW role x)->∀r h',St fP h' [.sl r 219 2 ((kX g.es role t (ah g.es (s:Nat))++pH g.es role s (ah g.es (t:Nat))++kG g.es role ((ah g.es (s:Nat)).take i) (ah g.es (t:Nat))++lM g.es role a ((ah g.es (t:Nat)).take k)++([⟨(a:Int),(a':Int),x.t,y.t⟩]:List aP)).map jc)]->∃m',m'<rb.n-k/\∃k':Nat,IntKind.wrap .i64 ((k:Int)+1)=(k':Int)/\m'=rb.n-k'/\k'<=rb.n/\St fP h' [.sl r 219 2 ((kX g.es role t (ah g.es (s:Nat))++pH g.es role s (ah g.es (t:Nat))++kG g.es role ((ah g.es (s:Nat)).take i) (ah g.es (t:Nat))++lM g.es role a ((ah g.es (t:Nat)).take k')).map jc)]:=fun hc r h' bI=>by
    refine⟨_,(show rb.n-(k+1)<rb.n-k by omega),k+1,tv,rfl,by omega,?_⟩;rw[GR Tj,aL gx,aL gy,if_pos hc,<-Yz];exact bI
   have hLL:(kX g.es role t (ah g.es (s:Nat))++pH g.es role s (ah g.es (t:Nat))++kG g.es role ((ah g.es (s:Nat)).take i) (ah g.es (t:Nat))++lM g.es role a ((ah g.es (t:Nat)).take k)).length<=1000000:=by
    rw[Yh,Yh,Yh];omega
   have AL:∀z∈([⟨Ij,KT+Int.toNat (a':Int)*6,none⟩,⟨MC,O4+Int.toNat (k:Int)*1,none⟩,⟨h.size,6,none⟩,⟨YZ,VT+Int.toNat (a:Int)*6,none⟩,⟨Y2,VU+Int.toNat (i:Int)*1,none⟩,⟨h.size,6,none⟩]:List Addr),z.block<fP.size:=aF q4 (aF q3 (aF hgl (aF q2 (aF q1 (aF hgl bg)))));refine⟨fun XF aeR=>?_,fun Xz Mr=>?_⟩
   .have s1:=hs.dj aeR;refine⟨aY hs s1 AL,fun aen aeQ=>?_⟩;have s2:=s1.dj aeQ;exact⟨aY s1 s2 AL,Na (s2.perm (List.Perm.swap _ _ _)) hLL q4 q3 hgl (fun X hK=>rd Hk na ga X fun b o u _=>hK b o u) (fun X hK=>rd hrb nb Tj X fun b o u _=>hK b o u) skip qQ⟩
   .have s1:=hs.dj Mr;refine⟨aY hs s1 AL,fun Ql aeM=>?_⟩;have s2:=s1.dj aeM;exact⟨aY s1 s2 AL,Na s2 hLL q4 q3 hgl (fun X hK=>rd Hk na ga X fun b o u _=>hK b o u) (fun X hK=>rd hrb nb Tj X fun b o u _=>hK b o u) skip qQ⟩
  .rw[Yj (l:=ah g.es (t:Nat)) (i:=k) (by omega)] at hs;refine⟨_,(show ra.n-(i+1)<ra.n-i by omega),i+1,by rw[a7 (by omega) (by omega)];omega,rfl,by omega,?_⟩;rw[qJ ga,<-Yz];exact hs
 .rw[Yj (by omega)] at hs;exact⟨out,rfl,qR.join hs⟩
theorem ia{α:Type}{n:Nat}(f:Nat->α){s:Nat}(hs:s<n):((List.range n).map f)[s]?=some (f s):=by rw[Yd,yi hs];rfl
theorem ur{g:Gl}(hV:af g){role:Int}{s:Nat}(h:oE g role (s:Nat)):(DB g.es g.ts role g.n.toNat)[s]?=some ⟨dW g.es s,(cy g role g.ts s).k,(cy g role g.ts s).x⟩:=by
 obtain⟨x,hx,hf,ha⟩:=h;obtain⟨_,t,ht,hT⟩:=qy hV hx ha;rw[hf,Ys] at ht;rw[ht,FM hV hT (Li hV hx ha hf)]
theorem lJ{es:List Ed}{role:Int}{s:Nat}{g:Gl}(he:es=g.es):dR es role s=true ↔ oE g role (s:Nat):=by
 subst he;unfold dR oE;rw[List.any_eq_true];constructor
 .rintro⟨x,hx,h⟩;rw[Yt,decide_eq_true_eq,decide_eq_true_eq] at h;exact⟨x,hx,h⟩
 .rintro⟨x,hx,h1,h2⟩;exact⟨x,hx,by rw[Yt,decide_eq_true_eq,decide_eq_true_eq];exact⟨h1,h2⟩⟩
theorem Q5{g:Gl}(hV:af g){role:Int}{s t:Nat}(hs:s<g.n.toNat)(ht:t<g.n.toNat):Q6 g role s t ↔ JI g role (s:Nat) (t:Nat):=by
 unfold Q6 MU JI;rw[ia _ hs,ia _ ht,ia _ hs,ia _ ht,ia _ hs,ia _ ht,Ys,Ys];constructor
 .rintro⟨h1,h2,h3⟩;have o1:=(lJ (g:=g) rfl).1 (fL h1);have o2:=(lJ (g:=g) rfl).1 (fL h2);refine⟨o1,o2,?_⟩;rw[ur hV o1,ur hV o2];intro e;have e:=fL e;simp only[Ti.mk.injEq] at e;rcases h3 with h3 | h3
  .refine h3 (congrArg some ?_);cases hl:cy g role g.ts s;cases k6:cy g role g.ts t;rw[hl,k6] at e;simp only at e;rw[e.2.1,e.2.2]
  .exact h3 (congrArg some e.1)
 .rintro⟨o1,o2,h3⟩;refine⟨congrArg some ((lJ (g:=g) rfl).2 o1),congrArg some ((lJ (g:=g) rfl).2 o2),?_⟩;rw[ur hV o1,ur hV o2] at h3;by_cases e1:cy g role g.ts s=cy g role g.ts t
  .refine .inr fun e2=>h3 ?_;rw[fL e2,e1]
  .exact .inl fun e2=>e1 (fL e2)
/-! ### views are what histories lead to -/


structure VfM (h:Heap) (g:Gl) (role:Int) (ev en ar:Sl) (E:List (Sl × List Ev)) (B:List Bool) (MS:List (Sl × List gF)):Prop where
 rv:Rw h 1 ev ((E.map Prod.fst).map eD)
 rn:Rw h 1 en (B.map bC)
 ra:Rw h 1 ar ((MS.map Prod.fst).map eD)
 re:∀q∈E,Rw h 5 q.1 (q.2.map (aC role))
 rm:∀q∈MS,Rw h 4 q.1 (q.2.map rC)
theorem VfM.ext{h h':Heap}{g:Gl}{role:Int}{ev en ar:Sl}{E:List (Sl × List Ev)}{B:List Bool}{MS:List (Sl × List gF)}(hm:VfM h g role ev en ar E B MS)(X:Ext h h'):VfM h' g role ev en ar E B MS:=
 ⟨hm.rv.ext X,hm.rn.ext X,hm.ra.ext X,fun q hq=>(hm.re q hq).ext X,fun q hq=>(hm.rm q hq).ext X⟩
structure RX (g:Gl) (role:Int) (E:List (Sl × List Ev)) (B:List Bool) (MS:List (Sl × List gF)):Prop where
 e:∀s:Nat,s<g.n.toNat->∃q,E[s]?=some q/\q.2=ay g role (s:Nat)
 b:∀s:Nat,s<g.n.toNat->B[s]?=some (bQ g role (s:Nat))
 m:∀s:Nat,s<g.n.toNat->∃q,MS[s]?=some q/\q.2.map cr=du g role s
 p:∀q∈MS,∀a∈q.2,a.2.2.n=a.2.1.path.length
 l:∀q∈MS,q.2.length<=1048576
 le:∀s:Int,(ay g role s).length<=400
theorem Et(g:Gl)(role:Int)(h:Heap)(hg:GI h g)(hx:Gm h)(bK:¬tX g role):Fn Pz 41 #[g.v,.int .i64 role] h fun v h'=>v=.tuple ⟨[.agg ⟨cq.cs⟩,.int .i64 1073741824,.int .i64 1]⟩/\Ext h h':=by
 apply TK (bs g.nm) g.hr g.hd g.n g.s g.e g.he g.ht role;unfold W41;refine (St.refl h).aj fun h9 hs=>?_;refine hs.aj fun cw hs=>?_;refine⟨_,_,_,_,_,_,_,_,hs.at 1 rfl (o:=0) (n:=8) rfl,?_⟩;refine (kT g role cw (hg.ext hs.ext) (hx.ext hs.ext)).mono ?_;rintro _ dV (⟨_,rfl,E⟩ | ⟨hgd,_⟩)
 .refine⟨none,1,rfl,?_⟩;have hs:=hs.step E;refine hs.ao (vs:=[.pointer none]) rfl rfl fun qW hs=>?_;refine eY (fun _=>?_) (fun c=>absurd c (by decide));refine hs.put 1 rfl (o:=0) (vs:=cq.cs) rfl (bc 14) fun LY hs=>?_;refine oL (w:=cq) (Q:=fun cs=>(Value.tuple ⟨[.agg ⟨cs⟩,.int .i64 1073741824,.int .i64 1]⟩=.tuple ⟨[.agg ⟨cq.cs⟩,.int .i64 1073741824,.int .i64 1]⟩/\Ext h LY)) (hs.at 1 rfl (o:=0) (n:=14) rfl) ?_;exact⟨rfl,hs.ext⟩
 .exact absurd hgd bK
theorem Dw(g:Gl)(role:Int)(h:Heap)(hg:GI h g)(hx:Gm h)(bK:¬tX g role):Fn Pz 19 #[g.v,.int .i64 role] h fun v h'=>v=.tuple ⟨[.agg ⟨cq.cs⟩,.int .i64 1]⟩/\Ext h h':=by
 apply Ux (bs g.nm) g.hr g.hd g.n g.s g.e g.he g.ht role;unfold W19;refine (St.refl h).aj fun h9 hs=>?_;refine hs.aj fun cw hs=>?_;refine⟨_,_,_,_,_,_,_,_,hs.at 1 rfl (o:=0) (n:=8) rfl,?_⟩;refine (Et g role cw (hg.ext hs.ext) (hx.ext hs.ext) bK).mono ?_;rintro _ fQ ⟨rfl,E⟩;refine⟨0,0,au,au,0,false,0,0,au,0,false,0,0,au,1073741824,1,rfl,?_⟩;have hs:=hs.step E;refine hs.ao (vs:=cq.cs) rfl rfl fun sD hs=>?_;refine eY (fun _=>?_) (fun c=>absurd c (by decide));refine hs.put 1 rfl (o:=0) (vs:=cq.cs) rfl (bc 14) fun yJ hs=>?_;refine oL (w:=cq) (Q:=fun cs=>(Value.tuple ⟨[.agg ⟨cs⟩,.int .i64 1]⟩=.tuple ⟨[.agg ⟨cq.cs⟩,.int .i64 1]⟩/\Ext h yJ)) (hs.at 1 rfl (o:=0) (n:=14) rfl) ?_;exact⟨rfl,hs.ext⟩
theorem RX.of{g:Gl}(hV:af g){role:Int}{E:List (Sl × List Ev)}{B:List Bool}{MS:List (Sl × List gF)}{R:List It}(hA:TA g role E B g.n.toNat)(hM:yt g role (du g role) R MS)(hl:∀q∈MS,q.2.length<=160000){h0 h:Heap}{L:List It}(hs:St h0 h L)(hR:∀i∈R,i∈L):RX g role E B MS:=by
 refine⟨fun s dx=>?_,fun s dx=>?_,fun s dx=>?_,fun q hq a ha=>?_,fun q hq=>by have:=hl q hq;omega,fun s=>Ci hV⟩
 .have h1:=aR hA.e dx;rw[Yd] at h1;obtain⟨q,hq,e⟩:=sL.1 h1;exact⟨q,hq,e⟩
 .exact aR hA.b dx
 .obtain⟨q,hq⟩:=get_some (l:=MS) (i:=s) (by rw[hM.l];exact dx);exact⟨q,hq,hM.s s q hq⟩
 .have h1:=(hM.p q hq a ha).1;have h2:Rw h 3 a.2.2 (a.2.1.path.map Ac.cs):=hs.mD (e:=65) (hR _ h1) (by decide);exact h2.ln
theorem EY{b o:Nat}{F:Nat->Nat->Prop}(h:F b o):NB (some ⟨b,o,none⟩) F:=h
def bP(n:Nat)(p:Pr):Nat:=n*p.1+p.2
theorem dy{n:Nat}{p:Pr}(h1:p.1<n)(h2:p.2<n):bP n p<n*n:=by
 unfold bP;have:n*p.1+n<=n*n:=by
  have h:=Nat.mul_le_mul_left n (show p.1+1<=n by omega);rw[Nat.mul_add,Nat.mul_one] at h;exact h
 omega
theorem lH{n:Nat}{p:Pr}(h2:p.2<n):bP n p/n=p.1:=by
 unfold bP;rw[Nat.mul_add_div (by omega),Nat.div_eq_of_lt h2];rfl
theorem lG{n:Nat}{p:Pr}(h2:p.2<n):bP n p%n=p.2:=by
 unfold bP;rw[Nat.mul_add_mod,Nat.mod_eq_of_lt h2]
theorem pF{n:Nat}{p q:Pr}(h1:p.2<n)(h2:q.2<n)(e:bP n p=bP n q):p=q:=by
 refine Prod.ext ?_ ?_
 .rw[<-lH h1,<-lH h2,e]
 .rw[<-lG h1,<-lG h2,e]
theorem set_perm{α:Type}{L:List α}{k:Nat}{a x:α}(h:L[k]?=some a):(L++[x]).Perm (L.set k x++[a]):=by
 obtain⟨U,V,rfl,rfl⟩:=p8 h;rw[List.set_append_right _ _ (bc _),Nat.sub_self];simp only[List.set_cons_zero,Yz,List.cons_append];refine List.Perm.append_left _ ?_;refine (List.Perm.cons _ List.perm_append_comm).trans ?_;refine (List.Perm.swap _ _ _).trans (List.Perm.cons _ ?_);exact (List.perm_append_comm (l₁:=[a]))
structure AM (g:Gl) (role:Int) (i c:Nat) (A:List Pr) (BL:List Bool) (MV:List (Sl × List aP)):Prop where
 nd:A.Nodup
 pr:∀p∈A,dC g role p
 st:eP g∈A
 bl:BL=(List.range (g.n.toNat*g.n.toNat)).map fun k=>decide (∃p∈A,bP g.n.toNat p=k)
 ml:MV.length=g.n.toNat*g.n.toNat
 m1:∀(j:Nat) p,j<c->A[j]?=some p->∃q,MV[bP g.n.toNat p]?=some q/\q.2=bq g.es role p.1 p.2
 m0:∀(k:Nat) q,MV[k]?=some q->(∀(j:Nat) p,j<c->A[j]?=some p->bP g.n.toNat p≠k)->q.2=[]
 cl:∀(j:Nat) p,j<i->A[j]?=some p->∀m∈bq g.es role p.1 p.2,bj m∈A
theorem dC.nt{g:Gl}(hV:af g){role:Int}{p:Pr}(h:dC g role p):p.1<g.n.toNat/\p.2<g.n.toNat:=by
 have:=h.lt hV;omega
theorem AM.seen{g:Gl}(hV:af g){role:Int}{i c:Nat}{A:List Pr}{BL:List Bool}{MV:List (Sl × List aP)}(h:AM g role i c A BL MV){p:Pr}(h1:p.1<g.n.toNat)(h2:p.2<g.n.toNat):BL[bP g.n.toNat p]?=some (decide (p∈A)):=by
 rw[h.bl,ia _ (dy h1 h2)];congr 1;rw[decide_eq_decide];constructor
 .rintro⟨q,hq,e⟩;have:=pF ((h.pr q hq).nt hV).2 h2 e;rw[<-this];exact hq
 .intro hp;exact⟨p,hp,rfl⟩
theorem AM.len{g:Gl}(hV:af g){role:Int}{i c:Nat}{A:List Pr}{BL:List Bool}{MV:List (Sl × List aP)}(h:AM g role i c A BL MV):A.length<=g.n.toNat*g.n.toNat:=jK h.nd fun p hp=>(h.pr p hp).nt hV
theorem AM.mov{g:Gl}(hV:af g){role:Int}{i:Nat}{A:List Pr}{BL:List Bool}{MV:List (Sl × List aP)}(h:AM g role i i A BL MV){p:Pr}(hp:A[i]?=some p)(r:Sl):AM g role i (i+1) A BL (MV.set (bP g.n.toNat p) (r,bq g.es role p.1 p.2)):=by
 have de:=(h.pr p (Yb hp)).nt hV;have bU:bP g.n.toNat p<MV.length:=by rw[h.ml];exact dy de.1 de.2
 refine⟨h.nd,h.pr,h.st,h.bl,by rw[jR];exact h.ml,fun j q hj hq=>?_,fun k q hq bK=>?_,h.cl⟩
 .by_cases e:j=i
  .subst e;rw[hp] at hq;cases hq;exact⟨_,Yq bU,rfl⟩
  .have uO:=(h.pr q (Yb hq)).nt hV;have bE:bP g.n.toNat p≠bP g.n.toNat q:=fun e2=>by
    have:=pF de.2 uO.2 e2;subst this;exact e (eH h.nd hq hp)
   rw[Yy bE];exact h.m1 j q (by omega) hq
 .have bE:bP g.n.toNat p≠k:=bK i p (by omega) hp;rw[Yy bE] at hq;exact h.m0 k q hq fun j p' hj oe=>bK j p' (by omega) oe
theorem AM.push{g:Gl}(hV:af g){role:Int}{i c:Nat}{A:List Pr}{BL:List Bool}{MV:List (Sl × List aP)}(h:AM g role i c A BL MV)(hi:i<=A.length)(hc:c<=A.length){p:Pr}(bK:p∉A)(hr:dC g role p):AM g role i c (A++[p]) (BL.set (bP g.n.toNat p) true) MV:=by
 have de:=hr.nt hV;have qB:∀ {j:Nat} {q:Pr},j<A.length->(A++[p])[j]?=some q->A[j]?=some q:=fun hj hq=>by rwa [jt hj] at hq
 refine⟨?_,fun x hx=>?_,List.mem_append_left _ h.st,?_,h.ml,fun j q hj hq=>h.m1 j q hj (qB (by omega) hq),fun k q hq hn=>h.m0 k q hq fun j p' hj oe=>hn j p' hj (by rw[jt (by omega)];exact oe),fun j q hj hq m hm=>List.mem_append_left _ (h.cl j q hj (qB (by omega) hq) m hm)⟩
 .rw[List.nodup_append];exact⟨h.nd,by simp,fun a ha b hb e=>by rw[Ye] at hb;subst hb;subst e;exact bK ha⟩
 .rcases Yk.1 hx with hx | hx
  .exact h.pr x hx
  .rw[Ye] at hx;rw[hx];exact hr
 .rw[h.bl];refine cN (dy de.1 de.2) (decide_eq_true ⟨p,List.mem_append_right _ (Ye.2 rfl),rfl⟩) fun k hk=>?_;rw[decide_eq_decide];constructor
  .rintro⟨q,hq,e⟩;rcases Yk.1 hq with hq | hq
   .exact⟨q,hq,e⟩
   .rw[Ye] at hq;subst hq;exact absurd e.symm hk
  .rintro⟨q,hq,e⟩;exact⟨q,List.mem_append_left _ hq,e⟩
structure Ss (g:Gl) (role:Int) (BL:List Bool) (MV:List (Sl × List aP)):Prop where
 bl:BL.length=g.n.toNat*g.n.toNat
 ml:MV.length=g.n.toNat*g.n.toNat
 b:∀p:Pr,p.1<g.n.toNat->p.2<g.n.toNat->∃b,BL[bP g.n.toNat p]?=some b/\(b=true ↔ dC g role p)
 m:∀p:Pr,p.1<g.n.toNat->p.2<g.n.toNat->∃q,MV[bP g.n.toNat p]?=some q/\(dC g role p->q.2=bq g.es role p.1 p.2)/\(¬dC g role p->q.2=[])
theorem AM.done{g:Gl}(hV:af g){role:Int}{A:List Pr}{BL:List Bool}{MV:List (Sl × List aP)}(h:AM g role A.length A.length A BL MV):Ss g role BL MV:=by
 have eK:∀p,p∈A ↔ dC g role p:=fun p=>⟨h.pr p,fun hp=>by
  induction hp with
  | start=>exact h.st
  | step _ hm ih=>
   obtain⟨j,hj⟩:=Yf.1 ih;exact h.cl j _ (Ya.1 hj).1 hj _ hm⟩
 refine⟨by rw[h.bl];simp,h.ml,fun p h1 h2=>⟨_,h.seen hV h1 h2,by rw[decide_eq_true_eq,eK]⟩,fun p h1 h2=>?_⟩;obtain⟨q,hq⟩:=get_some (l:=MV) (i:=bP g.n.toNat p) (by rw[h.ml];exact dy h1 h2);refine⟨q,hq,fun hp=>?_,fun hp=>?_⟩
 .obtain⟨j,hj⟩:=Yf.1 ((eK p).2 hp);obtain⟨q',pK,e⟩:=h.m1 j p (Ya.1 hj).1 hj;rw[hq] at pK;cases pK;exact e
 .refine h.m0 _ q hq fun j p' hj oe e=>hp ?_;have hm:=h.pr p' (Yb oe);have:=pF (hm.nt hV).2 h2 e;rw[<-this];exact hm
def Ml(sb rb mb N n:Nat)(l:Sl)(G:List It)(BL:List Bool)(MV:List (Sl × List aP))(A:List Pr):List It:=
 .ae sb [.slice (some ⟨rb,0,none⟩) N N,.slice (some ⟨mb,0,none⟩) N N] 115 :: .ae rb (BL.map Value.bool) 4 :: .ae mb ((MV.map Prod.fst).map eS) 214 :: .sl l 3 1 ((aw (A.map (bP n))).map aO)::(G++MV.map (nest 219 2 jc))
theorem iw{α:Type}(f:α->Value):∀l:List α,l.map f=(l.map fun x=>[f x]).flatten
 | []=>rfl
 | x::l=>by rw[gJ,gJ,oC,<-iw f l];rfl
theorem HQ{α:Type}{a B M c d e:α}{N:List α}:(a::B::M::c::d::e::N).Perm ((B::M::N)++[a,c,d,e]):=by
 refine (List.Perm.swap _ _ _).trans (.cons _ ((List.Perm.swap _ _ _).trans (.cons _ ?_)));exact List.perm_append_comm (l₁:=[a,c,d,e])
theorem ach{hX hS hR hM h h9:Heap}{g:Gl}{role:Int}{K:Value->Heap->Prop}
  (hs:St h hX (.ae hS.size [.slice none 0 0,.slice none 0 0] 115 :: .ae hR.size ((List.replicate (g.n.toNat*g.n.toNat) false).map Value.bool) 4 :: .ae hM.size ((List.replicate (g.n.toNat*g.n.toNat) (⟨none,0,0⟩:Sl)).map eS) 214::[.ae h9.size [.slice none 0 0,.slice none 0 0] 115,.ae h.size g.cs 27])) (hg:GI h g) (hV:af g)
  (hK:∀(BL:List Bool) (MV:List (Sl × List aP)) (h':Heap),Ss g role BL MV->St h h' (.sl ⟨some ⟨hR.size,0,none⟩,g.n.toNat*g.n.toNat,g.n.toNat*g.n.toNat⟩ 4 1 (BL.map bC) :: .sl ⟨some ⟨hM.size,0,none⟩,g.n.toNat*g.n.toNat,g.n.toNat*g.n.toNat⟩ 214 1 ((MV.map Prod.fst).map eD)::MV.map (nest 219 2 jc))->K (.agg ⟨[.slice (some ⟨hR.size,0,none⟩) (g.n.toNat*g.n.toNat) (g.n.toNat*g.n.toNat),.slice (some ⟨hM.size,0,none⟩) (g.n.toNat*g.n.toNat) (g.n.toNat*g.n.toNat)]⟩) h') :
  vj hX hS hR g.n g.n hM g.n g.n h role h9 K:=by
 unfold vj;have hN:=hV.num.n;have P9:=hV.num.m;have hn:g.n=((g.n.toNat:Nat):Int):=by omega
 have iA:g.s=((g.s.toNat:Nat):Int):=by omega
 generalize xn:g.n.toNat=n at *;have BR:n<=200:=by omega
 have S9:n*n<=200*200:=Nat.mul_le_mul BR BR;have hmul:∀a b:Nat,a<n->b<n->IntKind.wrap .i64 (IntKind.wrap .i64 (((a:Nat):Int)*g.n)+((b:Nat):Int))=((bP n (a,b):Nat):Int):=fun a b ha hb=>by
  have h1:=dy (n:=n) (p:=(a,b)) ha hb;unfold bP at h1 ⊢;simp only at h1 ⊢;have h2:((a:Nat):Int)*g.n=((n*a:Nat):Int):=by rw[hn,Int.mul_comm];rfl
  rw[h2,a7 (n:=((n*a:Nat):Int)) (by omega) (by omega),a7 (by omega) (by omega)];rfl
 have hwN:IntKind.wrap .i64 (g.n*g.n)=((n*n:Nat):Int):=by
  have h2:g.n*g.n=((n*n:Nat):Int):=by rw[hn];rfl
  rw[h2,a7 (by omega) (by omega)]
 rw[hwN,Ys];refine hs.put 0 rfl (o:=0) (vs:=[.slice (some ⟨hR.size,0,none⟩) (n*n) (n*n),.slice (some ⟨hM.size,0,none⟩) (n*n) (n*n)]) rfl (show 2<=2 by decide) fun fR hs=>?_;refine⟨g.s,hs.rd 4 rfl (i:=4) rfl,g.n,hs.rd 4 rfl (i:=3) rfl,g.s,hs.rd 4 rfl (i:=4) rfl,?_⟩;have SQ:g.s.toNat<n:=by omega
 rw[iA,hmul _ _ SQ SQ];refine hs.aj fun dV hs=>?_;refine⟨⟨some ⟨hR.size,0,none⟩,n*n,n*n⟩,hs.rd 1 rfl (i:=0) rfl,by decide,((bP n (eP g):Nat):Int),hs.rd 0 rfl (i:=0) rfl,?_⟩;have tx:bP n (eP g)<n*n:=dy SQ SQ;refine EY ⟨⟨Int.natCast_nonneg _,Int.ofNat_lt.2 tx⟩,?_⟩;rw[show 0+Int.toNat ((bP n (eP g):Nat):Int)*1=bP n (eP g) by omega];refine hs.put 2 rfl (o:=bP n (eP g)) (vs:=[.bool true]) rfl (by rw[Yc,Yg,Yv];omega) fun zW hs=>?_;rw[bw Value.bool (by rw[Yg];exact tx)] at hs;have hs:=hs.dG 1 1 ((aw ([eP g].map (bP n))).map aO) rfl (cA _) rfl (by decide);have hs:=hs.qF (α:=aP) (e:=219) (k:=2) (cs:=jc) (A:=[_,_,_,_,_,_]) (B:=[]) (n*n);have hs:St h zW (Ml hS.size hR.size hM.size (n*n) n ⟨some ⟨fR.size,0,none⟩,1,1⟩ [.ae h9.size [.slice none 0 0,.slice none 0 0] 115,.ae h.size g.cs 27] ((List.replicate (n*n) false).set (bP n (eP g)) true) (List.replicate (n*n) ((⟨none,0,0⟩,[]):Sl × List aP)) [eP g]):=by
  rw[Yw] at hs;refine hs.perm ?_;unfold Ml;rw[List.map_replicate (f:=Prod.fst)];refine (List.perm_append_comm (l₁:=[_]) (l₂:=[_,_,_]) |>.append_right _)
 have hI:AM g role 0 0 [eP g] ((List.replicate (n*n) false).set (bP n (eP g)) true) (List.replicate (n*n) ((⟨none,0,0⟩,[]):Sl × List aP)):=by
  refine⟨by simp,fun p hp=>by rw[Ye] at hp;rw[hp];exact .start,Ye.2 rfl,?_,by rw[Yg,xn],fun j p hj=>by omega,fun k q hq _=>by rw[List.eq_of_mem_replicate (Yb hq)],fun j p hj=>by omega⟩;have e:List.replicate (n*n) false=(List.range (n*n)).map fun _=>false:=by
   apply yL;intro j;rw[List.getElem?_replicate,Yd];by_cases hj:j<n*n
   .rw[if_pos hj,yi hj];rfl
   .rw[if_neg hj,Yl (by rw[kV];omega)];rfl
  rw[e,xn];refine cN tx (decide_eq_true ⟨_,Ye.2 rfl,rfl⟩) fun k hk=>decide_eq_false ?_;rintro⟨q,hq,e⟩;rw[Ye] at hq;subst hq;exact hk e.symm
 refine⟨fun l x h' μ=>∃(i:Nat) (A:List Pr) (BL:List Bool) (MV:List (Sl × List aP)),x=(i:Int)/\μ=n*n-i/\i<=A.length/\St h h' (Ml hS.size hR.size hM.size (n*n) n l [.ae h9.size [.slice none 0 0,.slice none 0 0] 115,.ae h.size g.cs 27] BL MV A)/\AM g role i i A BL MV,⟨_,0,_,_,_,rfl,rfl,Nat.zero_le _,hs,hI⟩,?_⟩;clear hs hI;rintro-l _ N3 μ ⟨i,A,BL,MV,rfl,rfl,hi,hs,hI⟩;have lX:=hI.len hV;rw[xn] at lX;have sx:=(hs.len 3 (s:=l) (e:=3) (n:=1) rfl (by decide)).1;rw[Yc,show (aw (A.map (bP n))).length=A.length by unfold aw;rw[Yc,Yc]] at sx;have rl:∀ {A':List Pr} {l':Sl} {vz:List Bool} {MV':List (Sl × List aP)} {h':Heap} {p:Pr} {K':Nat->Nat->Prop},St h h' (Ml hS.size hR.size hM.size (n*n) n l' [.ae h9.size [.slice none 0 0,.slice none 0 0] 115,.ae h.size g.cs 27] vz MV' A')->A'[i]?=some p->(∀b o,hc h' ⟨b,o+Int.toNat (i:Int)*1,none⟩=some (.int .i64 (bP n p:Nat))->K' b o)->NB l'.a fun b o=>(0<=(i:Int)/\(i:Int)<(l'.n:Nat))/\K' b o:=fun {A' l' vz MV' h' p K'} bI hp hK'=>by
  have oU:=(Ya.1 hp).1;have PE:=(bI.len 3 (s:=l') (e:=3) (n:=1) rfl (by decide)).1;rw[Yc,show (aw (A'.map (bP n))).length=A'.length by unfold aw;rw[Yc,Yc]] at PE;refine (bI.rows 3 (s:=l') (cs:=aO) (l:=aw (A'.map (bP n))) rfl (by decide)).aA (by omega) (by omega) fun b o d gd u=>?_;have gI:(aw (A'.map (bP n)))[i]?=some ((bP n p:Nat):Int):=by unfold aw;rw[Yd,Yd,hp];rfl
  replace gd:(aw (A'.map (bP n)))[i]?=some d:=gd;rw[gI] at gd;cases gd;exact hK' b o (u.nth 0 rfl)
 refine aM (fun c=>?_) (fun c=>?_)
 .obtain⟨p,gp⟩:=get_some (l:=A) (i:=i) (by omega);have Ec:=hI.pr p (Yb gp);have de:=Ec.nt hV;rw[xn] at de;have hpx:=dy (n:=n) (p:=p) de.1 de.2;have agR:=fC (es:=g.es) (role:=role) (s:=p.1) (t:=p.2) P9;have hdiv:IntKind.wrap .i64 (Int.tdiv ((bP n p:Nat):Int) g.n)=((p.1:Nat):Int):=by
   have e1:Int.tdiv ((bP n p:Nat):Int) g.n=((bP n p/n:Nat):Int):=by rw[hn];rfl
   rw[e1,lH de.2,a7 (by omega) (by omega)]
  have xp:Int.tmod ((bP n p:Nat):Int) g.n=((p.2:Nat):Int):=by
   have e1:Int.tmod ((bP n p:Nat):Int) g.n=((bP n p%n:Nat):Int):=by rw[hn];rfl
   rw[e1,lG de.2]
  refine rl hs gp fun b34 o35 u=>⟨_,u,g.n,hs.rd 5 rfl (i:=3) rfl,by omega,rl hs gp fun b38 o39 u=>⟨_,u,g.n,hs.rd 5 rfl (i:=3) rfl,by omega,?_⟩⟩;rw[hdiv,xp];refine⟨⟨some ⟨hM.size,0,none⟩,n*n,n*n⟩,hs.rd 0 rfl (i:=1) rfl,rl hs gp fun b43 o44 u=>⟨_,u,_,_,_,_,_,_,_,_,hs.at 5 rfl (o:=0) (n:=8) rfl,?_⟩⟩;refine (GK g role p.1 p.2 N3 (hg.ext hs.ext) hV).mono ?_;rintro _ kM ⟨r,rfl,yB⟩;refine⟨r,rfl,yB.ext.sm,EY ⟨⟨Int.natCast_nonneg _,Int.ofNat_lt.2 hpx⟩,?_⟩⟩;have kc:=(yB.len 0 (s:=r) rfl (by decide)).1;rw[Yc] at kc;rw[show 0+Int.toNat ((bP n p:Nat):Int)*1=bP n p by omega];have hMl:=hI.ml;rw[xn] at hMl;have hs:=hs.join yB;refine hs.put 2 rfl (o:=bP n p) (vs:=[eS r]) rfl (by rw[Yc,Yc,Yv];omega) fun Cb hs=>?_;rw[bw eS (by rw[Yc];omega)] at hs;obtain⟨q0,Hn⟩:=get_some (l:=MV) (i:=bP n p) (by omega);have hs:St h Cb (Ml hS.size hR.size hM.size (n*n) n l [.ae h9.size [.slice none 0 0,.slice none 0 0] 115,.ae h.size g.cs 27] BL (MV.set (bP n p) (r,bq g.es role p.1 p.2)) A):=by
   refine hs.gK (R:=[nest 219 2 jc q0]) ?_;unfold Ml;rw[List.map_set (f:=Prod.fst),List.map_set (f:=nest 219 2 jc)];refine .cons _ (.cons _ (.cons _ (.cons _ ?_)));show List.Perm (([It.ae h9.size [.slice none 0 0,.slice none 0 0] 115,.ae h.size g.cs 27]++MV.map (nest 219 2 jc))++[.sl r 219 2 ((bq g.es role p.1 p.2).map jc)]) (([It.ae h9.size [.slice none 0 0,.slice none 0 0] 115,.ae h.size g.cs 27]++(MV.map (nest 219 2 jc)).set (bP n p) (nest 219 2 jc (r,bq g.es role p.1 p.2)))++[nest 219 2 jc q0]);rw[Yz,Yz];exact List.Perm.append_left _ (set_perm (by rw[Yd,Hn];rfl))
  have gH:=hI.mov hV gp r;rw[xn] at gH;refine⟨fun l' y h' μ'=>∃(k:Nat) (A':List Pr) (vz:List Bool),y=(k:Int)/\μ'=r.n-k/\k<=r.n/\A.length<=A'.length/\St h h' (Ml hS.size hR.size hM.size (n*n) n l' [.ae h9.size [.slice none 0 0,.slice none 0 0] 115,.ae h.size g.cs 27] vz (MV.set (bP n p) (r,bq g.es role p.1 p.2)) A')/\AM g role i (i+1) A' vz (MV.set (bP n p) (r,bq g.es role p.1 p.2))/\A'[i]?=some p/\∀m∈(bq g.es role p.1 p.2).take k,bj m∈A',⟨_,0,A,BL,rfl,rfl,Nat.zero_le _,bc _,hs,gH,gp,fun m hm=>by rw[my] at hm;cases hm⟩,?_⟩;have hMg:(MV.set (bP n p) (r,bq g.es role p.1 p.2))[bP n p]?=some (r,bq g.es role p.1 p.2):=Yq (by omega);clear hs gH;rintro-l' _ h65 μ' ⟨k,A',vz,rfl,rfl,hk,hAA,hs,gH,HL,eR⟩;have Xm:=gH.len hV;rw[xn] at Xm;have oU:=(Ya.1 HL).1;have acZ:=(hs.len 3 (s:=l') (e:=3) (n:=1) rfl (by decide)).1;rw[Yc,show (aw (A'.map (bP n))).length=A'.length by unfold aw;rw[Yc,Yc]] at acZ;have hMr:hc h65 ⟨hM.size,0+Int.toNat ((bP n p:Nat):Int)*1,none⟩=some (.slice r.a r.n r.c):=by
   rw[show 0+Int.toNat ((bP n p:Nat):Int)*1=bP n p by omega];exact hs.rd 2 rfl (by rw[Yd,Yd,hMg];rfl)
  have hrr:Rw h65 2 r ((bq g.es role p.1 p.2).map jc):=hs.mD (e:=219) (by
   unfold Ml;refine Yn _ (Yn _ (Yn _ (Yn _ (List.mem_append_right _ ?_))));exact Yp.2 ⟨(r,bq g.es role p.1 p.2),Yb hMg,rfl⟩) (by decide)
  refine⟨⟨some ⟨hM.size,0,none⟩,n*n,n*n⟩,hs.rd 0 rfl (i:=1) rfl,rl hs HL fun b67 o68 u=>⟨_,u,EY ⟨⟨Int.natCast_nonneg _,Int.ofNat_lt.2 hpx⟩,r,hMr,?_⟩⟩⟩;refine aM (fun c2=>?_) (fun c2=>?_)
  .obtain⟨m,gm⟩:=get_some (l:=bq g.es role p.1 p.2) (i:=k) (by omega);have mF:=Yb gm;have pL:=ie hV (p:=p) (by omega) mF;have acR:=dC.step Ec mF;have tv:IntKind.wrap .i64 ((k:Int)+1)=((k+1:Nat):Int):=by rw[a7 (by omega) (by omega)];omega
   refine⟨_,_,_,_,_,_,_,_,hs.at 5 rfl (o:=0) (n:=8) rfl,⟨some ⟨hM.size,0,none⟩,n*n,n*n⟩,hs.rd 0 rfl (i:=1) rfl,rl hs HL fun b82 o83 u=>⟨_,u,EY ⟨⟨Int.natCast_nonneg _,Int.ofNat_lt.2 hpx⟩,r,hMr,?_⟩⟩⟩;refine hrr.aA (by omega) (by omega) fun b88 o89 d gd u=>?_;replace gd:(bq g.es role p.1 p.2)[k]?=some d:=gd;rw[gm] at gd;cases gd;refine⟨_,_,u,?_⟩;refine (jO g role p.1 p.2 m h65 (hg.ext hs.ext) mF).mono ?_;rintro _ h95 ⟨rfl,E⟩;have hs:=hs.step E;refine⟨_,_,rfl,⟨some ⟨hR.size,0,none⟩,n*n,n*n⟩,hs.rd 0 rfl (i:=0) rfl,g.n,hs.rd 5 rfl (i:=3) rfl,?_⟩;have xu:(bj m).1<n:=by omega
   have il:(bj m).2<n:=by omega
   have uQ:IntKind.wrap .i64 (IntKind.wrap .i64 (m.s*g.n)+m.t)=((bP n (bj m):Nat):Int):=by
    have:=hmul (bj m).1 (bj m).2 xu il;rw[pL.2.2.1,pL.2.2.2] at this;exact this
   have hpq:=dy (n:=n) (p:=bj m) xu il;have NH:=gH.seen hV (p:=bj m) (by rw[xn];exact xu) (by rw[xn];exact il);rw[xn] at NH;have yH:vz.length=n*n:=by rw[gH.bl,xn];simp
   rw[uQ];have e0:0+Int.toNat ((bP n (bj m):Nat):Int)*1=bP n (bj m):=by omega
   refine EY ⟨⟨Int.natCast_nonneg _,Int.ofNat_lt.2 hpq⟩,decide (bj m∈A'),by rw[e0];exact hs.rd 1 rfl (by rw[Yd,NH];rfl),?_⟩;have W9:∀ {A2:List Pr},(∀x∈A',x∈A2)->bj m∈A2->∀x∈(bq g.es role p.1 p.2).take (k+1),bj x∈A2:=fun h1 h2 x hx=>by
    rw[ak gm,Yk,Ye] at hx;rcases hx with hx | rfl
    .exact h1 _ (eR x hx)
    .exact h2
   refine aa (fun c3=>?_) (fun c3=>?_)
   .have bK:bj m∉A':=by simpa using c3
    refine⟨⟨some ⟨hR.size,0,none⟩,n*n,n*n⟩,hs.rd 0 rfl (i:=0) rfl,g.n,hs.rd 5 rfl (i:=3) rfl,?_⟩;rw[uQ];refine EY ⟨⟨Int.natCast_nonneg _,Int.ofNat_lt.2 hpq⟩,?_⟩;rw[e0];refine hs.put 1 rfl (o:=bP n (bj m)) (vs:=[.bool true]) rfl (by rw[Yc,Yv];omega) fun ahY hs=>?_;rw[bw Value.bool (by omega)] at hs;refine⟨g.n,hs.rd 5 rfl (i:=3) rfl,?_⟩;rw[uQ];refine hs.app 3 rfl dv (m:=1) [aO ((bP n (bj m):Nat):Int)] rfl rfl (fun r hr=>by rw[Ye] at hr;rw[hr];rfl) rfl (by omega) (by simp only[maxLen];omega) fun l2 HJ nl hs=>?_;have hI3:=gH.push hV (by omega) (by omega) bK acR;rw[xn] at hI3;refine⟨_,(show r.n-(k+1)<r.n-k by omega),k+1,A'++[bj m],vz.set (bP n (bj m)) true,tv,rfl,by omega,by rw[Yh];omega,?_,hI3,by rw[jt oU];exact HL,W9 (fun x hx=>List.mem_append_left _ hx) (List.mem_append_right _ (Ye.2 rfl))⟩;unfold Ml;have e5:(aw ((A'++[bj m]).map (bP n))).map aO=(aw (A'.map (bP n))).map aO++[aO ((bP n (bj m):Nat):Int)]:=by
     unfold aw;rw[Ym,Ym,Ym];rfl
    rw[e5];exact hs
   .have cO:bj m∈A':=by simpa using c3
    exact⟨_,(show r.n-(k+1)<r.n-k by omega),k+1,A',vz,tv,rfl,by omega,hAA,hs,gH,HL,W9 (fun x hx=>hx) cO⟩
  .rw[Yj (by omega)] at eR;refine⟨_,(show n*n-(i+1)<n*n-i by omega),i+1,A',vz,_,by rw[a7 (by omega) (by omega)];omega,rfl,by omega,hs,gH.nd,gH.pr,gH.st,gH.bl,gH.ml,gH.m1,gH.m0,fun j x hj hx m hm=>?_⟩;by_cases e:j=i
   .subst e;rw[HL] at hx;cases hx;exact eR m hm
   .exact gH.cl j x (by omega) hx m hm
 .have cO:i=A.length:=by omega
  subst cO;have hRR:=hI.done hV;have hRb:=hRR.bl;have hRm:=hRR.ml;rw[xn] at hRb hRm;refine⟨⟨some ⟨hR.size,0,none⟩,n*n,n*n⟩,⟨some ⟨hM.size,0,none⟩,n*n,n*n⟩,hs.at 0 rfl (o:=0) (n:=2) rfl,?_⟩;refine hs.put 4 rfl (o:=0) (vs:=[.slice (some ⟨hR.size,0,none⟩) (n*n) (n*n),.slice (some ⟨hM.size,0,none⟩) (n*n) (n*n)]) rfl (show 2<=2 by decide) fun Qs hs=>?_;refine⟨⟨some ⟨hR.size,0,none⟩,n*n,n*n⟩,⟨some ⟨hM.size,0,none⟩,n*n,n*n⟩,hs.at 4 rfl (o:=0) (n:=2) rfl,?_⟩;refine hK BL MV Qs hRR ?_;have hs:=hs.km 1 rfl (n*n) 1 (BL.map bC) (iw Value.bool BL) (fun r hr=>by obtain⟨x,_,rfl⟩:=Yp.1 hr;rfl) (by rw[Yc];exact hRb) (by simp only[maxLen];omega);have hs:=hs.km 2 rfl (n*n) 1 ((MV.map Prod.fst).map eD) (iw eS _) (fun r hr=>by obtain⟨x,_,rfl⟩:=Yp.1 hr;rfl) (by rw[Yc,Yc];exact hRm) (by simp only[maxLen];omega);exact hs.gK HQ
def ExK(g:Gl)(role:Int)(h:Heap)(v:Value)(h':Heap):Prop:=
 ∃(rs ms:Sl) (BL:List Bool) (MV:List (Sl × List aP)),v=.agg ⟨[.slice rs.a rs.n rs.c,.slice ms.a ms.n ms.c]⟩/\Ss g role BL MV/\St h h' (.sl rs 4 1 (BL.map bC) :: .sl ms 214 1 ((MV.map Prod.fst).map eD)::MV.map (nest 219 2 jc))
theorem jf(n:Nat):ai Pz 214 n=(List.replicate n (⟨none,0,0⟩:Sl)).map eS:=by
 have e:bV Pz 214=[.slice none 0 0]:=by kernel_rfl
 unfold ai;rw[e]
 induction n with
 | zero=>rfl
 | succ n ih=>rw[List.replicate_succ,oC,ih,List.replicate_succ];rfl
theorem nG(g:Gl)(role:Int)(h:Heap)(hg:GI h g)(hV:af g):Fn Pz 60 #[g.v,.int .i64 role] h (ExK g role h):=by
 apply abB (bs g.nm) g.hr g.hd g.n g.s g.e g.he g.ht role;unfold W60;have hN:=hV.num.n;refine (St.refl h).aj fun h9 hs=>hs.aj fun cw hs=>?_;refine⟨g.n,hs.rd 1 rfl (i:=3) rfl,g.n,hs.rd 1 rfl (i:=3) rfl,g.n,hs.rd 1 rfl (i:=3) rfl,g.n,hs.rd 1 rfl (i:=3) rfl,?_⟩;have h0:h.size<cw.size:=eu (hs.rd 1 rfl (i:=3) rfl);have JL:∀z∈([⟨h.size,3,none⟩,⟨h.size,3,none⟩]:List Addr),z.block<cw.size:=aF h0 (aF h0 bg);have AL4:∀z∈([⟨h.size,3,none⟩,⟨h.size,3,none⟩,⟨h.size,3,none⟩,⟨h.size,3,none⟩]:List Addr),z.block<cw.size:=aF h0 (aF h0 JL);have S9:g.n.toNat*g.n.toNat<=200*200:=Nat.mul_le_mul (by omega) (by omega);have hw:IntKind.wrap .i64 (g.n*g.n)=((g.n.toNat*g.n.toNat:Nat):Int):=by
  have h2:g.n*g.n=((g.n.toNat*g.n.toNat:Nat):Int):=by rw[Int.natCast_mul,show ((g.n.toNat:Nat):Int)=g.n by omega]
  rw[h2,a7 (by omega) (by omega)]
 have hn:Int.toNat (IntKind.wrap .i64 (g.n*g.n))=g.n.toNat*g.n.toNat:=by rw[hw,Ys]
 have hb:Ax g.n g.n:=by unfold Ax;rw[hw];exact⟨by omega,by omega,by omega⟩
 have hc:Aw g.n g.n:=by unfold Aw;rw[hw];exact⟨by omega,by omega,by omega⟩
 have hr:=St.refl cw;have F:∀ {hX hS hR hM:Heap},St h hX (.ae hS.size [.slice none 0 0,.slice none 0 0] 115 :: .ae hR.size ((List.replicate (g.n.toNat*g.n.toNat) false).map Value.bool) 4 :: .ae hM.size ((List.replicate (g.n.toNat*g.n.toNat) (⟨none,0,0⟩:Sl)).map eS) 214::[.ae h9.size [.slice none 0 0,.slice none 0 0] 115,.ae h.size g.cs 27])->vj hX hS hR g.n g.n hM g.n g.n h role h9 (ExK g role h):=fun {hX hS hR hM} hs=>ach hs hg hV fun BL MV h' hx bI=>⟨⟨some ⟨hR.size,0,none⟩,g.n.toNat*g.n.toNat,g.n.toNat*g.n.toNat⟩,⟨some ⟨hM.size,0,none⟩,g.n.toNat*g.n.toNat,g.n.toNat*g.n.toNat⟩,BL,MV,rfl,hx,bI⟩;refine⟨⟨hc,fun rY e1=>?_⟩,⟨hb,fun rY e1=>?_⟩,fun rY e1=>?_⟩
 .have s1:=hs.dj e1;have t1:=hr.dj e1;rw[hn,nq] at s1;refine⟨aY hr t1 JL,⟨hb,fun cB e2=>?_⟩,fun cB e2=>?_⟩
  .have s2:=s1.dj e2;have t2:=t1.dj e2;rw[hn,jf] at s2;refine⟨aY t1 t2 JL,fun iQ e3=>?_⟩;have s3:=s2.dj e3;have t3:=t2.dj e3;exact⟨aY t2 t3 AL4,F (s3.perm (.cons _ (List.Perm.swap _ _ _)))⟩
  .have s2:=s1.dj e2;have t2:=t1.dj e2;refine⟨aY t1 t2 AL4,hb,fun iQ e3=>?_⟩;have s3:=s2.dj e3;have t3:=t2.dj e3;rw[hn,jf] at s3;exact⟨aY t2 t3 JL,F (s3.perm ((List.Perm.swap _ _ _).trans (.cons _ (List.Perm.swap _ _ _))))⟩
 .have s1:=hs.dj e1;have t1:=hr.dj e1;rw[hn,jf] at s1;refine⟨aY hr t1 JL,⟨hc,fun cB e2=>?_⟩,fun cB e2=>?_⟩
  .have s2:=s1.dj e2;have t2:=t1.dj e2;rw[hn,nq] at s2;refine⟨aY t1 t2 JL,fun iQ e3=>?_⟩;have s3:=s2.dj e3;have t3:=t2.dj e3;exact⟨aY t2 t3 AL4,F s3⟩
  .have s2:=s1.dj e2;have t2:=t1.dj e2;refine⟨aY t1 t2 AL4,hc,fun iQ e3=>?_⟩;have s3:=s2.dj e3;have t3:=t2.dj e3;rw[hn,nq] at s3;exact⟨aY t2 t3 JL,F (s3.perm (List.Perm.swap _ _ _))⟩
 .have s1:=hs.dj e1;have t1:=hr.dj e1;refine⟨aY hr t1 AL4,⟨hc,fun cB e2=>?_⟩,hb,fun cB e2=>?_⟩
  .have s2:=s1.dj e2;have t2:=t1.dj e2;rw[hn,nq] at s2;refine⟨aY t1 t2 JL,hb,fun iQ e3=>?_⟩;have s3:=s2.dj e3;have t3:=t2.dj e3;rw[hn,jf] at s3;exact⟨aY t2 t3 JL,F (s3.perm ((List.Perm.cons _ (List.Perm.swap _ _ _)).trans ((List.Perm.swap _ _ _).trans (.cons _ (List.Perm.swap _ _ _)))))⟩
  .have s2:=s1.dj e2;have t2:=t1.dj e2;rw[hn,jf] at s2;refine⟨aY t1 t2 JL,hc,fun iQ e3=>?_⟩;have s3:=s2.dj e3;have t3:=t2.dj e3;rw[hn,nq] at s3;exact⟨aY t2 t3 JL,F (s3.perm ((List.Perm.cons _ (List.Perm.swap _ _ _)).trans (List.Perm.swap _ _ _)))⟩
theorem q9{α:Type}{p:α->Bool}:∀ {l:List α} {i:Nat} {x:α},l[i]?=some x->p x=true->(∀j y,j<i->l[j]?=some y->p y=false)->l.findIdx p=i
 | [],i,x,h,_,_=>by cases h
 | a::l,0,x,h,hp,_=>by cases h;rw[List.findIdx_cons,hp];rfl
 | a::l,i+1,x,h,hp,hn=>by
  rw[List.findIdx_cons,hn 0 a (by omega) rfl,q9 (l:=l) (i:=i) (x:=x) h hp fun j y hj hy=>hn (j+1) y (by omega) hy];rfl
theorem q8{α:Type}{p:α->Bool}:∀ {l:List α},(∀(j:Nat) y,l[j]?=some y->p y=false)->l.findIdx p=l.length
 | [],_=>rfl
 | a::l,hn=>by
  rw[List.findIdx_cons,hn 0 a rfl,q8 (l:=l) fun j y hy=>hn (j+1) y hy];rfl
theorem ir{α:Type}{p:α->Bool}:∀ {l:List α},(l.find? p).isSome=decide (l.findIdx p<l.length)/\∀x,l.find? p=some x->l[l.findIdx p]?=some x
 | []=>⟨rfl,fun x h=>by cases h⟩
 | a::l=>by
  rw[List.find?_cons,List.findIdx_cons];cases hp:p a with
  | true=>exact⟨by simp,fun x h=>by simpa using h⟩
  | false=>
   obtain⟨h1,h2⟩:=ir (p:=p) (l:=l);refine⟨?_,fun x h=>by simpa using h2 x h⟩;rw[h1,decide_eq_decide];simp only[cond_false,j5];omega
theorem mi(r:Int)(E K:List Ev)(s e:Sl)(h:Heap)(hr:Rw h 5 s (E.map (aC r)))(he:Rw h 5 e (K.map (aC r)))(hE:E.length<=1048576)(hK:K.length<=1048576):
  Fn Pz 120 #[.slice s.a s.n s.c,.slice e.a e.n e.c] h fun v h'=>v=.int .i64 ((E.findIdx (dA K):Nat):Int)/\Ext h h':=by
 apply Ve s e;unfold aaw;have hn:=hr.ln;refine⟨fun x h' μ=>∃i:Nat,x=(i:Int)/\s.n-i=μ/\i<=s.n/\Ext h h'/\∀(j:Nat) y,j<i->E[j]?=some y->dA K y=false,⟨_,0,rfl,rfl,Nat.zero_le _,.iK,fun j y hj=>by omega⟩,?_⟩;rintro-_ h5 μ ⟨i,rfl,rfl,hi,X,hd⟩;refine aM (fun c=>?_) (fun c=>?_)
 .obtain⟨x,gx⟩:=get_some (l:=E) (i:=i) (by omega);have rd:∀ {h':Heap} {K':Nat->Nat->Prop},Ext h h'->(∀b o,aZ h' ⟨b,o+Int.toNat (i:Int)*5,none⟩ (aC r x)->K' b o)->NB s.a fun b o=>(0<=(i:Int)/\(i:Int)<(s.n:Nat))/\K' b o:=fun {h' K'} E' hK'=>by
   refine (hr.ext E').aA (by omega) (by omega) fun b o d gd t=>?_;replace gd:E[i]?=some d:=gd;rw[gx] at gd;cases gd;exact hK' b o t
  have yA:IntKind.wrap .i64 ((i:Int)+1)=((i+1:Nat):Int):=by rw[a7 (by omega) (by omega)];omega
  have next:dA K x=false->∀h',Ext h h'->∃m2,m2<s.n-i/\∃i':Nat,IntKind.wrap .i64 ((i:Int)+1)=(i':Int)/\s.n-i'=m2/\i'<=s.n/\Ext h h'/\∀(j:Nat) y,j<i'->E[j]?=some y->dA K y=false:=fun hx h' X'=>⟨_,(show s.n-(i+1)<s.n-i by omega),i+1,yA,rfl,by omega,X',fun j y hj hy=>by
   by_cases e:j=i
   .subst e;rw[gx] at hy;cases hy;exact hx
   .exact hd j y (by omega) hy⟩
  refine rd X fun b6 o7 u=>⟨_,u.nth 1 rfl,?_⟩;refine aa (fun c2=>?_) (fun c2=>?_)
  .refine rd X fun b9 o10 u2=>⟨_,_,_,_,⟨none,0,0⟩,u2,?_⟩;refine (NV r K x e h5 (he.ext X) hK).mono ?_;rintro _ fR ⟨rfl,X2⟩;refine⟨_,rfl,aa (fun c3=>?_) (fun c3=>?_)⟩
   .have hx:dA K x=true:=by unfold dA;rw[c2,c3];rfl
    exact⟨by rw[q9 gx hx hd],X.trans X2⟩
   .refine next ?_ fR (X.trans X2);unfold dA;rw[c2,c3];rfl
  .refine next ?_ h5 X;unfold dA;rw[c2];rfl
 .refine⟨?_,X⟩;rw[q8 fun j y hy=>hd j y (by have:=(Ya.1 hy).1;omega) hy,<-hn]
structure J9 (h:Heap) (g:Gl) (role:Int) (ev en ar rs ms:Sl) (E:List (Sl × List Ev)) (B:List Bool) (MS:List (Sl × List gF)) (BL:List Bool) (MV:List (Sl × List aP)):Prop where
 v:VfM h g role ev en ar E B MS
 rb:Rw h 1 rs (BL.map bC)
 rm:Rw h 1 ms ((MV.map Prod.fst).map eD)
 mm:∀q∈MV,Rw h 2 q.1 (q.2.map jc)
 rp:∀q∈MS,∀a∈q.2,RL h 3 a.2.2 Ac.cs a.2.1.path
theorem J9.ext{h h':Heap}{g:Gl}{role:Int}{ev en ar rs ms:Sl}{E:List (Sl × List Ev)}{B:List Bool}{MS:List (Sl × List gF)}{BL:List Bool}{MV:List (Sl × List aP)}(hm:J9 h g role ev en ar rs ms E B MS BL MV)(X:Ext h h'):J9 h' g role ev en ar rs ms E B MS BL MV:=
 ⟨hm.v.ext X,hm.rb.ext X,hm.rm.ext X,fun q hq=>(hm.mm q hq).ext X,fun q hq a ha=>(hm.rp q hq a ha).ext X⟩
structure Ts (g:Gl) (role:Int) (E:List (Sl × List Ev)) (B:List Bool) (MS:List (Sl × List gF)) (BL:List Bool) (MV:List (Sl × List aP)):Prop where
 p:RX g role E B MS
 r:Ss g role BL MV
 w:∀q∈MS,∀a∈q.2,a.2.1.path=gA g a.1 a.2.1.m/\a.2.1.path.length<=1000000/\a.1<g.es.length
def j9(g:Gl)(role kind:Int)(ev en ar rs ms:Sl):List Value:=[.string (bs g.nm),.slice g.hr.a g.hr.n g.hr.c,.slice g.hd.a g.hd.n g.hd.c,.int .i64 g.n,.int .i64 g.s,.int .i64 g.e,.slice g.he.a g.he.n g.he.c,.slice g.ht.a g.ht.n g.ht.c,.int .i64 role,.int .i64 kind,.slice ev.a ev.n ev.c,.slice en.a en.n en.c,.slice ar.a ar.n ar.c,.slice rs.a rs.n rs.c,.slice ms.a ms.n ms.c]
noncomputable def oO(g:Gl)(role kind:Int)(p:Pr):Int:=(bR g role kind p).getD aH
theorem RX.el{g:Gl}{role:Int}{E:List (Sl × List Ev)}{B:List Bool}{MS:List (Sl × List gF)}(hp:RX g role E B MS)(s:Nat):(ay g role (s:Nat)).length<=1048576:=by have:=hp.le (s:Nat);omega
theorem kD{α:Type}{h:Heap}{s:Sl}{L:List (Sl × α)}(hr:Rw h 1 s ((L.map Prod.fst).map eD)){i:Nat}{q:Sl × α}(hq:L[i]?=some q){K:Nat->Nat->Prop}(hK:∀b o,hc h ⟨b,o+Int.toNat (i:Int)*1,none⟩=some (.slice q.1.a q.1.n q.1.c)->K b o):NB s.a fun b o=>(0<=(i:Int)/\(i:Int)<(s.n:Nat))/\K b o:=by
 have hl:=(Ya.1 hq).1;have hn:=hr.ln;rw[Yc] at hn;refine hr.aA (by omega) (by omega) fun b o d gd t=>?_;replace gd:(L.map Prod.fst)[i]?=some d:=gd;rw[Yd,hq] at gd;cases gd;exact hK b o (t.nth 0 rfl)
theorem Gq(g:Gl)(role kind:Int)(ev en ar rs ms:Sl)(E:List (Sl × List Ev))(B:List Bool)(MS:List (Sl × List gF))(BL:List Bool)(MV:List (Sl × List aP))(p:Pr)(h:Heap)(hg:GI h g)(hV:af g)(hM:J9 h g role ev en ar rs ms E B MS BL MV)(hP:Ts g role E B MS BL MV)(h1:p.1<g.n.toNat)(h2:p.2<g.n.toNat)(hk:kind=1\/kind=3\/kind=4):
  Fn Pz 118 #[.agg ⟨j9 g role kind ev en ar rs ms⟩,.int .i64 (p.1:Nat),.int .i64 (p.2:Nat)] h fun v h'=>v=.int .i64 (oO g role kind p)/\Ext h h':=by
 apply Vg (bs g.nm) g.hr g.hd g.n g.s g.e g.he g.ht role kind ev en ar rs ms (p.1:Nat) (p.2:Nat);unfold aay;obtain⟨q1,mE,e1⟩:=hP.p.e p.1 h1;obtain⟨q2,fY,e2⟩:=hP.p.e p.2 h2;obtain⟨qa,Hm,ea⟩:=hP.p.m p.1 h1;have xu:=hP.p.el (role:=role) p.1;have il:=hP.p.el (role:=role) p.2;refine (St.refl h).aj fun cB hs=>?_;refine⟨kind,hs.rd 0 rfl (i:=9) rfl,dw (fun c=>?_) (fun c=>dw (fun c2=>?_) (fun c2=>dw (fun c3=>?_) (fun c3=>?_)))⟩
 .subst c;have r1:=(hM.v.re q1 (Yb mE));have r2:=(hM.v.re q2 (Yb fY));rw[e1] at r1;rw[e2] at r2;refine⟨ev,hs.rd 0 rfl (i:=10) rfl,kD (hM.v.rv.ext hs.ext) mE fun b o u=>⟨q1.1,u,ev,hs.rd 0 rfl (i:=10) rfl,kD (hM.v.rv.ext hs.ext) fY fun b2 o2 u2=>⟨q2.1,u2,ev,hs.rd 0 rfl (i:=10) rfl,kD (hM.v.rv.ext hs.ext) mE fun b3 o3 u3=>⟨q1.1,u3,?_⟩⟩⟩⟩;refine (mi role _ _ q1.1 q2.1 cB (r1.ext hs.ext) (r2.ext hs.ext) xu il).mono ?_;rintro _ Tf ⟨rfl,X⟩;have hn:=r1.ln;have hf:=(ir (p:=dA (ay g role (p.2:Nat))) (l:=ay g role (p.1:Nat))).1;refine⟨_,rfl,X.sm,aM (fun c4=>?_) (fun c4=>?_)⟩
  .refine⟨?_,hs.ext.trans X⟩;rw[decide_eq_true (by omega)] at hf;unfold oO bR;rw[if_pos rfl,if_pos ⟨h1,h2⟩,if_pos hf];rfl
  .refine⟨?_,hs.ext.trans X⟩;rw[decide_eq_false (by omega)] at hf;unfold oO bR;rw[if_pos rfl,if_pos ⟨h1,h2⟩,if_neg (by rw[hf];decide)];rfl
 .subst c2;refine⟨_,_,_,_,_,_,_,_,hs.at 0 rfl (o:=0) (n:=8) rfl,role,hs.rd 0 rfl (i:=8) rfl,?_⟩;refine (wx g role (p.1:Nat) (p.2:Nat) cB (hg.ext hs.ext) hV).mono ?_;rintro _ xA ⟨⟨b,rfl,hb⟩,X⟩;rw[<-Q5 hV h1 h2] at hb;refine⟨b,rfl,aa (fun c4=>?_) (fun c4=>?_)⟩
  .refine⟨?_,hs.ext.trans X⟩;unfold oO bR;rw[if_neg (by decide),if_pos rfl,if_pos (hb.1 c4)];rfl
  .refine⟨?_,hs.ext.trans X⟩;unfold oO bR;rw[if_neg (by decide),if_pos rfl,if_neg (cz hb c4)];rfl
 .subst c3;have ra:=hM.v.rm qa (Yb Hm);have r2:=(hM.v.re q2 (Yb fY));rw[e2] at r2;refine⟨ar,hs.rd 0 rfl (i:=12) rfl,kD (hM.v.ra.ext hs.ext) Hm fun b o u=>⟨qa.1,u,role,hs.rd 0 rfl (i:=8) rfl,ev,hs.rd 0 rfl (i:=10) rfl,kD (hM.v.rv.ext hs.ext) fY fun b2 o2 u2=>⟨q2.1,u2,?_⟩⟩⟩;refine (qL role _ qa.2 qa.1 q2.1 cB (ra.ext hs.ext) (r2.ext hs.ext) (hP.p.l qa (Yb Hm)) il (hP.p.p qa (Yb Hm))).mono ?_;rintro _ kM ⟨⟨out,rfl,hL⟩,X⟩;have hs:=hs.step X;have eo:oO g role 4 p=((cU (ay g role (p.2:Nat)) (qa.2.map cr)).map (·.n)).getD aH:=by
   unfold oO bR;rw[if_neg (by decide),if_neg (by decide),if_pos ⟨h1,h2⟩,ea]
  refine⟨out,rfl,aM (fun c4=>?_) (fun c4=>?_)⟩
  .rcases hL with ⟨rfl,_⟩ | ⟨o,y,rfl,hy,hf⟩
   .exact absurd c4 (by decide)
   .have hyq:=Yb hy;have hyl:=hP.p.p qa (Yb Hm) y hyq;have hw:=hP.w qa (Yb Hm) y hyq;have han:=ra.ln;have rQ:=(Ya.1 hy).1;refine⟨ar,hs.rd 0 rfl (i:=12) rfl,kD (hM.v.ra.ext hs.ext) Hm fun b b2 u=>⟨qa.1,u,?_⟩⟩;refine (ra.ext hs.ext).aA (by omega) (by omega) fun b3 o3 d gd t=>?_;replace gd:qa.2[o]?=some d:=gd;rw[hy] at gd;cases gd;refine⟨_,t.nth 3 rfl,?_,hs.ext⟩;rw[hyl,a7 (by omega) (by omega),eo];unfold cU;rw[hf];rfl
  .rcases hL with ⟨rfl,hf⟩ | ⟨o,y,rfl,hy,hf⟩
   .refine⟨?_,hs.ext⟩;rw[eo];unfold cU;rw[hf];rfl
   .exact absurd c4 (by omega)
 .omega
def uc(D:List Int):Nat:=(D.map Int.toNat).sum
theorem vW:∀ {D:List Int} {j:Nat} {v v':Int},D[j]?=some v->0<=v'->v'<v->uc (D.set j v')<uc D
 | [],j,v,v',h,_,_=>by cases h
 | a::D,0,v,v',h,h0,h1=>by
  cases h;unfold uc;rw[List.set_cons_zero,gJ,gJ,List.sum_cons,List.sum_cons];omega
 | a::D,j+1,v,v',h,h0,h1=>by
  have:=vW (D:=D) (j:=j) h h0 h1;unfold uc at this ⊢;rw[List.set_cons_succ,gJ,gJ,List.sum_cons,List.sum_cons];omega
theorem iR.chain{g:Gl}{role kind:Int}{C:Nat}(hC:∀p,dC g role p->∀c,br g role kind p=some c->c<=C):∀N v,v<=N->∀p,dC g role p->iR (bB g role) (br g role kind) p v ->
  ∃l:List Pr,l.Nodup/\(∀q∈l,dC g role q/\∃w,w<=v/\iR (bB g role) (br g role kind) q w)/\v<=C+2*l.length:=by
 intro N
 induction N with
 | zero=>intro v hv p hp hl;exact⟨[],List.nodup_nil,fun q hq=>(by cases hq),by omega⟩
 | succ N ih=>
  intro v hv p hp hl;have hd:=hl.1;cases hd with
  | base hc=>exact⟨[],List.nodup_nil,fun q hq=>(by cases hq),by have:=hC p hp _ hc;omega⟩
  | @step _ m n hm Hx=>
   have de:=bM m;have k6:iR (bB g role) (br g role kind) (bj m) n:=⟨Hx,fun k hk=>by have:=hl.2 _ (.step hm hk);omega⟩;obtain⟨l,h1,h2,h3⟩:=ih n (by omega) (bj m) (.step hp hm) k6;refine⟨p::l,List.nodup_cons.2 ⟨fun cO=>?_,h1⟩,fun q hq=>?_,by rw[j5];omega⟩
   .obtain⟨_,w,hw,hlw⟩:=h2 p cO;have:=hlw.uniq hl;omega
   .rcases Yr.1 hq with rfl | hq
    .exact⟨hp,_,bc _,hl⟩
    .obtain⟨a,w,b,c⟩:=h2 q hq;exact⟨a,w,by omega,c⟩
theorem iR.bd{g:Gl}(hV:af g){role kind:Int}{C:Nat}(hC:∀p,dC g role p->∀c,br g role kind p=some c->c<=C){v:Nat}{p:Pr}(hp:dC g role p)(hl:iR (bB g role) (br g role kind) p v):v<=C+2*(g.n.toNat*g.n.toNat):=by
 obtain⟨l,h1,h2,h3⟩:=hl.chain hC v v (bc _) p hp;have:=jK h1 fun q hq=>(h2 q hq).1.nt hV;omega
structure JJ (g:Gl) (role kind:Int) (D:List Int):Prop where
 ln:D.length=g.n.toNat*g.n.toNat
 v:∀p:Pr,p.1<g.n.toNat->p.2<g.n.toNat->∃v,D[bP g.n.toNat p]?=some v/\0<=v/\v<=aH/\(v=aH\/∃k:Nat,v=(k:Int)/\v<aH/\Dn (bB g role) (br g role kind) p k)/\(dC g role p->∀c,br g role kind p=some c->v<=(c:Int))
def aaT(g:Gl)(role:Int)(D:List Int):Prop:=∀p,dC g role p->∀m∈bB g role p,∀v w,D[bP g.n.toNat p]?=some v->D[bP g.n.toNat (bj m)]?=some w->v<=w+(bO m:Nat)
theorem JJ.fin{g:Gl}(hV:af g){role kind:Int}{D:List Int}(hI:JJ g role kind D)(hC:∀p,dC g role p->∀c,br g role kind p=some c->c<=1000001)(hF:aaT g role D){p:Pr}(hp:dC g role p):D[bP g.n.toNat p]?=some (dL (bB g role) (br g role kind) p):=by
 have hN:=hV.num.n;have S9:g.n.toNat*g.n.toNat<=200*200:=Nat.mul_le_mul (by omega) (by omega);have s1:∀ {k:Nat} {p:Pr},Dn (bB g role) (br g role kind) p k->dC g role p->∀v,D[bP g.n.toNat p]?=some v->v<=(k:Int):=by
  intro k p hd
  induction hd with
  | base hc=>
   intro hp v hv;obtain⟨v',vG,_,_,_,hb⟩:=hI.v _ (hp.nt hV).1 (hp.nt hV).2;rw[hv] at vG;cases vG;exact hb hp _ hc
  | @step p m n hm _ ih=>
   intro hp v hv;have hq:=dC.step hp hm;obtain⟨w,hw,_⟩:=hI.v _ (hq.nt hV).1 (hq.nt hV).2;have h1:=ih hq w hw;have h2:=hF p hp m hm v w hv hw;omega
 have s2:∀ {p:Pr} {v:Int},dC g role p->D[bP g.n.toNat p]?=some v->v≠aH->∃k:Nat,v=(k:Int)/\iR (bB g role) (br g role kind) p k:=fun {p v} hp hv bE=>by
  obtain⟨v',vG,_,_,hc,_⟩:=hI.v _ (hp.nt hV).1 (hp.nt hV).2;rw[hv] at vG;cases vG;rcases hc with h | ⟨k,hk,_,hd⟩
  .exact absurd h bE
  .exact⟨k,hk,hd,fun j hj=>by have:=s1 hj hp v hv;omega⟩
 have s3:∀ {k:Nat} {p:Pr},Dn (bB g role) (br g role kind) p k->dC g role p->D[bP g.n.toNat p]?≠some aH:=by
  intro k p hd
  induction hd with
  | base hc=>
   intro hp hv;have h1:=s1 (.base hc) hp _ hv;have h2:=hC _ hp _ hc;unfold aH at h1;omega
  | @step p m n hm hd ih=>
   intro hp hv;have hq:=dC.step hp hm;obtain⟨w,hw,_⟩:=hI.v _ (hq.nt hV).1 (hq.nt hV).2;obtain⟨k',rfl,hl⟩:=s2 hq hw (fun e=>ih hq (by rw[hw,e]));have h1:=hl.bd hV hC hq;have h2:=hF p hp m hm _ _ hv hw;have h3:=bM m;unfold aH at h2;omega
 obtain⟨v,hv,_⟩:=hI.v _ (hp.nt hV).1 (hp.nt hV).2;rw[hv];by_cases e:v=aH
 .rw[e,tM fun n hn=>s3 hn.1 hp (by rw[hv,e])]
 .obtain⟨k,rfl,hl⟩:=s2 hp hv e;rw[jo hl]
theorem JJ.set{g:Gl}(hV:af g){role kind:Int}{D:List Int}(hI:JJ g role kind D){p:Pr}(hp:dC g role p){m:aP}(hm:m∈bB g role p){v w:Int}(hv:D[bP g.n.toNat p]?=some v)(hw:D[bP g.n.toNat (bj m)]?=some w)(bU:w+(bO m:Nat)<v):JJ g role kind (D.set (bP g.n.toNat p) (w+(bO m:Nat))):=by
 have de:=hp.nt hV;have hq:=dC.step hp hm;obtain⟨v',vG,a1,a2,a3,a4⟩:=hI.v _ de.1 de.2;rw[hv] at vG;cases vG;obtain⟨w',SL,b1,b2,b3,b4⟩:=hI.v _ (hq.nt hV).1 (hq.nt hV).2;rw[hw] at SL;cases SL;have hlen:bP g.n.toNat p<D.length:=by rw[hI.ln];exact dy de.1 de.2
 refine⟨by rw[jR,hI.ln],fun q h1 h2=>?_⟩;by_cases e:bP g.n.toNat p=bP g.n.toNat q
 .have:=pF de.2 h2 e;subst this;have Wu:=bM m;refine⟨_,Yq hlen,by omega,by omega,.inr ?_,fun hq c hc=>by have:=a4 hq c hc;omega⟩;rcases b3 with rfl | ⟨k,rfl,_,hd⟩
  .omega
  .exact⟨k+bO m,by omega,by omega,.step hm hd⟩
 .rw[Yy e];exact hI.v q h1 h2
noncomputable def Pg(g:Gl)(role kind:Int)(k:Nat):Int:=by
 classical exact if dC g role (k/g.n.toNat,k%g.n.toNat) then oO g role kind (k/g.n.toNat,k%g.n.toNat) else aH
theorem JJ.init{g:Gl}{role kind:Int}(hc:∀p c,bR g role kind p=some c->0<=c/\c<=1000001){D:List Int}(hl:D.length=g.n.toNat*g.n.toNat)(hD:∀k:Nat,k<g.n.toNat*g.n.toNat->D[k]?=some (Pg g role kind k)):JJ g role kind D:=by
 refine⟨hl,fun p h1 h2=>⟨_,hD _ (dy h1 h2),?_⟩⟩;unfold Pg;rw[lH h2,lG h2];by_cases hp:dC g role (p.1,p.2)
 .rw[if_pos hp];unfold oO br;cases h:bR g role kind (p.1,p.2) with
  | none=>exact⟨by decide,by decide,.inl rfl,fun _ c kf=>by cases kf⟩
  | some c=>
   have:=hc _ _ h;unfold aH;refine⟨this.1,by show c<=_;omega,.inr ⟨c.toNat,by show c=_;omega,by show c<_;omega,.base (by rw[h];rfl)⟩,fun _ c' kf=>by cases kf;show c<=_;omega⟩
 .rw[if_neg hp];exact⟨by decide,by decide,.inl rfl,fun h9=>absurd h9 hp⟩
structure Sj (MV:List (Sl × List aP)) (n:Nat) (D D':List Int) (ch:Bool) (P:Nat->Nat->Prop):Prop where
 lt:ch=true->uc D'<uc D
 eq:ch=false->D'=D/\∀j t q m,MV[j]?=some q->q.2[t]?=some m->P j t->∀v w,D[j]?=some v->D[bP n (bj m)]?=some w->v<=w+(bO m:Nat)
theorem Sj.le{MV:List (Sl × List aP)}{n:Nat}{D D':List Int}{ch:Bool}{P:Nat->Nat->Prop}(h:Sj MV n D D' ch P):uc D'<=uc D:=by
 cases ch with
 | true=>exact Nat.le_of_lt (h.1 rfl)
 | false=>rw[(h.2 rfl).1];exact bc _
theorem Sj.bW{MV:List (Sl × List aP)}{n:Nat}{D D':List Int}{ch:Bool}{P P':Nat->Nat->Prop}(h:Sj MV n D D' ch P)(hP:∀j t q m,MV[j]?=some q->q.2[t]?=some m->P' j t->P j t\/∀v w,D'[j]?=some v->D'[bP n (bj m)]?=some w->v<=w+(bO m:Nat)):Sj MV n D D' ch P':=by
 refine⟨h.1,fun c=>⟨(h.2 c).1,fun j t q m hq hm hp v w hv hw=>?_⟩⟩;rcases hP j t q m hq hm hp with h1 | h1
 .exact (h.2 c).2 j t q m hq hm h1 v w hv hw
 .rw[(h.2 c).1] at h1;exact h1 v w hv hw
def Rm(ob gb h0:Nat)(g:Gl)(pc:List Value)(D:List Int):List It:=[.ae ob (D.map (Value.int .i64)) 3,.ae gb g.cs 27,.ae h0 pc 118]
def afj(g:Gl)(role kind:Int)(h:Heap)(v:Value)(h':Heap):Prop:=
 ∃(ob:Nat) (D:List Int),v=.slice (some ⟨ob,0,none⟩) (g.n.toNat*g.n.toNat) (g.n.toNat*g.n.toNat)/\St h h' [.sl ⟨some ⟨ob,0,none⟩,g.n.toNat*g.n.toNat,g.n.toNat*g.n.toNat⟩ 3 1 (D.map aO)]/\D.length=g.n.toNat*g.n.toNat/\∀p,dC g role p->D[bP g.n.toNat p]?=some (dL (bB g role) (br g role kind) p)
theorem MB(g:Gl)(role kind:Int)(ev en ar rs ms:Sl)(E:List (Sl × List Ev))(B:List Bool)(MS:List (Sl × List gF))(BL:List Bool)(MV:List (Sl × List aP))(h:Heap)(hg:GI h g)(hV:af g)(hM:J9 h g role ev en ar rs ms E B MS BL MV)(hP:Ts g role E B MS BL MV)(hc:∀p c,bR g role kind p=some c->0<=c/\c<=1000001)(hk:kind=1\/kind=3\/kind=4):
  Fn Pz 117 #[.agg ⟨j9 g role kind ev en ar rs ms⟩] h (afj g role kind h):=by
 apply Vh (bs g.nm) g.hr g.hd g.n g.s g.e g.he g.ht role kind ev en ar rs ms;unfold aaz;have hN:=hV.num.n;have P9:=hV.num.m;have hn:g.n=((g.n.toNat:Nat):Int):=by omega
 have S9:g.n.toNat*g.n.toNat<=200*200:=Nat.mul_le_mul (by omega) (by omega);have kc:=hM.rb.ln;rw[hP.r.bl] at kc;have hrN:Int.toNat (rs.n:Int)=g.n.toNat*g.n.toNat:=by omega
 have eJ:0<g.n.toNat:=by omega
 have LK:∀i:Nat,bP g.n.toNat (i/g.n.toNat,i%g.n.toNat)=i:=fun i=>Nat.div_add_mod i g.n.toNat;have LL:∀i:Nat,i<g.n.toNat*g.n.toNat->i/g.n.toNat<g.n.toNat/\i%g.n.toNat<g.n.toNat:=fun i hi=>⟨Nat.div_lt_of_lt_mul hi,Nat.mod_lt _ eJ⟩;have hdiv:∀i:Nat,i<g.n.toNat*g.n.toNat->IntKind.wrap .i64 (Int.tdiv (i:Int) g.n)=((i/g.n.toNat:Nat):Int):=fun i hi=>by
  have e1:Int.tdiv (i:Int) g.n=((i/g.n.toNat:Nat):Int):=by
   conv=>lhs;rw[hn]
   rfl
  have h0:=(LL i hi).1;rw[e1];generalize i/g.n.toNat=a at h0 ⊢;rw[a7 (by omega) (by omega)]
 have xp:∀i:Nat,Int.tmod (i:Int) g.n=((i%g.n.toNat:Nat):Int):=fun i=>by
  conv=>lhs;rw[hn]
  rfl
 have hmul:∀a b:Nat,a<g.n.toNat->b<g.n.toNat->IntKind.wrap .i64 (IntKind.wrap .i64 (((a:Nat):Int)*g.n)+((b:Nat):Int))=((bP g.n.toNat (a,b):Nat):Int):=fun a b ha hb=>by
  have h1:=dy (n:=g.n.toNat) (p:=(a,b)) ha hb;unfold bP at h1 ⊢;simp only at h1 ⊢;have h2:((a:Nat):Int)*g.n=((g.n.toNat*a:Nat):Int):=by rw[Int.natCast_mul,<-hn,Int.mul_comm]
  rw[h2,a7 (n:=((g.n.toNat*a:Nat):Int)) (by omega) (by omega),a7 (by omega) (by omega)];rfl
 refine (St.refl h).aj fun cB hs=>?_;refine⟨_,_,_,_,_,_,_,_,hs.at 0 rfl (o:=0) (n:=8) rfl,?_⟩;refine hs.aj fun LY hs=>?_;refine hs.put 0 rfl (o:=0) (vs:=g.cs) rfl (show 8<=8 by decide) fun rX hs=>?_;refine⟨rs,hs.rd 1 rfl (i:=13) rfl,⟨by omega,by omega,by omega⟩,?_⟩;refine hs.aj fun J5 hs=>?_;rw[GW,hrN] at hs;rw[hrN];have hs:St h J5 (Rm rX.size cB.size h.size g (j9 g role kind ev en ar rs ms) (List.replicate (g.n.toNat*g.n.toNat) (0:Int))):=hs;refine⟨fun x h' μ=>∃(i:Nat) (D:List Int),x=(i:Int)/\μ=g.n.toNat*g.n.toNat-i/\i<=g.n.toNat*g.n.toNat/\St h h' (Rm rX.size cB.size h.size g (j9 g role kind ev en ar rs ms) D)/\D.length=g.n.toNat*g.n.toNat/\∀k,k<i->D[k]?=some (Pg g role kind k),⟨_,0,_,rfl,rfl,Nat.zero_le _,hs,Yg,fun k hk=>by omega⟩,?_⟩;clear hs;rintro-_ N3 μ ⟨i,D,rfl,rfl,hi,hs,Ta,hD⟩;refine aM (fun c=>?_) (fun c=>?_)
 .have Fo:i<g.n.toNat*g.n.toNat:=by omega
  have e0:0+Int.toNat (i:Int)*1=i:=by omega
  refine⟨⟨by omega,by omega⟩,?_⟩;rw[e0];have yD:=LL i Fo;have next:∀D' h',D'.length=g.n.toNat*g.n.toNat->(∀k,k<i->D'[k]?=D[k]?)->D'[i]?=some (Pg g role kind i)->St h h' (Rm rX.size cB.size h.size g (j9 g role kind ev en ar rs ms) D')->∃m2,m2<g.n.toNat*g.n.toNat-i/\∃(i':Nat) (D':List Int),IntKind.wrap .i64 ((i:Int)+1)=(i':Int)/\m2=g.n.toNat*g.n.toNat-i'/\i'<=g.n.toNat*g.n.toNat/\St h h' (Rm rX.size cB.size h.size g (j9 g role kind ev en ar rs ms) D')/\D'.length=g.n.toNat*g.n.toNat/\∀k,k<i'->D'[k]?=some (Pg g role kind k):=fun D' h' h1 h2 h3 h4=>
   ⟨_,(show g.n.toNat*g.n.toNat-(i+1)<g.n.toNat*g.n.toNat-i by omega),i+1,D',by rw[a7 (by omega) (by omega)];omega,rfl,by omega,h4,h1,fun k hk=>by
    by_cases e:k=i
    .rw[e,h3]
    .rw[h2 k (by omega),hD k (by omega)]⟩
  refine hs.put 0 rfl (o:=i) (vs:=[.int .i64 1073741824]) rfl (by rw[Yc,Yv];omega) fun oq hs=>?_;rw[bw (Value.int .i64) (by omega)] at hs;obtain⟨bv,Xb,S7⟩:=hP.r.b (i/g.n.toNat,i%g.n.toNat) yD.1 yD.2;rw[LK] at Xb;refine (hM.rb.ext hs.ext).aA (by omega) (by omega) fun YX VR d gd u=>?_;replace gd:BL[i]?=some d:=gd;rw[Xb] at gd;cases gd;refine⟨_,u.nth 0 rfl,aa (fun c2=>?_) (fun c2=>?_)⟩
  .refine⟨_,_,_,_,_,_,_,_,_,_,_,_,_,_,_,hs.at 2 rfl (o:=0) (n:=15) rfl,g.n,hs.rd 1 rfl (i:=3) rfl,by omega,g.n,hs.rd 1 rfl (i:=3) rfl,by omega,?_⟩;rw[hdiv i Fo,xp];refine (Gq g role kind ev en ar rs ms E B MS BL MV (i/g.n.toNat,i%g.n.toNat) oq (hg.ext hs.ext) hV (hM.ext hs.ext) hP yD.1 yD.2 hk).mono ?_;rintro _ uT ⟨rfl,X⟩;have hs:=hs.step X;refine⟨_,rfl,⟨by omega,by omega⟩,?_⟩;refine hs.put 0 rfl (o:=i) (vs:=[.int .i64 (oO g role kind (i/g.n.toNat,i%g.n.toNat))]) rfl (by rw[Yc,jR,Yv];omega) fun N2 hs=>?_;rw[bw (Value.int .i64) (by rw[jR];omega)] at hs;refine next _ N2 (by rw[jR,jR,Ta]) (fun k hk=>by rw[Yy (by omega),Yy (by omega)]) ?_ hs;rw[Yq (by rw[jR];omega)];unfold Pg;rw[if_pos (S7.1 c2)]
  .refine next _ oq (by rw[jR,Ta]) (fun k hk=>by rw[Yy (by omega)]) ?_ hs;rw[Yq (by omega)];unfold Pg;rw[if_neg (cz S7 c2)];rfl
 .have cO:i=g.n.toNat*g.n.toNat:=by omega
  subst cO;have hB:=JJ.init hc Ta hD;refine⟨fun ch h' μ=>∃D,μ=2*uc D+(if ch=true then 1 else 0)/\St h h' (Rm rX.size cB.size h.size g (j9 g role kind ev en ar rs ms) D)/\JJ g role kind D/\(ch=false->aaT g role D),⟨_,D,rfl,hs,hB,fun h9=>by cases h9⟩,?_⟩;clear hs hB hD Ta;rintro-ch h65 μ ⟨D,rfl,hs,hB,hF⟩;refine aa (fun c2=>?_) (fun c2=>?_)
  .subst c2;refine⟨fun ch2 x h' μ=>∃(r:Nat) (D':List Int),x=(r:Int)-1/\r=μ/\r<=g.n.toNat*g.n.toNat/\St h h' (Rm rX.size cB.size h.size g (j9 g role kind ev en ar rs ms) D')/\JJ g role kind D'/\Sj MV g.n.toNat D D' ch2 (fun j _=>r<=j),⟨_,g.n.toNat*g.n.toNat,D,by rw[a7 (by omega) (by omega)];omega,rfl,bc _,hs,hB,⟨(fun h9=>by cases h9),fun _=>⟨rfl,fun j t q m hq _ hj=>by have:=(Ya.1 hq).1;rw[hP.r.ml] at this;omega⟩⟩⟩,?_⟩;clear hs hB hF;rintro-ch2 _ LW μ ⟨r,D',rfl,rfl,hr,hs,hB,hR⟩;refine aM (fun c3=>?_) (fun c3=>?_)
   .obtain⟨i,rfl⟩:∃i,r=i+1:=⟨r-1,by omega⟩;rw[show ((i+1:Nat):Int)-1=(i:Int) by omega];have Fo:i<g.n.toNat*g.n.toNat:=by omega
    have yD:=LL i Fo;obtain⟨q,hq,mE,Hn⟩:=hP.r.m (i/g.n.toNat,i%g.n.toNat) yD.1 yD.2;rw[LK] at hq;have hqm:=Yb hq;have rq:=hM.mm q hqm;have nz:=rq.ln;have acQ:∀ {t:Nat} {m:aP},q.2[t]?=some m->dC g role (i/g.n.toNat,i%g.n.toNat)/\m∈bB g role (i/g.n.toNat,i%g.n.toNat):=fun {t m} hm=>by
     by_cases hp:dC g role (i/g.n.toNat,i%g.n.toNat)
     .refine⟨hp,?_⟩;rw[mE hp] at hm;exact Yb hm
     .rw[Hn hp] at hm;cases hm
    have uO:q.2.length<=160800:=by
     by_cases hp:dC g role (i/g.n.toNat,i%g.n.toNat)
     .rw[mE hp];exact fC P9
     .rw[Hn hp];exact Nat.zero_le _
    refine⟨ms,hs.rd 2 rfl (i:=14) rfl,kD (hM.rm.ext hs.ext) hq fun b73 o74 u=>⟨q.1,u,?_⟩⟩;refine⟨fun ch3 x h' μ=>∃(k:Nat) (D2:List Int),x=(k:Int)/\μ=q.1.n-k/\k<=q.1.n/\St h h' (Rm rX.size cB.size h.size g (j9 g role kind ev en ar rs ms) D2)/\JJ g role kind D2/\Sj MV g.n.toNat D D2 ch3 (fun j t=>i+1<=j\/(j=i/\t<k)),⟨_,0,D',rfl,rfl,Nat.zero_le _,hs,hB,hR.bW fun j t q' m _ _ hp=>.inl (by omega)⟩,?_⟩;clear hs hB hR;rintro-ch3 _ zS μ ⟨k,D2,rfl,rfl,iC,hs,hB,hR⟩;refine aM (fun c4=>?_) (fun c4=>?_)
    .obtain⟨m,gm⟩:=get_some (l:=q.2) (i:=k) (by omega);obtain⟨Ec,mF⟩:=acQ gm;have pL:=ie hV (p:=(i/g.n.toNat,i%g.n.toNat)) ⟨by simp only;omega,by simp only;omega⟩ mF;have xu:(bj m).1<g.n.toNat:=by omega
     have il:(bj m).2<g.n.toNat:=by omega
     have uQ:IntKind.wrap .i64 (IntKind.wrap .i64 (m.s*g.n)+m.t)=((bP g.n.toNat (bj m):Nat):Int):=by
      have:=hmul (bj m).1 (bj m).2 xu il;rw[pL.2.2.1,pL.2.2.2] at this;exact this
     have hpq:=dy (n:=g.n.toNat) (p:=bj m) xu il;have e0:0+Int.toNat ((bP g.n.toNat (bj m):Nat):Int)*1=bP g.n.toNat (bj m):=by omega
     have e1:0+Int.toNat (i:Int)*1=i:=by omega
     obtain⟨w,hw,w0,w1,_⟩:=hB.v (bj m) xu il;obtain⟨v,hv,v0,v1,_⟩:=hB.v (i/g.n.toNat,i%g.n.toNat) yD.1 yD.2;have vG:=hv;rw[LK] at hv;have Wu:=bM m;unfold aH at w1 v1;have tv:IntKind.wrap .i64 ((k:Int)+1)=((k+1:Nat):Int):=by rw[a7 (by omega) (by omega)];omega
     have rd:∀ {h':Heap} {K':Nat->Nat->Prop},Ext h h'->(∀b o,aZ h' ⟨b,o+Int.toNat (k:Int)*2,none⟩ (jc m)->K' b o)->NB q.1.a fun b o=>(0<=(k:Int)/\(k:Int)<(q.1.n:Nat))/\K' b o:=fun {h' K'} X hK'=>by
      refine (rq.ext X).aA (by omega) (by omega) fun b o d gd t=>?_;replace gd:q.2[k]?=some d:=gd;rw[gm] at gd;cases gd;exact hK' b o t
     refine⟨_,_,_,_,_,_,_,_,hs.at 1 rfl (o:=0) (n:=8) rfl,g.n,hs.rd 1 rfl (i:=3) rfl,by omega,g.n,hs.rd 1 rfl (i:=3) rfl,by omega,rd hs.ext fun b92 o93 t=>⟨_,_,t,?_⟩⟩;rw[hdiv i Fo,xp];refine (jO g role (i/g.n.toNat) (i%g.n.toNat) m zS (hg.ext hs.ext) mF).mono ?_;rintro _ Xo ⟨rfl,X⟩;have hs:=hs.step X;refine⟨_,_,rfl,g.n,hs.rd 1 rfl (i:=3) rfl,?_⟩;rw[uQ];refine⟨⟨by omega,by omega⟩,?_⟩;rw[e0];refine⟨w,hs.rd 0 rfl (by rw[Yd,hw];rfl),rd hs.ext fun aix agw t2=>⟨_,_,t2,?_⟩⟩;refine (Cm m.x m.y Xo).mono ?_;rintro _ ahX ⟨rfl,X2⟩;have hs:=hs.step X2;rw[<-wE];refine⟨_,rfl,X2.sm,⟨by omega,by omega⟩,?_⟩;rw[e1];refine⟨v,hs.rd 0 rfl (by rw[Yd,hv];rfl),?_⟩;rw[a7 (n:=w+((bO m:Nat):Int)) (by omega) (by omega)];refine aM (fun c5=>?_) (fun c5=>?_)
     .refine⟨⟨by omega,by omega⟩,?_⟩;have hD2:=hB.ln;refine hs.put 0 rfl (o:=i) (vs:=[.int .i64 (w+(bO m:Nat))]) rfl (by rw[Yc,Yv];omega) fun ahW hs=>?_;rw[bw (Value.int .i64) (by omega)] at hs;have Qc:=hB.set hV Ec mF vG hw c5;rw[LK] at Qc;refine⟨_,(show q.1.n-(k+1)<q.1.n-k by omega),k+1,_,tv,rfl,by omega,hs,Qc,⟨fun _=>?_,fun h9=>by cases h9⟩⟩;have:=vW hv (v':=w+(bO m:Nat)) (by omega) c5;have:=hR.le;omega
     .refine⟨_,(show q.1.n-(k+1)<q.1.n-k by omega),k+1,D2,tv,rfl,by omega,hs,hB,hR.bW fun j t q' m' pK jX hp=>?_⟩;by_cases e:j=i/\t=k
      .obtain⟨rfl,rfl⟩:=e;rw[hq] at pK;cases pK;rw[gm] at jX;cases jX;refine .inr fun v' w' NA Ea=>?_;rw[hv] at NA;cases NA;rw[hw] at Ea;cases Ea;omega
      .exact .inl (by omega)
    .refine⟨_,(show i<i+1 by omega),i,D2,by rw[a7 (by omega) (by omega)],rfl,by omega,hs,hB,hR.bW fun j t q' m' pK jX hp=>.inl ?_⟩;by_cases e:j=i
     .subst e;rw[hq] at pK;cases pK;have:=(Ya.1 jX).1;exact .inr ⟨rfl,by omega⟩
     .exact .inl (by omega)
   .have Pu:r=0:=by omega
    subst Pu;refine⟨_,?_,D',rfl,hs,hB,fun c4=>?_⟩
    .cases ch2 with
     | true=>have:=hR.1 rfl;simp;omega
     | false=>rw[(hR.2 rfl).1];simp
    .obtain⟨h1,h2⟩:=hR.2 c4;intro p hp m hm v w hv hw;have de:=hp.nt hV;obtain⟨q,hq,mE,_⟩:=hP.r.m p de.1 de.2;obtain⟨t,ht⟩:=Yf.1 hm;rw[h1] at hv hw;exact h2 (bP g.n.toNat p) t q m hq (by rw[mE hp];exact ht) (Nat.zero_le _) v w hv hw
  .have hs:=hs.dG (g.n.toNat*g.n.toNat) 1 (D.map aO) (iw (Value.int .i64) D) (cA _) (by rw[Yc,hB.ln]) (by simp only[maxLen];omega);refine⟨rX.size,D,rfl,hs.gK (L':=[_]) (R:=[_,_]) (List.Perm.refl _),hB.ln,fun p hp=>hB.fin hV (fun p' _ c kf=>?_) (hF c2) hp⟩;unfold br at kf;obtain⟨c0,fZ,rfl⟩:=sL.1 kf;have:=hc p' c0 fZ;omega
def vQ(wb ob gb rb h0 N:Nat)(g:Gl)(pc:List Value)(D:List Int)(w:Wt)(F S:List Ac):List It:=
 [.ae wb w.cs 39,.sl w.f 65 3 (F.map Ac.cs),.sl w.s 65 3 (S.map Ac.cs),.sl ⟨some ⟨ob,0,none⟩,N,N⟩ 3 1 (D.map aO),.ae gb g.cs 27,.ae rb cq.cs 39,.ae h0 pc 118]
def RV(h h':Heap)(W:WS)(b:Bool)(v:Value):Prop:=∃w:Wt,w.k=W.k/\w.r=W.r/\w.e=W.e/\w.o=W.o/\v=.tuple ⟨[.agg ⟨w.cs⟩,.bool b]⟩/\∃L,St h h' (.sl w.f 65 3 (W.F.map Ac.cs) :: .sl w.s 65 3 (W.S.map Ac.cs)::L)
theorem Gs{h hX kg cB:Heap}{ob gb h0 N:Nat}{g:Gl}{pc:List Value}{D:List Int}{w:Wt}{F S:List Ac}{K:Value->Heap->Prop}(hs:St h hX (vQ kg.size ob gb cB.size h0 N g pc D w F S))
  (hK:∀h',RV h h' ⟨w.k,w.r,F,S,w.e,w.o⟩ true (.tuple ⟨[.agg ⟨w.cs⟩,.bool true]⟩)->K (.tuple ⟨[.agg ⟨w.cs⟩,.bool true]⟩) h'):IJ hX kg cB K:=by
 unfold IJ;refine Ah hs 0 5 (w:=w) (w0:=cq) rfl rfl fun h' hs=>?_;refine oL (w:=w) (Q:=fun cs=>K (.tuple ⟨[.agg ⟨cs⟩,.bool true]⟩) h') (hs.at 5 rfl (o:=0) (n:=14) rfl) ?_;exact hK h' ⟨w,rfl,rfl,rfl,rfl,rfl,_,hs.drop 1⟩
theorem OC{h hX kg iQ:Heap}{ob rb N:Nat}{g:Gl}{role kind:Int}{pc:List Value}{D:List Int}{f s:Sl}{ms:List aP}{p:Pr}{q:Sl}{M:List aP}{k:Nat}{m:aP}{μ:Nat}{I:Int->Int->Heap->Nat->Prop}
  (hs:St h hX (vQ kg.size ob iQ.size rb h.size N g pc D ⟨kind,role,f,s,bp,bp⟩ (facts g ms) (cx g ms))) (hg:GI h g) (hq:Rw h 2 q (M.map jc)) (hm:M[k]?=some m) (mF:m∈bq g.es role p.1 p.2) (hl:ms.length<=8388608)
  (hI:∀h' f' s',St h h' (vQ kg.size ob iQ.size rb h.size N g pc D ⟨kind,role,f',s',bp,bp⟩ (facts g (ms++[m])) (cx g (ms++[m])))->∃m2,m2<μ/\I m.s m.t h' m2) :
  II q (k:Nat) hX kg iQ (p.1:Nat) (p.2:Nat) μ I:=by
 unfold II;have fO:=nF g ms;have n9:=sU g ms;have nz:=hq.ln;have qT:=(Ya.1 hm).1;have ke:=hg.e.ln;obtain⟨edx,edy⟩:=BC mF;have rd:∀ {h':Heap} {K':Nat->Nat->Prop},Ext h h'->(∀b o,aZ h' ⟨b,o+Int.toNat (k:Int)*2,none⟩ (jc m)->K' b o)->NB q.a fun b o=>(0<=(k:Int)/\(k:Int)<(q.n:Nat))/\K' b o:=fun {h' K'} X hK'=>by
  refine (hq.ext X).aA (by omega) (by omega) fun b o d gd t=>?_;replace gd:M[k]?=some d:=gd;rw[hm] at gd;cases gd;exact hK' b o t
 have fin:∀ {h':Heap} {f' s':Sl},St h h' (vQ kg.size ob iQ.size rb h.size N g pc D ⟨kind,role,f',s',bp,bp⟩ (facts g ms++rZ g m.x) (cx g ms++rZ g m.y))->MK h' iQ q (k:Nat) (p.1:Nat) (p.2:Nat) μ I:=fun {h' f' s'} hs=>by
  unfold MK;refine⟨_,_,_,_,_,_,_,_,hs.at 4 rfl (o:=0) (n:=8) rfl,rd hs.ext fun b o t=>⟨_,_,t,?_⟩⟩;refine (jO g role p.1 p.2 m h' (hg.ext hs.ext) mF).mono ?_;rintro _ Xy ⟨rfl,X⟩;have hs:=hs.step X;refine⟨_,_,rfl,hI Xy f' s' ?_⟩;rw[rj,qh];exact hs
 refine⟨fun h'=>∃f',St h h' (vQ kg.size ob iQ.size rb h.size N g pc D ⟨kind,role,f',s,bp,bp⟩ (facts g ms++rZ g m.x) (cx g ms)),?_,?_⟩
 .refine rd hs.ext fun b o t=>⟨_,t.nth 0 rfl,aM (fun c=>?_) (fun c=>?_)⟩
  .have BN:=edx c;refine⟨f,hs.rd 0 rfl (i:=2) rfl,g.he,hs.rd 4 rfl (i:=6) rfl,rd hs.ext fun b2 o2 t2=>⟨_,t2.nth 0 rfl,?_⟩⟩;refine (hg.e.rw.ext hs.ext).aA (by omega) (by omega) fun Rq OZ x gx u=>?_;replace gx:g.es[m.x.toNat]?=some x:=gx;have uS:rZ g m.x=[x.act]:=by unfold rZ;rw[if_pos c,aL gx]
   refine⟨x.a,x.b,x.l,u.sub 1 3 rfl,fun uV e2=>⟨(show Ext hX uV by rw[e2];exact Ext.push _ _).sm,?_⟩⟩;refine hs.rH 0 1 rfl rfl eM (x:=x.act) e2 rfl rfl (by omega) (by decide) 2 (by show 2<14;decide) (by decide) fun s' h' hs=>?_;refine⟨s',?_⟩;rw[uS];exact hs
  .have uS:rZ g m.x=[]:=by unfold rZ;rw[if_neg c]
   refine⟨f,?_⟩;rw[uS,Yw];exact hs
 .clear hs;rintro-Qp ⟨f',hs⟩;refine rd hs.ext fun b o t=>⟨_,t.nth 1 rfl,aM (fun c=>?_) (fun c=>?_)⟩
  .have hyl:=edy c;refine⟨s,hs.rd 0 rfl (i:=3) rfl,g.he,hs.rd 4 rfl (i:=6) rfl,rd hs.ext fun b2 o2 t2=>⟨_,t2.nth 1 rfl,?_⟩⟩;refine (hg.e.rw.ext hs.ext).aA (by omega) (by omega) fun Rq OZ x gx u=>?_;replace gx:g.es[m.y.toNat]?=some x:=gx;have uS:rZ g m.y=[x.act]:=by unfold rZ;rw[if_pos c,aL gx]
   refine⟨x.a,x.b,x.l,u.sub 1 3 rfl,fun uV e2=>⟨(show Ext Qp uV by rw[e2];exact Ext.push _ _).sm,?_⟩⟩;refine hs.rH 0 2 rfl rfl eM (x:=x.act) e2 rfl rfl (by omega) (by decide) 3 (by show 3<14;decide) (by decide) fun s' h' hs=>?_;refine fin (f':=f') (s':=s') ?_;rw[uS];exact hs
  .have uS:rZ g m.y=[]:=by unfold rZ;rw[if_neg c]
   refine fin (f':=f') (s':=s) ?_;rw[uS,Yw];exact hs
theorem jS{a:Addr}{al:List Addr}{h h':Heap}(h1:Sm [a] h h')(h2:Sm al h h'):Sm (a::al) h h':=fun x hx=>by
 rcases Yr.1 hx with rfl | hx
 .exact h1 _ (Ye.2 rfl)
 .exact h2 x hx
theorem N7{h hX kg iQ cB ht:Heap}{ob N:Nat}{g:Gl}{role:Int}{ev en ar rs ms:Sl}{D:List Int}{f s:Sl}{F S:List Ac}{a:gF}{K:Value->Heap->Prop}
  (hs:St h hX (.ae ht.size [.int .i64 0,.int .i64 0,.int .i64 0,.slice none 0 0] 213::vQ kg.size ob iQ.size cB.size h.size N g (j9 g role 4 ev en ar rs ms) D ⟨4,role,f,s,bp,bp⟩ F S)) (hg:GI h g) {x:Ed} (hx:g.es[a.1]?=some x) (hv:aW role x=some ⟨false,x.a,x.l⟩) (hp:RL h 3 a.2.2 Ac.cs a.2.1.path) (hF:F.length<=8388608) (hP:a.2.1.path.length<=1000000)
  (hK:∀w h',RV h h' ⟨4,role,F++[x.act]++a.2.1.path,S,aI role a.2.1.m.ev,aI role ⟨false,x.a,x.l⟩⟩ true (.tuple ⟨[.agg ⟨Wt.cs w⟩,.bool true]⟩)->K (.tuple ⟨[.agg ⟨Wt.cs w⟩,.bool true]⟩) h') :
  ML hX ht (a.1:Nat) a.2.1.m.p a.2.1.m.l a.2.2 h iQ kg cB K:=by
 unfold ML;have ke:=hg.e.ln;have BN:=(Ya.1 hx).1;refine hs.put 0 rfl (o:=0) (vs:=rC a) rfl (show 4<=4 by decide) fun adL hs=>?_;refine⟨role,hs.rd 7 rfl (i:=8) rfl,_,_,hs.at 0 rfl (o:=1) (n:=2) rfl,g.he,hs.rd 5 rfl (i:=6) rfl,_,hs.rd 0 rfl (i:=0) rfl,?_⟩;have JO:∀ {h':Heap} {K':Nat->Nat->Prop},Ext h h'->(∀b o,aZ h' ⟨b,o+Int.toNat ((a.1:Nat):Int)*6,none⟩ x.cs->b<h.size->K' b o)->NB g.he.a fun b o=>(0<=((a.1:Nat):Int)/\((a.1:Nat):Int)<(g.he.n:Nat))/\K' b o:=fun {h' K'} X hK'=>by
  refine hg.e.rw.aA (by omega) (by omega) fun b o d gd u=>?_;replace gd:g.es[a.1]?=some d:=gd;rw[hx] at gd;cases gd;exact hK' b o (mr X u) (eu (u.nth 0 rfl))
 refine JO hs.ext fun aic agb u hb=>⟨_,_,_,_,_,_,u,role,hs.rd 7 rfl (i:=8) rfl,?_⟩;refine (qp role a.2.1.m adL).mono ?_;rintro _ adK ⟨rfl,X1⟩;have hs:=hs.step X1;refine⟨_,_,_,_,⟨none,0,0⟩,rfl,X1.sm,?_⟩;refine (pM x role _ hv adK).mono ?_;rintro _ ahw ⟨rfl,X2⟩;have hs:=hs.step X2;refine⟨_,_,_,_,⟨none,0,0⟩,rfl,X2.sm,?_⟩;refine hs.put 1 rfl (o:=4) (vs:=aC role a.2.1.m.ev) rfl (show 4+5<=14 by decide) fun ahv bD=>?_;refine⟨jS (hs.jj bD 7 7 8 rfl rfl) (jS (aY hs bD (aF hb bg)) (jS (hs.jj bD 0 0 0 rfl rfl) (hs.jj bD 5 5 6 rfl rfl))),?_⟩;refine bD.put 1 rfl (o:=9) (vs:=aC role ⟨false,x.a,x.l⟩) rfl (show 9+5<=14 by decide) fun Qh hs=>?_;have hs:St h Qh (.ae ht.size (rC a) 213::vQ kg.size ob iQ.size cB.size h.size N g (j9 g role 4 ev en ar rs ms) D ⟨4,role,f,s,aI role a.2.1.m.ev,aI role ⟨false,x.a,x.l⟩⟩ F S):=hs;refine⟨f,hs.rd 1 rfl (i:=2) rfl,g.he,hs.rd 5 rfl (i:=6) rfl,_,hs.rd 0 rfl (i:=0) rfl,JO hs.ext fun aib aga u2 _=>⟨_,_,_,u2.sub 1 3 rfl,a.2.2,hs.rd 0 rfl (i:=3) rfl,fun adI e=>?_⟩⟩;have BZ:=(hs.len 2 (s:=f) (e:=65) (n:=3) rfl (by decide)).1;rw[Yc] at BZ;refine⟨(show Ext Qh adI by rw[e];exact Ext.push _ _).sm,?_⟩;have fN:=hs.dj e;have hpn:=hp.ln;refine fN.appended 3 (s:=f) (rows:=F.map Ac.cs) rfl eM (m:=1) (news:=[x.act.cs]) (by rw[List.flatten_singleton];exact fN.at 0 rfl (o:=0) (n:=3) rfl) rfl (fun r hr=>by rw[Ye.1 hr];rfl) rfl (by omega) (by simp only[maxLen];omega) fun acq adH agD ik=>?_;have ik:St h adH (.ae Qh.size x.act.cs 65 :: .ae ht.size (rC a) 213 :: .ae kg.size (Wt.cs ⟨4,role,f,s,aI role a.2.1.m.ev,aI role ⟨false,x.a,x.l⟩⟩) 39 :: .sl acq 65 3 (F.map Ac.cs++[x.act.cs])::_):=ik;refine⟨fN.jj ik 1 1 3 rfl rfl,?_⟩;refine ik.dZ 3 (rows:=F.map Ac.cs++[x.act.cs]) (news:=a.2.1.path.map Ac.cs) rfl eM (y:=a.2.2) (hp.rw.ext ik.ext) (Av _) hp.nil (eB (fun _=>rfl) _) (by omega) (by simp only[maxLen];omega) fun KE ahu agC Hg=>?_;refine Hg.put 2 rfl (o:=2) (vs:=[.slice KE.a KE.n KE.c]) rfl (show 2+1<=14 by decide) fun adG hs=>?_;have hs:St h adG (vQ kg.size ob iQ.size cB.size h.size N g (j9 g role 4 ev en ar rs ms) D ⟨4,role,KE,s,aI role a.2.1.m.ev,aI role ⟨false,x.a,x.l⟩⟩ (F++[x.act]++a.2.1.path) S):=by
  have hs:=hs.drop 2;unfold vQ;rw[Ym,Ym];exact hs
 exact Gs hs fun h' hw=>hK _ h' hw
theorem Kh{α:Type}{a b c d e f i:α}:([a,b,c,d,e,i,f]:List α).Perm [c,a,b,f,d,e,i]:=
 ((List.perm_append_comm (l₁:=[a,b]) (l₂:=[c])).append_right [d,e,i,f]).trans (List.Perm.append_left [c,a,b] (List.perm_append_comm (l₁:=[d,e,i]) (l₂:=[f])))
theorem Gh(ms:List aP):ms.length<=(ms.map bO).sum:=by
 induction ms with
 | nil=>exact Nat.zero_le _
 | cons m ms ih=>have:=bM m;rw[gJ,List.sum_cons,j5];omega
def Y6(g:Gl)(role kind:Int)(h:Heap)(v:Value)(h':Heap):Prop:=∃W n,kq g role kind W n/\RV h h' W (decide (n<aH)) v
theorem Ik{g:Gl}{role:Int}{s:Nat}{y:fT}(hV:af g)(hy:y∈du g role s):∃(i:Nat) (x:Ed),y.e=(i:Int)/\g.es[i]?=some x/\aW role x=some ⟨false,x.a,x.l⟩:=by
 unfold du at hy;obtain⟨i,hi,hy⟩:=List.mem_flatMap.1 hy;obtain⟨x,hx,_⟩:=az.1 hi;unfold iy at hy;split at hy
 .rename_i hb;rw[aL hx] at hb;unfold tP at hy;obtain⟨m,_,rfl⟩:=Yp.1 hy;refine⟨i,x,rfl,hx,?_⟩;have hd:=hV.num.e x (Yb hx);unfold aW;rw[if_neg (fun e=>?_),if_pos hb.symm];unfold gV at hd;omega
 .cases hy
theorem Dd(g:Gl)(role kind:Int)(ev en ar rs ms:Sl)(E:List (Sl × List Ev))(B:List Bool)(MS:List (Sl × List gF))(BL:List Bool)(MV:List (Sl × List aP))(h:Heap)(hg:GI h g)(hV:af g)(hM:J9 h g role ev en ar rs ms E B MS BL MV)(hP:Ts g role E B MS BL MV)(hcb:∀p c,bR g role kind p=some c->0<=c/\c<=1000001)(hk:kind=1\/kind=3\/kind=4):
  Fn Pz 62 #[.agg ⟨j9 g role kind ev en ar rs ms⟩] h (Y6 g role kind h):=by
 apply abz (bs g.nm) g.hr g.hd g.n g.s g.e g.he g.ht role kind ev en ar rs ms;unfold W62 EO;have hN:=hV.num.n;have P9:=hV.num.m;have S9:g.n.toNat*g.n.toNat<=200*200:=Nat.mul_le_mul (by omega) (by omega);have hmul:∀p:Pr,p.1<g.n.toNat->p.2<g.n.toNat->IntKind.wrap .i64 (IntKind.wrap .i64 (((p.1:Nat):Int)*g.n)+((p.2:Nat):Int))=((bP g.n.toNat p:Nat):Int):=fun p ha hb=>by
  have h1:=dy ha hb;unfold bP at h1 ⊢;have h2:((p.1:Nat):Int)*g.n=((g.n.toNat*p.1:Nat):Int):=by rw[Int.natCast_mul,show ((g.n.toNat:Nat):Int)=g.n by omega,Int.mul_comm]
  rw[h2,a7 (n:=((g.n.toNat*p.1:Nat):Int)) (by omega) (by omega),a7 (by omega) (by omega)];rfl
 refine (St.refl h).aj fun cB hs=>?_;refine hs.aj fun iQ hs=>?_;refine⟨_,_,_,_,_,_,_,_,hs.at 1 rfl (o:=0) (n:=8) rfl,?_⟩;refine hs.aj fun rX hs=>?_;refine hs.put 0 rfl (o:=0) (vs:=g.cs) rfl (show 8<=8 by decide) fun zW hs=>?_;refine⟨_,_,_,_,_,_,_,_,_,_,_,_,_,_,_,hs.at 2 rfl (o:=0) (n:=15) rfl,?_⟩;refine (MB g role kind ev en ar rs ms E B MS BL MV zW (hg.ext hs.ext) hV (hM.ext hs.ext) hP hcb hk).mono ?_;rintro _ kg ⟨ob,D,rfl,hsD,Ta,hD⟩;have hs:=hs.join hsD;have hs:St h kg [.ae iQ.size g.cs 27,.ae cB.size cq.cs 39,.ae h.size (j9 g role kind ev en ar rs ms) 118,.sl ⟨some ⟨ob,0,none⟩,g.n.toNat*g.n.toNat,g.n.toNat*g.n.toNat⟩ 3 1 (D.map aO)]:=hs;have rdD:∀ {h':Heap} {L:List It} {k:Nat} {p:Pr} {K':Nat->Nat->Prop},St h h' L->L[k]?=some (.sl ⟨some ⟨ob,0,none⟩,g.n.toNat*g.n.toNat,g.n.toNat*g.n.toNat⟩ 3 1 (D.map aO))->dC g role p->(∀b o,hc h' ⟨b,o+Int.toNat ((bP g.n.toNat p:Nat):Int)*1,none⟩=some (.int .i64 (dL (bB g role) (br g role kind) p))->K' b o)->NB (Sl.a ⟨some ⟨ob,0,none⟩,g.n.toNat*g.n.toNat,g.n.toNat*g.n.toNat⟩) fun b o=>(0<=((bP g.n.toNat p:Nat):Int)/\((bP g.n.toNat p:Nat):Int)<(Sl.n ⟨some ⟨ob,0,none⟩,g.n.toNat*g.n.toNat,g.n.toNat*g.n.toNat⟩:Nat))/\K' b o:=fun {h' L k p K'} bI hL hp hK'=>by
  have de:=hp.nt hV;refine (bI.rows k (s:=⟨some ⟨ob,0,none⟩,g.n.toNat*g.n.toNat,g.n.toNat*g.n.toNat⟩) (cs:=aO) (l:=D) hL (by decide)).aA (Int.natCast_nonneg _) (Int.ofNat_lt.2 (dy de.1 de.2)) fun b o d gd u=>?_;replace gd:D[bP g.n.toNat p]?=some d:=gd;rw[hD p hp] at gd;cases gd;exact hK' b o (u.nth 0 rfl)
 have kY:dC g role (eP g):=.start;have n9:=kY.nt hV;have hgs:g.s=(((eP g).1:Nat):Int):=by show g.s=((g.s.toNat:Nat):Int);omega
 have adf:g.s=(((eP g).2:Nat):Int):=hgs;refine⟨⟨some ⟨ob,0,none⟩,g.n.toNat*g.n.toNat,g.n.toNat*g.n.toNat⟩,rfl,((eP g).1:Nat),by rw[<-hgs];exact hs.rd 0 rfl (i:=4) rfl,((eP g).2:Nat),by rw[<-adf];exact hs.rd 0 rfl (i:=4) rfl,g.n,hs.rd 0 rfl (i:=3) rfl,?_⟩;rw[hmul _ n9.1 n9.2];refine rdD hs (k:=3) rfl kY fun b49 o50 u=>⟨_,u,aM (fun c=>?_) (fun c=>?_)⟩
 .have bK:∀n,¬iR (bB g role) (br g role kind) (eP g) n:=fun n hn=>by
   rw[jo hn] at c;have:=hn.bd hV (C:=1000001) (fun p _ c kf=>by
    unfold br at kf;obtain⟨c0,fZ,rfl⟩:=sL.1 kf;have:=hcb p c0 fZ;omega) kY
   omega
  refine hs.put 1 rfl (o:=0) (vs:=cq.cs) rfl (bc 14) fun zT hs=>?_;refine oL (w:=cq) (Q:=fun cs=>Y6 g role kind h (.tuple ⟨[.agg ⟨cs⟩,.bool false]⟩) zT) (hs.at 1 rfl (o:=0) (n:=14) rfl) ?_;exact⟨oY,aH,.jL bK,cq,rfl,rfl,rfl,rfl,rfl,[],(((St.refl h).step hs.ext).bH 65 3).bH 65 3⟩
 .have hex:∃n,iR (bB g role) (br g role kind) (eP g) n:=Classical.byContradiction fun bK=>by
   rw[tM fun n hn=>bK ⟨n,hn⟩] at c;exact c (by decide)
  obtain⟨n,hl⟩:=hex;have hC:∀p,dC g role p->∀c,br g role kind p=some c->c<=1000001:=fun p _ c kf=>by
   unfold br at kf;obtain⟨c0,fZ,rfl⟩:=sL.1 kf;have:=hcb p c0 fZ;omega
  have hdL:∀q,dC g role q->0<=dL (bB g role) (br g role kind) q/\dL (bB g role) (br g role kind) q<=aH:=fun q hq=>by
   by_cases he:∃k,iR (bB g role) (br g role kind) q k
   .obtain⟨k1,PI⟩:=he;have:=PI.bd hV hC hq;rw[jo PI];unfold aH;omega
   .rw[tM fun n hn=>he ⟨n,hn⟩];decide
  have hnb:=hl.bd hV hC kY;have yE:=jo hl;refine⟨kind,hs.rd 2 rfl (i:=9) rfl,role,hs.rd 2 rfl (i:=8) rfl,?_⟩;refine hs.aj fun Qe hs=>?_;refine hs.put 0 rfl (o:=0) (vs:=Wt.cs ⟨kind,role,au,au,bp,bp⟩) rfl (bc 14) fun mG hs=>?_;have hs:St h mG (vQ kg.size ob iQ.size cB.size h.size (g.n.toNat*g.n.toNat) g (j9 g role kind ev en ar rs ms) D ⟨kind,role,au,au,bp,bp⟩ (facts g []) (cx g [])):=by
   have hs:=(hs.bH 65 3).bH 65 3;refine hs.perm ?_;exact Kh
  refine⟨fun x y h' μ=>∃(ways:List aP) (p:Pr) (f s:Sl),x=((p.1:Nat):Int)/\y=((p.2:Nat):Int)/\(dL (bB g role) (br g role kind) p).toNat=μ/\nO (bB g role) (bR g role kind) (dL (bB g role) (br g role kind)) (eP g) ways p/\St h h' (vQ kg.size ob iQ.size cB.size h.size (g.n.toNat*g.n.toNat) g (j9 g role kind ev en ar rs ms) D ⟨kind,role,f,s,bp,bp⟩ (facts g ways) (cx g ways)),⟨_,[],eP g,_,_,rfl,rfl,rfl,.nil,hs⟩,?_⟩;clear hs u;rintro-_ _ Xp μ ⟨ways,p,f,s,rfl,rfl,rfl,hG,hs⟩;have hp:=hG.prr;have de:=hp.nt hV;have hlen:=hG.len;have NL:=Gh ways;rw[yE] at hlen;obtain⟨np,hlp⟩:∃k,iR (bB g role) (br g role kind) p k:=Classical.byContradiction fun bK=>by
   rw[tM fun n hn=>bK ⟨n,hn⟩] at hlen;unfold aH at hlen;omega
  have Ej:=jo hlp;have SY:=hlp.bd hV hC hp;rw[Ej] at hlen;refine⟨_,_,_,_,_,_,_,_,_,_,_,_,_,_,_,hs.at 6 rfl (o:=0) (n:=15) rfl,g.n,hs.rd 4 rfl (i:=3) rfl,?_⟩;rw[hmul _ de.1 de.2];refine rdD hs (k:=3) rfl hp fun b93 o94 u=>⟨_,u,?_⟩;rw[Ej];refine (Gq g role kind ev en ar rs ms E B MS BL MV p Xp (hg.ext hs.ext) hV (hM.ext hs.ext) hP de.1 de.2 hk).mono ?_;rintro _ h98 ⟨rfl,X⟩;have hs:=hs.step X;refine⟨_,rfl,X.sm,eY (fun c2=>?_) (fun c2=>?_)⟩
  .have bE:bR g role kind p≠some (dL (bB g role) (br g role kind) p):=fun e=>c2 (by unfold oO;rw[e,Ej];rfl);obtain⟨k0,m0,gG,gm0⟩:∃k0 m0,(bB g role p).findIdx? (qD (dL (bB g role) (br g role kind)) p)=some k0/\(bB g role p)[k0]?=some m0:=by
    have hd:=hlp.1;cases hd with
    | base kf=>
     unfold br at kf;obtain⟨c0,fZ,e0⟩:=sL.1 kf;have:=hcb p c0 fZ;exact absurd (by rw[fZ,Ej,<-e0];congr 1;omega) bE
    | @step _ m n' hm Hx=>
     have k6:iR (bB g role) (br g role kind) (bj m) n':=⟨Hx,fun k hk=>by have:=hlp.2 _ (.step hm hk);omega⟩;have lV:qD (dL (bB g role) (br g role kind)) p m=true:=by
      unfold qD;rw[jo k6,Ej];exact decide_eq_true (by omega)
     cases cn:(bB g role p).findIdx? (qD (dL (bB g role) (br g role kind)) p) with
     | none=>rw[List.findIdx?_eq_none_iff] at cn;rw[cn m hm] at lV;cases lV
     | some k=>
      obtain⟨h1,_⟩:=List.findIdx?_eq_some_iff_getElem.1 cn;exact⟨k,_,rfl,Yi h1⟩
   have PD:m0∈bB g role p:=Yb gm0;have Wz:(bO m0:Int)+dL (bB g role) (br g role kind) (bj m0)=np:=by
    obtain⟨h1,h2,_⟩:=List.findIdx?_eq_some_iff_getElem.1 gG;rw[(Ya.1 gm0).2] at h2;unfold qD at h2;rw[Ej] at h2;exact cm h2
   obtain⟨q,hq,mE,_⟩:=hP.r.m p de.1 de.2;have fY:q.2=bB g role p:=mE hp;have rq:=hM.mm q (Yb hq);rw[fY] at rq;have nz:=rq.ln;have uO:(bB g role p).length<=160800:=fC P9;have tc:∀h2 f' s',St h h2 (vQ kg.size ob iQ.size cB.size h.size (g.n.toNat*g.n.toNat) g (j9 g role kind ev en ar rs ms) D ⟨kind,role,f',s',bp,bp⟩ (facts g (ways++[m0])) (cx g (ways++[m0])))->∃m2,m2<((np:Nat):Int).toNat/\∃(ways:List aP) (p:Pr) (f s:Sl),m0.s=((p.1:Nat):Int)/\m0.t=((p.2:Nat):Int)/\(dL (bB g role) (br g role kind) p).toNat=m2/\nO (bB g role) (bR g role kind) (dL (bB g role) (br g role kind)) (eP g) ways p/\St h h2 (vQ kg.size ob iQ.size cB.size h.size (g.n.toNat*g.n.toNat) g (j9 g role kind ev en ar rs ms) D ⟨kind,role,f,s,bp,bp⟩ (facts g ways) (cx g ways)):=fun h2 f' s' bD=>by
    have pL:=ie hV (p:=p) (by omega) PD;have Wu:=bM m0;refine⟨(dL (bB g role) (br g role kind) (bj m0)).toNat,?_,ways++[m0],bj m0,f',s',pL.2.2.1.symm,pL.2.2.2.symm,rfl,.snoc hG bE gG gm0,bD⟩;have:=hdL _ (dC.step hp PD);omega
   have fin:∀ {h':Heap} {μ:Nat} {I:Int->Int->Heap->Nat->Prop},St h h' (vQ kg.size ob iQ.size cB.size h.size (g.n.toNat*g.n.toNat) g (j9 g role kind ev en ar rs ms) D ⟨kind,role,f,s,bp,bp⟩ (facts g ways) (cx g ways))->(∀h2 f' s',St h h2 (vQ kg.size ob iQ.size cB.size h.size (g.n.toNat*g.n.toNat) g (j9 g role kind ev en ar rs ms) D ⟨kind,role,f',s',bp,bp⟩ (facts g (ways++[m0])) (cx g (ways++[m0])))->∃m2,m2<μ/\I m0.s m0.t h2 m2)->II q.1 (k0:Nat) h' kg iQ (p.1:Nat) (p.2:Nat) μ I:=fun hs hI=>OC hs hg rq gm0 PD (by omega) hI;refine⟨ms,hs.rd 6 rfl (i:=14) rfl,g.n,hs.rd 4 rfl (i:=3) rfl,?_⟩;rw[hmul _ de.1 de.2];refine kD (hM.rm.ext hs.ext) hq fun aiy agx u2=>⟨q.1,u2,?_⟩;refine⟨fun nx y h' μ=>∃k:Nat,y=(k:Int)/\q.1.n-k=μ/\k<=q.1.n/\St h h' (vQ kg.size ob iQ.size cB.size h.size (g.n.toNat*g.n.toNat) g (j9 g role kind ev en ar rs ms) D ⟨kind,role,f,s,bp,bp⟩ (facts g ways) (cx g ways))/\((nx=-1/\∀(j:Nat) m,j<k->(bB g role p)[j]?=some m->qD (dL (bB g role) (br g role kind)) p m=false)\/nx=((k0:Nat):Int)),⟨_,0,rfl,rfl,Nat.zero_le _,hs,.inl ⟨rfl,fun j m hj=>by omega⟩⟩,?_⟩;clear hs u u2;rintro-nx _ HJ μ ⟨k,rfl,rfl,iC,hs,hI⟩;refine aM (fun c3=>?_) (fun c3=>?_)
   .refine aM (fun c4=>?_) (fun c4=>?_)
    .obtain⟨rfl,bK⟩:nx=-1/\∀(j:Nat) m,j<k->(bB g role p)[j]?=some m->qD (dL (bB g role) (br g role kind)) p m=false:=by
      rcases hI with h1 | h1
      .exact h1
      .omega
     obtain⟨m,gm⟩:=get_some (l:=bB g role p) (i:=k) (by omega);have mF:m∈bB g role p:=Yb gm;have pL:=ie hV (p:=p) (by omega) mF;have oT:dC g role (bj m):=.step hp mF;have Wv:=oT.nt hV;have Wu:=bM m;have rd:∀ {h':Heap} {K':Nat->Nat->Prop},Ext h h'->(∀b o,aZ h' ⟨b,o+Int.toNat (k:Int)*2,none⟩ (jc m)->K' b o)->NB q.1.a fun b o=>(0<=(k:Int)/\(k:Int)<(q.1.n:Nat))/\K' b o:=fun {h' K'} X hK'=>by
      refine (rq.ext X).aA (by omega) (by omega) fun b o d gd t=>?_;replace gd:(bB g role p)[k]?=some d:=gd;rw[gm] at gd;cases gd;exact hK' b o t
     have tv:IntKind.wrap .i64 ((k:Int)+1)=((k+1:Nat):Int):=by rw[a7 (by omega) (by omega)];omega
     refine⟨_,_,_,_,_,_,_,_,hs.at 4 rfl (o:=0) (n:=8) rfl,rd hs.ext fun Ij KT t=>⟨_,_,t,?_⟩⟩;refine (jO g role p.1 p.2 m HJ (hg.ext hs.ext) mF).mono ?_;rintro _ aep ⟨rfl,X2⟩;have hs:=hs.step X2;refine⟨_,_,rfl,g.n,hs.rd 4 rfl (i:=3) rfl,?_⟩;rw[<-pL.2.2.1,<-pL.2.2.2,hmul _ Wv.1 Wv.2];refine rdD hs (k:=3) rfl oT fun ait ags u=>⟨_,u,rd hs.ext fun ais agr t2=>⟨_,_,t2,g.n,hs.rd 4 rfl (i:=3) rfl,?_⟩⟩;rw[hmul _ de.1 de.2];refine rdD hs (k:=3) rfl hp fun aiq agp u2=>⟨_,u2,?_⟩;refine (Cm m.x m.y aep).mono ?_;rintro _ Eo ⟨rfl,X3⟩;have hs:=hs.step X3;rw[<-wE,Ej];have LL:=hdL _ oT;have adl:=LL.2;unfold aH at adl;refine⟨_,rfl,X3.sm,?_⟩;rw[a7 (n:=dL (bB g role) (br g role kind) (bj m)+((bO m:Nat):Int)) (by omega) (by omega)];refine dw (fun c5=>?_) (fun c5=>?_)
     .have lV:qD (dL (bB g role) (br g role kind)) p m=true:=by
       unfold qD;rw[Ej];exact decide_eq_true (by omega)
      have:=kH bK gm lV;rw[gG] at this;cases this;exact⟨_,(show q.1.n-(k0+1)<q.1.n-k0 by omega),k0+1,tv,rfl,by omega,hs,.inr rfl⟩
     .refine⟨_,(show q.1.n-(k+1)<q.1.n-k by omega),k+1,tv,rfl,by omega,hs,.inl ⟨rfl,fun j y hj hy=>?_⟩⟩;by_cases e:j=k
      .subst e;rw[gm] at hy;cases hy;unfold qD;rw[Ej];exact decide_eq_false (by omega)
      .exact bK j y (by omega) hy
    .rcases hI with ⟨rfl,_⟩ | rfl
     .exact absurd (by decide) c4
     .exact fin hs tc
   .rcases hI with ⟨rfl,bK⟩ | rfl
    .rw[w9 fun j y hy=>bK j y (by have:=(Ya.1 hy).1;omega) hy] at gG;cases gG
    .exact fin hs tc
  .have Fq:bR g role kind p=some (dL (bB g role) (br g role kind) p):=by
    unfold oO at c2;cases h9:bR g role kind p with
    | none=>rw[h9] at c2;replace c2:aH=(np:Int):=c2;unfold aH at c2;omega
    | some c0=>rw[h9] at c2;replace c2:c0=(np:Int):=c2;rw[Ej,c2]
   have hB:=kq.hit hl (by omega) hG Fq;obtain⟨q1,mE,e1⟩:=hP.p.e p.1 de.1;obtain⟨q2,fY,e2⟩:=hP.p.e p.2 de.2;have xu:=hP.p.el (role:=role) p.1;have il:=hP.p.el (role:=role) p.2;have fO:=nF g ways;have rU:decide (((n:Nat):Int)<aH)=true:=decide_eq_true (by unfold aH;omega);refine⟨kind,hs.rd 6 rfl (i:=9) rfl,dw (fun c3=>?_) (fun c3=>dw (fun c4=>?_) (fun c4=>?_))⟩
   .subst c3;have r1:=(hM.v.re q1 (Yb mE));have r2:=(hM.v.re q2 (Yb fY));rw[e1] at r1;rw[e2] at r2;obtain⟨x0,jG⟩:∃x0,(ay g role (p.1:Nat)).find? (dA (ay g role (p.2:Nat)))=some x0:=by
     unfold bR at Fq;rw[if_pos rfl,if_pos ⟨de.1,de.2⟩] at Fq;split at Fq
     .rename_i h9;exact Option.isSome_iff_exists.1 h9
     .cases Fq
    have gx:=ir.2 x0 jG;have he:yK g role 1 (facts g ways) p=(facts g ways,aI role x0,bp):=by unfold yK;rw[if_pos rfl,jG];rfl
    rw[he] at hB;have Hl:=r1.ln;have oU:=(Ya.1 gx).1;refine⟨ev,hs.rd 6 rfl (i:=10) rfl,kD (hM.v.rv.ext hs.ext) mE fun b o u=>⟨q1.1,u,ev,hs.rd 6 rfl (i:=10) rfl,kD (hM.v.rv.ext hs.ext) mE fun b2 o2 u2=>⟨q1.1,u2,ev,hs.rd 6 rfl (i:=10) rfl,kD (hM.v.rv.ext hs.ext) fY fun b3 o3 u3=>⟨q2.1,u3,?_⟩⟩⟩⟩;refine (mi role _ _ q1.1 q2.1 h98 (r1.ext hs.ext) (r2.ext hs.ext) xu il).mono ?_;rintro _ ahA ⟨rfl,X2⟩;have hs:=hs.step X2;refine⟨_,rfl,X2.sm,?_⟩;refine (r1.ext hs.ext).aA (by omega) (by omega) fun b4 o4 d gd t=>?_;replace gd:(ay g role (p.1:Nat))[(ay g role (p.1:Nat)).findIdx (dA (ay g role (p.2:Nat)))]?=some d:=gd;rw[gx] at gd;cases gd;refine⟨_,_,_,_,⟨none,0,0⟩,t,?_⟩;refine hs.put 0 rfl (o:=4) (vs:=aC role x0) rfl (show 4+5<=14 by decide) fun adO hs=>?_;have hs:St h adO (vQ kg.size ob iQ.size cB.size h.size (g.n.toNat*g.n.toNat) g (j9 g role 1 ev en ar rs ms) D ⟨1,role,f,s,aI role x0,bp⟩ (facts g ways) (cx g ways)):=hs;exact Gs hs fun h' hw=>⟨_,_,hB,by rw[rU];exact hw⟩
   .subst c4;obtain⟨qa,Hm,ea⟩:=hP.p.m p.1 de.1;have xk:=Yb Hm;have ra:=hM.v.rm qa xk;have r2:=(hM.v.re q2 (Yb fY));rw[e2] at r2;have Hl:=ra.ln;have Ws:=hP.p.l qa xk;have hap:=hP.p.p qa xk;have fin:∀ {out:Int},aaR (ay g role (p.2:Nat)) qa.2 out->∃(o:Nat) (a:gF) (x:Ed),out=(o:Int)/\qa.2[o]?=some a/\g.es[a.1]?=some x/\aW role x=some ⟨false,x.a,x.l⟩/\yK g role 4 (facts g ways) p=(facts g ways++[x.act]++a.2.1.path,aI role a.2.1.m.ev,aI role ⟨false,x.a,x.l⟩):=fun {out} hL=>by
     rcases hL with ⟨_,hf⟩ | ⟨o,a,rfl,ha,hf⟩
     .unfold bR at Fq;rw[if_neg (by decide),if_neg (by decide),if_pos ⟨de.1,de.2⟩,<-ea] at Fq;unfold cU at Fq;rw[hf] at Fq;cases Fq
     .have hay:cr a∈du g role p.1:=by rw[<-ea];exact Yp.2 ⟨a,Yb ha,rfl⟩
      obtain⟨i,x,hi,hx,hv⟩:=Ik hV hay;have PK:a.1=i:=Int.ofNat.inj hi;subst PK;have hw:=hP.w qa xk a (Yb ha);refine⟨o,a,x,rfl,ha,hx,hv,?_⟩;unfold yK;rw[if_neg (by decide),if_pos rfl,<-ea];unfold cU;rw[hf];show (facts g ways++[(eA g.es (Int.toNat (a.1:Int))).act]++gA g (Int.toNat (a.1:Int)) a.2.1.m,aI role a.2.1.m.ev,aI role ⟨false,(eA g.es (Int.toNat (a.1:Int))).a,(eA g.es (Int.toNat (a.1:Int))).l⟩)=_;rw[Ys,aL hx,hw.1]
    refine⟨ar,hs.rd 6 rfl (i:=12) rfl,kD (hM.v.ra.ext hs.ext) Hm fun b o u=>⟨qa.1,u,ar,hs.rd 6 rfl (i:=12) rfl,kD (hM.v.ra.ext hs.ext) Hm fun b2 o2 u2=>⟨qa.1,u2,role,hs.rd 6 rfl (i:=8) rfl,ev,hs.rd 6 rfl (i:=10) rfl,kD (hM.v.rv.ext hs.ext) fY fun b3 o3 u3=>⟨q2.1,u3,?_,fun Xu e=>?_⟩⟩⟩⟩
    .refine (qL role _ qa.2 qa.1 q2.1 h98 (ra.ext hs.ext) (r2.ext hs.ext) Ws il hap).mono ?_;rintro _ adN ⟨⟨out,rfl,hL⟩,X2⟩;have hs:=hs.step X2;obtain⟨k,a,x,rfl,ha,hx,hv,he⟩:=fin hL;rw[he] at hB;have qT:=(Ya.1 ha).1;have hw:=hP.w qa xk a (Yb ha);refine⟨_,rfl,X2.sm,?_⟩;refine (ra.ext hs.ext).aA (by omega) (by omega) fun b4 o4 d gd t=>?_;replace gd:qa.2[k]?=some d:=gd;rw[ha] at gd;cases gd;refine⟨_,_,_,_,t,fun adM e=>⟨(show Ext adN adM by rw[e];exact Ext.push _ _).sm,?_⟩⟩;exact N7 (hs.dj e) hg hx hv (hM.rp qa xk a (Yb ha)) (by omega) hw.2.1 fun w h' SL=>⟨_,_,hB,by rw[rU];exact SL⟩
    .refine⟨(show Ext h98 Xu by rw[e];exact Ext.push _ _).sm,?_⟩;have hs:=hs.dj e;refine (qL role _ qa.2 qa.1 q2.1 Xu (ra.ext hs.ext) (r2.ext hs.ext) Ws il hap).mono ?_;rintro _ ahs ⟨⟨out,rfl,hL⟩,X2⟩;have hs:=hs.step X2;obtain⟨k,a,x,rfl,ha,hx,hv,he⟩:=fin hL;rw[he] at hB;have qT:=(Ya.1 ha).1;have hw:=hP.w qa xk a (Yb ha);refine⟨_,rfl,X2.sm,?_⟩;refine (ra.ext hs.ext).aA (by omega) (by omega) fun b4 o4 d gd t=>?_;replace gd:qa.2[k]?=some d:=gd;rw[ha] at gd;cases gd;refine⟨_,_,_,_,t,?_⟩;exact N7 hs hg hx hv (hM.rp qa xk a (Yb ha)) (by omega) hw.2.1 fun w h' SL=>⟨_,_,hB,by rw[rU];exact SL⟩
   .have he:yK g role kind (facts g ways) p=(facts g ways,bp,bp):=by unfold yK;rw[if_neg c3,if_neg c4]
    rw[he] at hB;exact Gs hs fun h' hw=>⟨_,_,hB,by rw[rU];exact hw⟩
end Go.VC
end

section
namespace Go.VC
open Go.Proofs Go.LexS
abbrev Vq:=Nat × List Nat
structure gW (g:Gl) (MX:Nat->Prop) (Q:List Vq) (par:Nat->Nat) (i k:Nat):Prop where
 q0:Q[0]?=some (g.s.toNat,[])
 nd:(Q.map Prod.fst).Nodup
 lt:∀v∈Q,v.1<g.n.toNat
 p0:par 0=0
 pl:∀j,0<j->j<Q.length->par j<j
 pu:∀j,j<Q.length->par j<=i
 mo:∀j k,j<=k->k<Q.length->par j<=par k
 wd:∀j v,0<j->Q[j]?=some v->∃u a q,Q[par j]?=some u/\(ah g.es (u.1:Nat))[q]?=some a/\v=((eA g.es a).t.toNat,u.2++[a])/\∀(q':Nat) a',q'<q->(ah g.es (u.1:Nat))[q']?=some a'->∃c w,c<j/\Q[c]?=some w/\w.1=(eA g.es a').t.toNat
 cl:∀(j:Nat) v (q:Nat) a,Q[j]?=some v->(ah g.es (v.1:Nat))[q]?=some a->(j<i\/j=i/\q<k)->∃b w,Q[b]?=some w/\w.1=(eA g.es a).t.toNat/\par b<=j
 no:∀(j:Nat) v,j<i->Q[j]?=some v->¬MX v.1
theorem gW.init{g:Gl}(hV:af g){MX:Nat->Prop}:gW g MX [(g.s.toNat,[])] (fun _=>0) 0 0:=by
 have hN:=hV.num.n;refine⟨rfl,by simp,fun v hv=>by rw[Ye] at hv;subst hv;show g.s.toNat<_;omega,rfl,fun j h1 h2=>?_,fun j _=>bc _,fun j k _ _=>bc _,fun j v h1 h2=>?_,fun j v q a _ _ h=>by omega,fun j v h=>by omega⟩
 .rw[Yv] at h2;omega
 .have:=(Ya.1 h2).1;rw[Yv] at this;omega
theorem gW.len{g:Gl}{MX:Nat->Prop}{Q:List Vq}{par:Nat->Nat}{i k:Nat}(h:gW g MX Q par i k):Q.length<=g.n.toNat:=by
 have h1:=List.Nodup.length_le_of_subset h.nd (l₂:=List.range g.n.toNat) fun s hs=>by
  obtain⟨v,hv,rfl⟩:=Yp.1 hs;exact List.mem_range.2 (h.lt v hv)
 rwa [Yc,kV] at h1
theorem gW.skip{g:Gl}{MX:Nat->Prop}{Q:List Vq}{par:Nat->Nat}{i k:Nat}(h:gW g MX Q par i k){v:Vq}(hv:Q[i]?=some v){a:Nat}(ha:(ah g.es (v.1:Nat))[k]?=some a)(cO:(eA g.es a).t.toNat∈Q.map Prod.fst):gW g MX Q par i (k+1):=by
 refine⟨h.q0,h.nd,h.lt,h.p0,h.pl,h.pu,h.mo,h.wd,fun j w q a' hw P8 hj=>?_,h.no⟩;by_cases e:j=i/\q=k
 .obtain⟨rfl,rfl⟩:=e;rw[hv] at hw;cases hw;rw[ha] at P8;cases P8;obtain⟨w,hw,e⟩:=Yp.1 cO;obtain⟨b,hb⟩:=Yf.1 hw;exact⟨b,w,hb,e,h.pu b (Ya.1 hb).1⟩
 .exact h.cl j w q a' hw P8 (by omega)
theorem gW.push{g:Gl}(hV:af g){MX:Nat->Prop}{Q:List Vq}{par:Nat->Nat}{i k:Nat}(h:gW g MX Q par i k){v:Vq}(hv:Q[i]?=some v){a:Nat}(ha:(ah g.es (v.1:Nat))[k]?=some a)(bK:(eA g.es a).t.toNat∉Q.map Prod.fst):
  gW g MX (Q++[((eA g.es a).t.toNat,v.2++[a])]) (fun j=>if j=Q.length then i else par j) i (k+1):=by
 have hi:=(Ya.1 hv).1;have qB:∀ {j:Nat} {w:Vq},Q[j]?=some w->(Q++[((eA g.es a).t.toNat,v.2++[a])])[j]?=some w:=fun {j w} hw=>by rw[jt (Ya.1 hw).1,hw]
 have new:∀ {j:Nat} {w:Vq},(Q++[((eA g.es a).t.toNat,v.2++[a])])[j]?=some w->(j<Q.length/\Q[j]?=some w)\/(j=Q.length/\w=((eA g.es a).t.toNat,v.2++[a])):=fun {j w} hw=>by
  rcases Nat.lt_trichotomy j Q.length with h1 | h1 | h1
  .rw[jt h1] at hw;exact .inl ⟨h1,hw⟩
  .subst h1;rw[tT (bc _),Nat.sub_self] at hw;exact .inr ⟨rfl,(fL hw).symm⟩
  .have:=(Ya.1 hw).1;rw[Yh,Yv] at this;omega
 obtain⟨Fp,Ei⟩:=vd (Yb ha);have hEd:=hV.num.e _ Fp;unfold gV at hEd;have bE:∀ {j:Nat},j<Q.length->(if j=Q.length then i else par j)=par j:=fun hj=>if_neg (by omega);refine⟨qB h.q0,?_,fun w hw=>?_,?_,fun j h1 h2=>?_,fun j h2=>?_,fun j l h1 h2=>?_,fun j w h1 hw=>?_,fun j w q a' hw P8 hj=>?_,fun j w hj hw=>?_⟩
 .rw[Ym,List.nodup_append];refine⟨h.nd,by simp,fun x hx y hy e=>?_⟩;rw[List.map_singleton,Ye] at hy;subst hy;subst e;exact bK hx
 .rcases Yk.1 hw with hw | hw
  .exact h.lt w hw
  .rw[Ye] at hw;subst hw;show (eA g.es a).t.toNat<_;omega
 .show (if 0=Q.length then i else par 0)=0;rw[if_neg (by omega)];exact h.p0
 .rw[Yh,Yv] at h2;show (if j=Q.length then i else par j)<j;split
  .omega
  .exact h.pl j h1 (by omega)
 .rw[Yh,Yv] at h2;show (if j=Q.length then i else par j)<=i;split
  .exact bc _
  .exact h.pu j (by omega)
 .rw[Yh,Yv] at h2;show (if j=Q.length then i else par j)<=(if l=Q.length then i else par l);by_cases e1:j=Q.length
  .rw[if_pos e1,if_pos (by omega)];exact bc _
  .rw[if_neg e1];split
   .exact h.pu j (by omega)
   .exact h.mo j l h1 (by omega)
 .rcases new hw with ⟨hj,hw⟩ | ⟨rfl,rfl⟩
  .obtain⟨u,b,q,hu,hb,e,hq⟩:=h.wd j w h1 hw;refine⟨u,b,q,?_,hb,e,fun q' a' h3 h4=>?_⟩
   .show (Q++_)[if j=Q.length then i else par j]?=_;rw[bE hj];exact qB hu
   .obtain⟨c,z,h5,h6,h7⟩:=hq q' a' h3 h4;exact⟨c,z,h5,qB h6,h7⟩
  .refine⟨v,a,k,?_,ha,rfl,fun q' a' h3 h4=>?_⟩
   .show (Q++_)[if Q.length=Q.length then i else par Q.length]?=_;rw[if_pos rfl];exact qB hv
   .obtain⟨b,z,h5,h6,_⟩:=h.cl i v q' a' hv h4 (.inr ⟨rfl,h3⟩);exact⟨b,z,(Ya.1 h5).1,qB h5,h6⟩
 .rcases new hw with ⟨SZ,hw⟩ | ⟨rfl,rfl⟩
  .by_cases e:j=i/\q=k
   .obtain⟨rfl,rfl⟩:=e;rw[hv] at hw;cases hw;rw[ha] at P8;cases P8;refine⟨Q.length,_,by rw[tT (bc _),Nat.sub_self];rfl,rfl,?_⟩;show (if Q.length=Q.length then j else par Q.length)<=j;rw[if_pos rfl];exact bc _
   .obtain⟨b,z,h5,h6,h7⟩:=h.cl j w q a' hw P8 (by omega);refine⟨b,z,qB h5,h6,?_⟩;show (if b=Q.length then i else par b)<=j;rw[bE (Ya.1 h5).1];exact h7
  .omega
 .rcases new hw with ⟨_,hw⟩ | ⟨rfl,_⟩
  .exact h.no j w hj hw
  .omega
theorem gW.next{g:Gl}{MX:Nat->Prop}{Q:List Vq}{par:Nat->Nat}{i k:Nat}(h:gW g MX Q par i k){v:Vq}(hv:Q[i]?=some v)(hk:(ah g.es (v.1:Nat)).length<=k)(bK:¬MX v.1):gW g MX Q par (i+1) 0:=by
 refine⟨h.q0,h.nd,h.lt,h.p0,h.pl,fun j hj=>by have:=h.pu j hj;omega,h.mo,h.wd,fun j w q a hw ha hj=>?_,fun j w hj hw=>?_⟩
 .refine h.cl j w q a hw ha ?_;by_cases e:j=i
  .subst e;rw[hv] at hw;cases hw;have:=(Ya.1 ha).1;exact .inr ⟨rfl,by omega⟩
  .exact .inl (by omega)
 .by_cases e:j=i
  .subst e;rw[hv] at hw;cases hw;exact bK
  .exact h.no j w (by omega) hw
def iU(par:Nat->Nat):Nat->Nat->Nat
 | 0,j=>j
 | r+1,j=>par (iU par r j)
section
variable {g:Gl} {MX:Nat->Prop} {Q:List Vq} {par:Nat->Nat} {i:Nat} (h:gW g MX Q par i 0) (hi:i<Q.length)
include h hi
theorem gW.rK:∀r,iU par r i<=i
 | 0=>bc _
 | r+1=>by
  have h1:=gW.rK r;show par (iU par r i)<=i;rcases Nat.eq_zero_or_pos (iU par r i) with e | e
  .rw[e,h.p0];exact Nat.zero_le _
  .have:=h.pl _ e (by omega);omega
theorem gW.RO(r:Nat):iU par (r+1) i<=iU par r i:=by
 have h1:=h.rK hi r;show par (iU par r i)<=_;rcases Nat.eq_zero_or_pos (iU par r i) with e | e
 .rw[e,h.p0];exact bc _
 .have:=h.pl _ e (by omega);omega
theorem gW.RQ{r k:Nat}(hk:k<=r):iU par r i<=iU par k i:=by
 induction r with
 | zero=>rw[show k=0 by omega];exact bc _
 | succ r ih=>
  by_cases e:k=r+1
  .rw[e];exact bc _
  .exact mw (h.RO hi r) (ih (by omega))
theorem gW.Iv{r k:Nat}(hk:k<r)(hn:∀r',r'<r->iU par r' i≠0):iU par r i<iU par k i:=by
 have h1:=h.RQ hi (r:=r) (k:=k+1) hk;have h2:=h.pl (iU par k i) (by have:=hn k hk;omega) (by have:=h.rK hi k;omega);have:iU par (k+1) i=par (iU par k i):=rfl;omega
theorem gW.Iw:∀ {r:Nat},(∀r',r'<r->iU par r' i≠0)->iU par r i+r<=i
 | 0,_=>bc _
 | r+1,hn=>by
  have h1:=gW.Iw (r:=r) fun r' hr=>hn r' (by omega);have h2:iU par (r+1) i<iU par r i:=h.Iv hi (Nat.lt_succ_self r) hn;show iU par (r+1) i+(r+1)<=i;omega
theorem gW.noD{r s:Nat}(hd:r7 g.es MX s r):∀(a:Nat) v,Q[a]?=some v->v.1=s->a<iU par r i->False:=by
 induction hd with
 | base hm=>
  intro a v hv e ha;exact h.no a v ha hv (by rw[e];exact hm)
 | @step s e n he Ei _ ih=>
  intro a v hv e1 ha;have h1:=h.rK hi (n+1);obtain⟨x,hx⟩:=Yf.1 he;have xl:x∈ah g.es (v.1:Nat):=az.2 ⟨e,hx,by rw[Ei,e1]⟩;obtain⟨q,hq⟩:=Yf.1 xl;obtain⟨b,w,hb,hw,hp⟩:=h.cl a v q x hv hq (.inl (by omega));rw[aL hx] at hw;refine ih b w hb hw ?_;rcases Nat.lt_or_ge b (iU par n i) with h2 | h2
  .exact h2
  .have h3:=h.mo _ _ h2 (Ya.1 hb).1;have h4:iU par (n+1) i=par (iU par n i):=rfl;omega
theorem gW.dn(hm:∀v,Q[i]?=some v->MX v.1):∀ {r:Nat},(∀r',r'<r->iU par r' i≠0)->∀u,Q[iU par r i]?=some u->r7 g.es MX u.1 r
 | 0,_,u,hu=>.base (hm u hu)
 | r+1,hn,u,hu=>by
  have hc:=hn r (Nat.lt_succ_self r);obtain⟨v,hv⟩:=get_some (l:=Q) (i:=iU par r i) (by have:=h.rK hi r;omega);have h1:=gW.dn hm (r:=r) (fun r' hr=>hn r' (by omega)) v hv;obtain⟨u',a,q,SN,ha,e,_⟩:=h.wd _ v (by omega) hv;have hu2:Q[par (iU par r i)]?=some u:=hu;rw[hu2] at SN;cases SN;obtain⟨Fp,Ei⟩:=vd (Yb ha);subst e;exact .step Fp Ei h1
theorem gW.least(hm:∀v,Q[i]?=some v->MX v.1){r:Nat}(hn:∀r',r'<r->iU par r' i≠0){u:Vq}(hu:Q[iU par r i]?=some u):fS g.es MX u.1 r:=by
 refine⟨h.dn hi hm hn u hu,fun k hk=>?_⟩;rcases Nat.lt_or_ge k r with h1 | h1
 .exact (h.noD hi hk _ u hu rfl (h.Iv hi h1 hn)).elim
 .exact h1
theorem gW.gq(BR:g.n.toNat<=200)(hm:∀v,Q[i]?=some v->MX v.1):∀N j,j<=N->∀r,iU par r i=j->(∀r',r'<r->iU par r' i≠0)->∀v,Q[j]?=some v->GQ g.es (dS g.es MX) g.s.toNat v.2 v.1:=by
 intro N
 induction N with
 | zero=>
  intro j hj r hr hn v hv;rw[show j=0 by omega,h.q0] at hv;cases hv;exact .nil
 | succ N ih=>
  intro j hj r hr hn v hv;rcases Nat.eq_zero_or_pos j with e | e
  .rw[e,h.q0] at hv;cases hv;exact .nil
  .have BV:=(Ya.1 hv).1;have hp:=h.pl j e BV;obtain⟨u,a,q,hu,ha,ev,hq⟩:=h.wd j v e hv;have Hl:iU par (r+1) i=par j:=by show par (iU par r i)=_;rw[hr]
   have BT:∀r',r'<r+1->iU par r' i≠0:=fun r' h1=>by
    by_cases e1:r'=r
    .rw[e1,hr];omega
    .exact hn r' (by omega)
   have h1:=ih (par j) (by omega) (r+1) Hl BT u hu;have d1:=ry (h.least hi hm BT (u:=u) (by rw[Hl];exact hu));have d0:=ry (h.least hi hm hn (u:=v) (by rw[hr];exact hv));have sx:=h.Iw hi hn;have hQl:=h.len;subst ev;refine .snoc h1 (by rw[d1];omega) (kH (fun q' a' h2 h3=>?_) ha ?_) ha
   .obtain⟨c,w,hc,hw,hwe⟩:=hq q' a' h2 h3;unfold VQ;refine decide_eq_false fun h4=>?_;rw[<-hwe,d1] at h4;by_cases hex:∃n,fS g.es MX w.1 n
    .obtain⟨n,hl⟩:=hex;rw[ry hl] at h4;have:n=r:=by omega
     subst this;exact h.noD hi hl.1 c w hw rfl (by rw[hr];exact hc)
    .unfold dS at h4;rw[dif_neg hex] at h4;unfold df at h4;omega
   .unfold VQ;refine decide_eq_true ?_;rw[d1];show dS g.es MX (eA g.es a).t.toNat=_;have d0':dS g.es MX (eA g.es a).t.toNat=(r:Int):=d0;rw[d0'];omega
end
theorem gW.Ov{g:Gl}{MX:Nat->Prop}{Q:List Vq}{par:Nat->Nat}{i k:Nat}(h:gW g MX Q par i k):∀N j:Nat,j<=N->∀v:Vq,Q[j]?=some v->v.2.length<=j:=by
 intro N
 induction N with
 | zero=>
  intro j hj v hv;rw[show j=0 by omega,h.q0] at hv;cases hv;exact Nat.zero_le _
 | succ N ih=>
  intro j hj v hv;rcases Nat.eq_zero_or_pos j with e | e
  .rw[e,h.q0] at hv;cases hv;exact Nat.zero_le _
  .have hp:=h.pl j e (Ya.1 hv).1;obtain⟨u,a,q,hu,_,ev,_⟩:=h.wd j v e hv;have:=ih (par j) (by omega) u hu;subst ev;show (u.2++[a]).length<=j;rw[Yh,Yv];omega
theorem gW.found{g:Gl}{MX:Nat->Prop}{Q:List Vq}{par:Nat->Nat}{i:Nat}(h:gW g MX Q par i 0)(BR:g.n.toNat<=200){v:Vq}(hv:Q[i]?=some v)(hm:MX v.1):∃n,fS g.es MX g.s.toNat n/\n<=1000/\GQ g.es (dS g.es MX) g.s.toNat v.2 v.1/\dS g.es MX v.1=0:=by
 have hi:=(Ya.1 hv).1;have jX:∀w,Q[i]?=some w->MX w.1:=fun w hw=>by rw[hv] at hw;cases hw;exact hm
 have hG:=h.gq hi BR jX i i (bc _) 0 rfl (fun r' h1=>by omega) v hv;have d0:dS g.es MX v.1=0:=ry (n:=0) ⟨.base hm,fun _ _=>Nat.zero_le _⟩;have hl:=hG.len;have hw:=h.Ov i i (bc _) v hv;have hQ:=h.len;rw[d0] at hl;by_cases hex:∃n,fS g.es MX g.s.toNat n
 .obtain⟨n,hn⟩:=hex;rw[ry hn] at hl;exact⟨n,hn,by omega,hG,d0⟩
 .unfold dS at hl;rw[dif_neg hex] at hl;unfold df at hl;omega
theorem gW.none_{g:Gl}{MX:Nat->Prop}{Q:List Vq}{par:Nat->Nat}(h:gW g MX Q par Q.length 0)(n:Nat):¬r7 g.es MX g.s.toNat n:=by
 have:∀ {s n:Nat},r7 g.es MX s n->∀(a:Nat) v,Q[a]?=some v->v.1=s->False:=by
  intro s n hd
  induction hd with
  | base hm=>intro a v hv e;exact h.no a v (Ya.1 hv).1 hv (by rw[e];exact hm)
  | @step s e n he Ei _ ih=>
   intro a v hv e1;obtain⟨x,hx⟩:=Yf.1 he;have xl:x∈ah g.es (v.1:Nat):=az.2 ⟨e,hx,by rw[Ei,e1]⟩;obtain⟨q,hq⟩:=Yf.1 xl;obtain⟨b,w,hb,hw,_⟩:=h.cl a v q x hv hq (.inl (Ya.1 hv).1);rw[aL hx] at hw;exact ih b w hb hw
 exact fun hd=>this hd 0 _ h.q0 rfl
end Go.VC
end

section
namespace Go.VC
open Go.Proofs Go.LexS
theorem RD:cC Pz 222 221 2 32=true:=by kernel_rfl
theorem VP(g:Gl)(s:Int)(h:Heap)(hg:GI h g):Fn Pz 55 #[g.v,.int .i64 s] h fun v h'=>∃r:Sl,v=.slice r.a r.n r.c/\St h h' [.sl r 3 1 ((aw (ah g.es s)).map aO)]:=by
 apply TI (bs g.nm) g.hr g.hd g.n g.s g.e g.he g.ht;unfold W55;have ke:=hg.e.ln;have Fp:=hg.e.sm;refine (St.refl h).aj fun h9 hs=>?_;have hs:=hs.bH 3 1;refine eE (n:=g.he.n) hs (fun i rows=>rows=(aw ((List.range i).filter (cH g.es s))).map aO) rfl ?_;clear hs;rintro-i out rY rows hi hs rfl;have xm:=hs.len 0 (s:=out) (e:=3) (n:=1) rfl (by omega);rw[Yc,show (aw ((List.range i).filter (cH g.es s))).length=((List.range i).filter (cH g.es s)).length from Yc _] at xm;have rQ:((List.range i).filter (cH g.es s)).length<=i:=mw (List.length_filter_le _ _) (by rw[kV];exact bc _);refine⟨g.he,hs.rd 1 rfl rfl,aM (fun c=>?_) (fun c=>?_)⟩
 .refine⟨g.he,hs.rd 1 rfl rfl,?_⟩;refine (hg.e.rw.ext hs.ext).aA (by omega) (by omega) fun b o x gx t=>?_;replace gx:g.es[i]?=some x:=gx;have zO:(List.range (i+1)).filter (cH g.es s)=if x.f=s then (List.range i).filter (cH g.es s)++[i] else (List.range i).filter (cH g.es s):=by
   rw[List.range_succ,List.filter_append];have hp:cH g.es s i=decide (x.f=s):=by unfold cH;rw[gx]
   by_cases e:x.f=s
   .rw[if_pos e,List.filter_cons_of_pos (by rw[hp];exact decide_eq_true e)];rfl
   .rw[if_neg e,List.filter_cons_of_neg (by rw[hp,decide_eq_false e];simp)];simp
  refine⟨_,t.hd,dw (fun c2=>?_) (fun c2=>?_)⟩
  .refine hs.app 0 rfl dv (m:=1) [aO (i:Int)] rfl rfl (fun r hr=>by rw[Ye] at hr;rw[hr];rfl) rfl (by omega) (by simp only[maxLen];omega) fun r zW ns hs=>?_;refine Az.next (by omega) (by omega) ⟨_,hs,?_⟩;rw[zO,if_pos c2,jz,Ym];rfl
  .exact Az.next (by omega) (by omega) ⟨_,hs,by rw[zO,if_neg c2]⟩
 .have hie:i=g.es.length:=by omega
  subst hie;exact⟨out,rfl,hs.gK (L':=[_]) (R:=[_]) (List.Perm.refl _)⟩
theorem St.pick{h0 h:Heap}{L:List It}(hs:St h0 h L){x:It}(hx:x∈L):∃L',St h0 h (x::L'):=by
 obtain⟨A,B,rfl⟩:=List.append_of_mem hx;exact⟨_,hs.perm List.perm_middle⟩
def Dg(x:Sl × Vq):List Value:=[.int .i64 (x.2.1:Nat),.slice x.1.a x.1.n x.1.c]
def AV(g:Gl)(x:Sl × Vq):It:=nest 65 3 Ac.cs (x.1,cJ g.es x.2.2)
def yw(rb fb gb:Nat)(g:Gl)(ev en l seen:Sl)(V:List (Sl × Vq))(T:List It):List It:=
 .sl l 221 2 (V.map Dg) :: .sl seen 3 1 ((aw (V.map fun x=>x.2.1)).map aO) :: .ae rb cq.cs 39 :: .ae fb [.slice ev.a ev.n ev.c,.slice en.a en.n en.c] 109 :: .ae gb g.cs 27::(V.map (AV g)++T)
theorem TG{h0 h:Heap}{L:List It}{g:Gl}{x:Sl × Vq}(hs:St h0 h L)(hx:AV g x∈L)(hl:x.2.2.length<=1000):RL h 3 x.1 Ac.cs (cJ g.es x.2.2):=by
 obtain⟨L',bI⟩:=hs.pick hx;have:=bI.len 0 (s:=x.1) (e:=65) (n:=3) rfl (by decide);exact⟨bI.mD (e:=65) Yx (by decide),this.2.1,this.2.2,by rw[show (cJ g.es x.2.2).length=x.2.2.length from Yc _];omega⟩
theorem Ki{α:Type}{b1 w bA bT s l r1 r2 r3:α}{N T:List α}:(b1::w::bA::bT::l::s::r1::r2::r3::(N++T)).Perm ((l::s::r1::r2::r3::((N++[w])++T))++[b1,bA,bT]):=by
 refine List.Perm.trans ?_ (List.perm_append_comm (l₁:=[b1,bA,bT]));refine List.Perm.cons _ (((List.perm_middle (l₁:=[bA,bT,l,s,r1,r2,r3]) (a:=w) (l₂:=N++T)).symm).trans ?_);refine List.Perm.append_left [bA,bT,l,s,r1,r2,r3] ?_;show (w::(N++T)).Perm ((N++[w])++T);rw[Yz];exact List.perm_middle.symm
theorem acg{h hX hA hT:Heap}{rb fb gb:Nat}{g:Gl}{ev en l seen s:Sl}{V:List (Sl × Vq)}{T:List It}{x:Ed}{v:Vq}{a m:Nat}{k:Int}{I:Sl->Sl->Int->Heap->Nat->Prop}{S:List (List Value)}(gx:g.es[a]?=some x)(hx:0<=x.t)
  (hs:St h hX (.sl s 65 3 ((cJ g.es v.2).map Ac.cs) :: .ae hA.size x.act.cs 65 :: .ae hT.size x.cs 67 :: .sl l 221 2 (V.map Dg) :: .sl seen 3 1 S :: .ae rb cq.cs 39 :: .ae fb [.slice ev.a ev.n ev.c,.slice en.a en.n en.c] 109 :: .ae gb g.cs 27::(V.map (AV g)++T))) (hv:v.2.length<=1000) (hV:V.length<=1000)
  (hS:S=(aw ((V.map fun x=>x.2.1)++[x.t.toNat])).map aO)
  (hI:∀l' w h',St h h' (yw rb fb gb g ev en l' seen (V++[(w,(x.t.toNat,v.2++[a]))]) T)->∃m2,m2<m/\I l' seen (IntKind.wrap .i64 (k+1)) h' m2) :
  EP s hA hX hT x.t l m I seen k:=by
 unfold EP;have iA:=(hs.len 0 (s:=s) (e:=65) (n:=3) rfl (by decide)).1;have sx:=(hs.len 3 (s:=l) (e:=221) (n:=2) rfl (by decide)).1;have WY:(cJ g.es v.2).length=v.2.length:=Yc _;rw[Yc] at iA sx;refine hs.appended 0 (rows:=(cJ g.es v.2).map Ac.cs) rfl eM (m:=1) (news:=[x.act.cs]) (by rw[List.flatten_singleton];exact hs.at 1 rfl (o:=0) (n:=3) rfl) rfl (fun r hr=>by rw[Ye.1 hr];rfl) rfl (by omega) (by simp only[maxLen];omega) fun sg ahI n211 bD=>?_;refine⟨hs.jj bD 2 2 4 rfl rfl,fun ahH e=>?_⟩;have fN:=bD.dj e;refine fN.appended 4 (rows:=V.map Dg) rfl RD (m:=1) (news:=[[.int .i64 x.t,.slice sg.a sg.n sg.c]]) (by rw[List.flatten_singleton];exact fN.at 0 rfl (o:=0) (n:=2) rfl) rfl (fun r hr=>by rw[Ye.1 hr];rfl) rfl (by omega) (by simp only[maxLen];omega) fun acu adW n214 ik=>?_;refine hI acu sg adW ?_;have e1:(V++[(sg,(x.t.toNat,v.2++[a]))]).map Dg=V.map Dg++[[.int .i64 x.t,.slice sg.a sg.n sg.c]]:=by
  rw[Ym];unfold Dg;rw[List.map_singleton,show (((x.t.toNat:Nat)):Int)=x.t by omega]
 have e2:AV g (sg,(x.t.toNat,v.2++[a]))=.sl sg 65 3 ((cJ g.es v.2).map Ac.cs++[x.act.cs]):=by
  unfold AV nest cJ;simp only[Ym,List.map_singleton,aL gx]
 unfold yw;rw[e1,Ym (f:=fun x:Sl × Vq=>x.2.1),Ym (f:=AV g),List.map_singleton,List.map_singleton,e2,<-hS];exact ik.gK Ki
theorem XS{h qW:Heap}{kh iT:Nat}{g:Gl}{ev en l seen:Sl}{V:List (Sl × Vq)}{par:Nat->Nat}{x:Sl × Vq}{i m:Nat}{MX:Nat->Prop}{I:Sl->Sl->Int->Heap->Nat->Prop}(hg:GI h g)(hV:af g)
  (hs:St h qW (yw kh iT h.size g ev en l seen V [])) (hB:gW g MX (V.map Prod.snd) par i 0) (hx:V[i]?=some x)
  (hI:∀l' qd V' par' h',St h h' (yw kh iT h.size g ev en l' qd V' [])->gW g MX (V'.map Prod.snd) par' i (ah g.es (x.2.1:Nat)).length->V'[i]?=some x->∃m2,m2<m/\I l' qd (IntKind.wrap .i64 ((i:Int)+1)) h' m2) :
  ER qW h (x.2.1:Nat) l seen (i:Nat) m I:=by
 unfold ER;have hN:=hV.num.n;have hM:=hV.num.m;have ke:=hg.e.ln;refine⟨_,_,_,_,_,_,_,_,hs.at 4 rfl (o:=0) (n:=8) rfl,?_⟩;refine (VP g (x.2.1:Nat) qW (hg.ext hs.ext)).mono ?_;rintro _ Ma ⟨r,rfl,yB⟩;have kc:=(yB.len 0 (s:=r) rfl (by decide)).1;rw[Yc,show (aw (ah g.es (x.2.1:Nat))).length=(ah g.es (x.2.1:Nat)).length from Yc _] at kc;have rQ:=cG g.es (x.2.1:Nat);have hs:St h Ma (yw kh iT h.size g ev en l seen V [.sl r 3 1 ((aw (ah g.es (x.2.1:Nat))).map aO)]):=by
  have:=hs.join yB;unfold yw at this ⊢;rw[Yw] at this;exact this
 refine⟨r,rfl,?_⟩;refine⟨fun l' qd y h' μ=>∃(k:Nat) (V':List (Sl × Vq)) (par':Nat->Nat),y=(k:Int)/\r.n-k=μ/\k<=r.n/\St h h' (yw kh iT h.size g ev en l' qd V' [.sl r 3 1 ((aw (ah g.es (x.2.1:Nat))).map aO)])/\gW g MX (V'.map Prod.snd) par' i k/\V'[i]?=some x,⟨_,0,V,par,rfl,rfl,Nat.zero_le _,hs,hB,hx⟩,?_⟩;clear hs hB hx;rintro-l seen _ h177 μ ⟨k,V,par,rfl,rfl,hk,hs,hB,hx⟩;have hVl:=hB.len;rw[Yc] at hVl;have Pl:(V.map Prod.snd)[i]?=some x.2:=by rw[Yd,hx];rfl
 have oU:=(Ya.1 hx).1;have Wf:=hB.Ov i i (bc _) x.2 Pl;have sx:=(hs.len 0 (s:=l) (e:=221) (n:=2) rfl (by decide)).1;rw[Yc] at sx;have iA:=(hs.len 1 (s:=seen) (e:=3) (n:=1) rfl (by decide)).1;rw[Yc,show (aw (V.map fun x=>x.2.1)).length=V.length by unfold aw;rw[Yc,Yc]] at iA;refine aM (fun c=>?_) (fun c=>?_)
 .obtain⟨a,ga⟩:=get_some (l:=ah g.es (x.2.1:Nat)) (i:=k) (by omega);obtain⟨e,ge,Ei⟩:=az.1 (Yb ga);have Xe:=(Ya.1 ge).1;have hEd:=hV.num.e e (Yb ge);unfold gV at hEd;have tv:IntKind.wrap .i64 ((k:Int)+1)=((k+1:Nat):Int):=by rw[a7 (by omega) (by omega)];omega
  have rr:Rw h177 1 r ((aw (ah g.es (x.2.1:Nat))).map aO):=hs.mD (e:=3) (by unfold yw;simp) (by decide);refine⟨g.he,hs.rd 4 rfl (i:=6) rfl,?_⟩;refine rr.aA (by omega) (by omega) fun aij agi d gd u=>?_;replace gd:(aw (ah g.es (x.2.1:Nat)))[k]?=some d:=gd;rw[show (aw (ah g.es (x.2.1:Nat)))[k]?=some (a:Int) by unfold aw;rw[Yd,ga];rfl] at gd;cases gd;refine⟨_,u.nth 0 rfl,?_⟩;refine (hg.e.rw.ext hs.ext).aA (by omega) (by omega) fun aii agh d gd u2=>?_;replace gd:g.es[a]?=some d:=gd;rw[ge] at gd;cases gd;refine⟨_,_,_,_,_,_,u2,fun Xz Mr=>⟨(show Ext h177 Xz by rw[Mr];exact Ext.push _ _).sm,?_⟩⟩;have hs:=hs.dj Mr;refine hs.put 0 rfl (o:=0) (vs:=e.cs) rfl (show 6<=6 by decide) fun Ql hs=>?_;refine⟨e.t,hs.rd 0 rfl (i:=4) rfl,?_⟩;refine (lv (aw (V.map fun x=>x.2.1)) e.t seen Ql (hs.rows 2 (s:=seen) (cs:=aO) (l:=aw (V.map fun x=>x.2.1)) rfl (by decide)) (by rw[show (aw (V.map fun x=>x.2.1)).length=V.length by unfold aw;rw[Yc,Yc]];omega)).mono ?_;rintro _ ahJ ⟨⟨b,rfl,hb⟩,X⟩;have hs:=hs.step X;have eK:e.t∈aw (V.map fun x=>x.2.1) ↔ (eA g.es a).t.toNat∈(V.map Prod.snd).map Prod.fst:=by
   rw[aL ge];unfold aw;constructor
   .intro h1;obtain⟨s,h2,h3⟩:=Yp.1 h1;obtain⟨z,h4,rfl⟩:=Yp.1 h2;exact Yp.2 ⟨z.2,Yp.2 ⟨z,h4,rfl⟩,by show z.2.1=e.t.toNat;omega⟩
   .intro h1;obtain⟨z2,h2,h5⟩:=Yp.1 h1;obtain⟨z,h4,rfl⟩:=Yp.1 h2;exact Yp.2 ⟨z.2.1,Yp.2 ⟨z,h4,rfl⟩,by rw[h5];omega⟩
  rw[eK] at hb;refine⟨b,rfl,aa (fun c2=>?_) (fun c2=>?_)⟩
  .have bK:(eA g.es a).t.toNat∉(V.map Prod.snd).map Prod.fst:=cz hb (by simpa using c2);have Qc:=hB.push hV Pl ga bK;rw[aL ge] at Qc;obtain⟨OQ,hB3⟩:∃OQ,gW g MX (V.map Prod.snd++[(e.t.toNat,x.2.2++[a])]) OQ i (k+1):=⟨_,Qc⟩;refine⟨e.t,hs.rd 0 rfl (i:=4) rfl,?_⟩;refine hs.app 2 rfl dv (m:=1) [aO e.t] rfl rfl (fun r hr=>by rw[Ye] at hr;rw[hr];rfl) rfl (by omega) (by simp only[maxLen];omega) fun F4 Qk n199 hs=>?_;refine⟨e.t,hs.rd 0 rfl (i:=4) rfl,?_⟩;refine (hs.rows 1 (s:=l) (cs:=Dg) (l:=V) rfl (by decide)).aA (by omega) (by omega) fun aih agf d gd u3=>?_;replace gd:V[i]?=some d:=gd;rw[hx] at gd;cases gd;refine⟨x.1,u3.nth 1 rfl,_,_,_,hs.at 0 rfl (o:=1) (n:=3) rfl,?_⟩;have wd:∀ {h':Heap} {L:List It},St h h' L->AV g x∈L->RL h' 3 x.1 Ac.cs (cJ g.es x.2.2):=fun bI hm=>TG bI hm (by omega);have sv:∀(A:List It) (T:List It),AV g x∈A++(V.map (AV g)++T):=fun A T=>List.mem_append_right _ (List.mem_append_left _ (Yp.2 ⟨x,Yb hx,rfl⟩));have hS:(aw (V.map fun x=>x.2.1)).map aO++[aO e.t]=(aw ((V.map fun x=>x.2.1)++[e.t.toNat])).map aO:=by
    unfold aw;rw[Ym,Ym];unfold aO;simp only[gJ,List.map_nil];rw[show ((e.t.toNat:Nat):Int)=e.t by omega]
   have hs:St h Qk (.ae h177.size e.cs 67 :: .sl l 221 2 (V.map Dg) :: .sl F4 3 1 ((aw (V.map fun x=>x.2.1)).map aO++[aO e.t]) :: .ae kh cq.cs 39 :: .ae iT [.slice ev.a ev.n ev.c,.slice en.a en.n en.c] 109 :: .ae h.size g.cs 27::(V.map (AV g)++[.sl r 3 1 ((aw (ah g.es (x.2.1:Nat))).map aO)])):=hs;have fin:∀ {Du:Sl} {hA HG:Heap},St h HG (.sl Du 65 3 ((cJ g.es x.2.2).map Ac.cs) :: .ae hA.size e.act.cs 65 :: .ae h177.size e.cs 67 :: .sl l 221 2 (V.map Dg) :: .sl F4 3 1 ((aw (V.map fun x=>x.2.1)).map aO++[aO e.t]) :: .ae kh cq.cs 39 :: .ae iT [.slice ev.a ev.n ev.c,.slice en.a en.n en.c] 109 :: .ae h.size g.cs 27::(V.map (AV g)++[.sl r 3 1 ((aw (ah g.es (x.2.1:Nat))).map aO)]))->EP Du hA HG h177 e.t l (r.n-k) (fun l' qd y h' μ=>∃(k:Nat) (V':List (Sl × Vq)) (par':Nat->Nat),y=(k:Int)/\r.n-k=μ/\k<=r.n/\St h h' (yw kh iT h.size g ev en l' qd V' [.sl r 3 1 ((aw (ah g.es (x.2.1:Nat))).map aO)])/\gW g MX (V'.map Prod.snd) par' i k/\V'[i]?=some x) F4 (k:Nat):=fun {Du hA HG} hs=>
    acg ge (by omega) hs (by omega) (by omega) hS fun l' w h' bI=>by
     refine⟨_,(show r.n-(k+1)<r.n-k by omega),k+1,_,OQ,tv,rfl,by omega,bI,by rw[Ym];exact hB3,by rw[jt oU];exact hx⟩
   have hw:∀r∈(cJ g.es x.2.2).map Ac.cs,r.length=3:=Av _;have sw:((cJ g.es x.2.2).map Ac.cs).flatten.all dU=true:=eB (fun _=>rfl) _;have hwn:x.1.n=x.2.2.length:=by
    have:=(wd hs (sv [_,_,_,_,_,_] _)).ln;rw[this];exact Yc _
   refine⟨fun Xx QP=>⟨(show Ext Qk Xx by rw[QP];exact Ext.push _ _).sm,?_,fun adV YC=>⟨(show Ext Xx adV by rw[YC];exact Ext.push _ _).sm,?_⟩⟩,fun Xw YB=>⟨(show Ext Qk Xw by rw[YB];exact Ext.push _ _).sm,fun adU YA=>⟨(show Ext Xw adU by rw[YA];exact Ext.push _ _).sm,?_⟩⟩⟩
   .have dx:=(hs.dj QP).dG 0 3 [] rfl (fun r hr=>by cases hr) rfl (by decide);refine dx.dZ 0 (rows:=[]) (news:=(cJ g.es x.2.2).map Ac.cs) rfl eM (y:=x.1) (wd dx (sv [_,_,_,_,_,_,_] _)).rw hw (wd dx (sv [_,_,_,_,_,_,_] _)).nil sw (by show (0+x.1.n)*24<=_;omega) (by show 0+x.1.n<=_;simp only[maxLen];omega) fun Du LZ _ bD=>?_;refine⟨jS (dx.jj bD 1 1 1 rfl rfl) (dx.jj bD 1 1 4 rfl rfl),fun HG YD=>⟨(show Ext LZ HG by rw[YD];exact Ext.push _ _).sm,?_⟩⟩;exact fin ((bD.dj YD).perm (List.Perm.swap _ _ _))
   .have dx:=((hs.dj QP).dG 0 3 [] rfl (fun r hr=>by cases hr) rfl (by decide)).dj YC;refine dx.dZ 1 (rows:=[]) (news:=(cJ g.es x.2.2).map Ac.cs) rfl eM (y:=x.1) (wd dx (sv [_,_,_,_,_,_,_,_] _)).rw hw (wd dx (sv [_,_,_,_,_,_,_,_] _)).nil sw (by show (0+x.1.n)*24<=_;omega) (by show 0+x.1.n<=_;simp only[maxLen];omega) fun Du LZ _ bD=>?_;refine⟨jS (dx.jj bD 2 2 1 rfl rfl) (dx.jj bD 2 2 4 rfl rfl),?_⟩;exact fin (bD.perm (List.Perm.swap _ _ _))
   .have dx:=((hs.dj YB).dj YA).dG 0 3 [] rfl (fun r hr=>by cases hr) rfl (by decide);refine dx.dZ 0 (rows:=[]) (news:=(cJ g.es x.2.2).map Ac.cs) rfl eM (y:=x.1) (wd dx (sv [_,_,_,_,_,_,_,_] _)).rw hw (wd dx (sv [_,_,_,_,_,_,_,_] _)).nil sw (by show (0+x.1.n)*24<=_;omega) (by show 0+x.1.n<=_;simp only[maxLen];omega) fun Du LZ _ bD=>?_;refine⟨jS (dx.jj bD 2 2 1 rfl rfl) (dx.jj bD 2 2 4 rfl rfl),?_⟩;exact fin bD
  .have cO:(eA g.es a).t.toNat∈(V.map Prod.snd).map Prod.fst:=hb.1 (by simpa using c2);exact⟨_,(show r.n-(k+1)<r.n-k by omega),k+1,V,par,tv,rfl,by omega,hs.drop 1,hB.skip Pl ga cO,hx⟩
 .have LG:k=(ah g.es (x.2.1:Nat)).length:=by omega
  subst LG;refine hI l seen V par h177 (hs.gK (R:=[.sl r 3 1 ((aw (ah g.es (x.2.1:Nat))).map aO)]) ?_) hB hx;unfold yw;rw[Yw];exact List.Perm.refl _
end Go.VC
end
