/- SxLx SxLy SxLz SxM1 SxVcSb SxM2 SxM3 SxVcSc SxM4 SxM5 SxM6 SxM7 SxVcSe SxM8 SxVcSd SxM9 SxM10 SxM11 SxM12. -/
import Derived.Test.YtajglkbckhgboaaGreatDoorCM07
set_option linter.all false
set_option maxRecDepth 100000
set_option maxHeartbeats 8000000

section
namespace Go.VC
open Go.Proofs Go.LexS
theorem St.blkAt {h0 h:Heap} {L:List It} (hs:St h0 h L) (k:Nat) {b:Nat} {xs:List Value} {e:TypeId} (hk:L[k]?=some (.blk b xs e)) (m n:Nat) (rows:List (List Value)) (hx:xs=rows.flatten) (hr:∀r∈rows,r.length=n) (hl:rows.length=m) (hm:m<=maxLen):St h0 h (L.set k (.sl ⟨some ⟨b,0,none⟩,m,m⟩ e n rows)):=by
 have hp:L.Perm (.blk b xs e::L.eraseIdx k):=by
  obtain⟨A,B,rfl,rfl⟩:=split_at hk;rw[List.eraseIdx_append_of_length_le (Yyt _),Nat.sub_self];exact List.perm_middle
 have h1:=(hs.perm hp).blkS m n rows hx hr hl hm;refine h1.perm ?_;obtain⟨A,B,rfl,rfl⟩:=split_at hk;rw[List.eraseIdx_append_of_length_le (Yyt _),Nat.sub_self,List.set_append_right _ _ (Yyt _),Nat.sub_self];exact List.perm_middle.symm
theorem made42s (n:Nat):madeL Pz 102 n=((List.replicate n (⟨none,0,0⟩:Sl)).map slC).flatten:=by
 have e:zeroC Pz 102=[.slice none 0 0]:=by kernel_rfl
 unfold madeL;rw[e,List.map_replicate];rfl
theorem made268s (n:Nat):madeL Pz 274 n=((List.replicate n (⟨none,0,0⟩:Sl)).map slC).flatten:=by
 have e:zeroC Pz 274=[.slice none 0 0]:=by kernel_rfl
 unfold madeL;rw[e,List.map_replicate];rfl
def evZ:Ev:=⟨false,0,0⟩
def lm0:Lm:=⟨0,evZ⟩
theorem made256s (n:Nat):madeL Pz 192 n=((List.replicate n lm0).map Lm.cs).flatten:=by
 have e:zeroC Pz 192=Lm.cs lm0:=by kernel_rfl
 unfold madeL;rw[e,List.map_replicate]
theorem app248:appB Pz 184 195 2 32=true:=by kernel_rfl
theorem app268:appB Pz 274 276 4 32=true:=by kernel_rfl
abbrev OuR:=Sl × List Int
abbrev ArR:=Sl × List Arv
def fIt (f:Fs):It:=.sl f.s 188 3 (f.l.map Ev.cs)
def anC (g:Gl) (role:Int) (ho hfi hli hag how har:Sl):List Value:=g.cs++[.int .i64 role,.slice ho.a ho.n ho.c,.slice hfi.a hfi.n hfi.c,.slice hli.a hli.n hli.c,.slice hag.a hag.n hag.c,.slice how.a how.n how.c,.slice har.a har.n har.c]
def anA (ab gb:Nat) (g:Gl) (role:Int) (ho hfi hli hag how har:Sl) (OU:List OuR) (FI:List Fs) (LI:List Lm) (AG OW:List Bool) (AR:List ArR):List It:=
 [.blk ab (anC g role ho hfi hli hag how har) 186,.sl ho 102 1 ((OU.map Prod.fst).map slC),.sl hfi 195 2 (FI.map Fs.cs),.sl hli 192 4 (LI.map Lm.cs),.sl hag 4 1 (AG.map bC),.sl how 4 1 (OW.map bC),.sl har 274 1 ((AR.map Prod.fst).map slC),.blk gb g.cs 27]++OU.map (nest 3 1 inC)++(FI.map fIt++AR.map (nest 276 4 Arv.cs))
def limTo (g:Gl) (role:Int) (t:To):Lm:=⟨t.k,(vis1 role (eA g.es t.e.toNat)).getD evZ⟩
def limFo (g:Gl) (role:Int) (ts:List To) (s:Nat):Lm:=ts.foldl (fun b t=>if t.s=(s:Int) then limTo g role t else b) lm0
def agFo (es:List Ed) (s:Nat):Bool:=es.any fun x=>decide (x.f=(s:Int))&&x.ag
def owFo (es:List Ed) (role:Int) (s:Nat):Bool:=es.any fun x=>decide (x.f=(s:Int))&&decide (x.a=role)
def outJ (es:List Ed) (j:Nat) (s:Nat):List Nat:=(List.range j).filter (outGP es (s:Int))
theorem outJ_snoc {es:List Ed} {j:Nat} {x:Ed} (hx:es[j]?=some x) (s:Nat):outJ es (j+1) s=outJ es j s++(if x.f=(s:Int) then [j] else []):=by
 unfold outJ;rw[List.range_succ,List.filter_append];congr 1;have hp:outGP es (s:Int) j=decide (x.f=(s:Int)):=by unfold outGP;rw[hx]
 by_cases e:x.f=(s:Int)
 .rw[if_pos e,List.filter_cons_of_pos (by rw[hp];exact decide_eq_true e)];rfl
 .rw[if_neg e,List.filter_cons_of_neg (by rw[hp,decide_eq_false e];simp)];rfl
theorem any_snoc {α:Type} {l:List α} {j:Nat} {x:α} (hx:l[j]?=some x) (p:α->Bool):(l.take (j+1)).any p=((l.take j).any p||p x):=by
 rw[take_snoc hx,List.any_append];simp
theorem range_set {α:Type} {n:Nat} {f f':Nat->α} {k:Nat} {y:α} (hk:k<n) (h1:f' k=y) (h2:∀s,s≠k->f' s=f s):((List.range n).map f).set k y=(List.range n).map f':=by
 apply Yyr;intro s;by_cases hs:s<n
 .by_cases e:k=s
  .subst e;rw[Yq (by rw[Yc,Yyd];exact hs),Yd,Yyb hs,<-h1];rfl
  .rw[Yy e,Yd,Yd,Yyb hs];show some (f s)=some (f' s);rw[h2 s (fun h=>e h.symm)]
 .rw[Yl (by rw[Yyh,Yc,Yyd];omega),Yl (by rw[Yc,Yyd];omega)]
theorem range_at {α:Type} {n:Nat} (f:Nat->α) {s:Nat} (hs:s<n):((List.range n).map f)[s]?=some (f s):=by rw[Yd,Yyb hs];rfl
theorem owFo_snoc {es:List Ed} {j:Nat} {x:Ed} (hx:es[j]?=some x) (role:Int) (s:Nat):owFo (es.take (j+1)) role s=(owFo (es.take j) role s||(decide (x.f=(s:Int))&&decide (x.a=role))):=by unfold owFo;rw[any_snoc hx]
theorem agFo_snoc {es:List Ed} {j:Nat} {x:Ed} (hx:es[j]?=some x) (s:Nat):agFo (es.take (j+1)) s=(agFo (es.take j) s||(decide (x.f=(s:Int))&&x.ag)):=by unfold agFo;rw[any_snoc hx]
theorem own117 {h0 h79 h39 h46:Heap} {m44:Nat} {I:Int->Heap->Nat->Prop} {y:Int} {g:Gl} {role:Int} {ho hfi hli hag how har:Sl} {OU:List OuR} {FI:List Fs} {LI:List Lm} {AG:List Bool} {AR:List ArR} {gb j n:Nat} {x:Ed} (hx:g.es[j]?=some x) (hf0:0<=x.f) (hf1:x.f.toNat<n)
  (hs:St h0 h79 (.blk h46.size x.cs 67::anA h39.size gb g role ho hfi hli hag how har OU FI LI AG ((List.range n).map (owFo (g.es.take j) role)) AR))
  (hI:∀h':Heap,St h0 h' (anA h39.size gb g role ho hfi hli hag how har OU FI LI AG ((List.range n).map (owFo (g.es.take (j+1)) role)) AR)->∃m,m<m44/\I (IntKind.wrap .i64 (y+1)) h' m) :
  V49za h79 h39 h46 m44 I y role:=by
 unfold V49za;have hwn:=(hs.len 6 (s:=how) (e:=4) (n:=1) (rows:=((List.range n).map (owFo (g.es.take j) role)).map bC) rfl (by omega)).1;rw[Yc,Yc,Yyd] at hwn;have hfn:((x.f.toNat:Nat):Int)=x.f:=Int.toNat_of_nonneg hf0;have fin:∀(v:Bool),v=owFo (g.es.take (j+1)) role x.f.toNat->((List.range n).map (owFo (g.es.take j) role)).set x.f.toNat v=(List.range n).map (owFo (g.es.take (j+1)) role):=fun v hv=>range_set hf1 hv.symm fun s hs'=>by
  rw[owFo_snoc hx,decide_eq_false (by omega)];simp
 refine⟨how,hs.rd 1 rfl (i:=13) rfl,x.f,hs.rd 0 rfl (i:=0) rfl,how,hs.rd 1 rfl (i:=13) rfl,x.f,hs.rd 0 rfl (i:=0) rfl,?_⟩;refine (hs.rows 6 rfl (by omega)).nbI (by omega) (by omega) fun b84 o85 d gd t=>?_;rw[range_at _ hf1] at gd;cases gd;refine⟨_,t.hd,sB_intro (fun c=>?_) (fun c=>?_)⟩
 .refine hs.set 6 rfl (by omega) (x:=x.f) (by omega) (by omega) true rfl rfl (fun b87 o88 h89 hs=>hI h89 ?_) rfl;rw[fin true (by rw[owFo_snoc hx,c];rfl)] at hs;exact hs.drop 1
 .refine⟨x.a,hs.rd 0 rfl (i:=1) rfl,?_⟩;refine hs.set 6 rfl (by omega) (x:=x.f) (by omega) (by omega) (x.a==role) rfl rfl (fun b92 o93 h94 hs=>hI h94 ?_) rfl;rw[fin (x.a==role) (by rw[owFo_snoc hx,c,hfn,decide_eq_true rfl,Bool.false_or,Bool.true_and];exact (Bool.eq_iff_iff.2 (by simp)))] at hs;exact hs.drop 1
theorem anA_G {h0 h:Heap} {ab gb:Nat} {g:Gl} {role:Int} {ho hfi hli hag how har:Sl} {OU:List OuR} {FI:List Fs} {LI:List Lm} {AG OW:List Bool} {AR:List ArR} {R:List It} (hs:St h0 h (anA ab gb g role ho hfi hli hag how har OU FI LI AG OW AR++R)) (hg:GI h0 g) (hO:OU.map Prod.snd=(List.range g.n.toNat).map fun s=>natI (outG g.es (s:Nat))) :
  AnG h ab g role ho (fun i=>((OU[i]?).map Prod.fst).getD ⟨none,0,0⟩):=by
 have hOl:OU.length=g.n.toNat:=by have:=congrArg List.length hO;simpa using this
 refine⟨hs.at 0 rfl (o:=0) (n:=10) rfl,hg.ext hs.ext,?_,fun i hi=>?_⟩
 .have h1:=hs.rw 1 (s:=ho) (e:=102) (n:=1) (rows:=(OU.map Prod.fst).map slC) rfl (by omega);have e:(OU.map Prod.fst).map slC=(List.range g.n.toNat).map fun i=>slC (((OU[i]?).map Prod.fst).getD ⟨none,0,0⟩):=by
   apply Yyr;intro i;rw[Yd,Yd,Yd];by_cases hi:i<g.n.toNat
   .obtain⟨q,hq⟩:=get_some (l:=OU) (i:=i) (by omega);rw[hq,Yyb hi,Option.map_some,Option.map_some,Option.map_some,hq];rfl
   .rw[Yl (by omega),Yl (by rw[Yyd];omega)];rfl
  rw[e] at h1;exact h1
 .obtain⟨q,hq⟩:=get_some (l:=OU) (i:=i) (by omega);have h1:=map_range_get hO hi;rw[Yd,hq] at h1;have h2:q.2=natI (outG g.es (i:Nat)):=Yyp h1;show Rw h 1 ((Option.map Prod.fst OU[i]?).getD ⟨none,0,0⟩) _;rw[hq,<-h2];refine hs.rwm (e:=3) ?_ (by omega);unfold anA;refine List.mem_append_left _ (List.mem_append_left _ (List.mem_append_right _ (Yp.2 ⟨q,Yb hq,rfl⟩)))
def AnSpec (g:Gl) (role:Int) (OU:List OuR) (FI:List Fs) (LI:List Lm) (AG OW:List Bool):Prop:=
 OU.map Prod.snd=((List.range g.n.toNat).map fun s=>natI (outG g.es (s:Nat)))/\FI.map (fun f=>(f.l,f.b))=((List.range g.n.toNat).map fun s=>(firstE g role (s:Nat),firstB g role (s:Nat)))/\LI=(List.range g.n.toNat).map (limFo g role g.ts)/\AG=(List.range g.n.toNat).map (agFo g.es)/\OW=(List.range g.n.toNat).map (owFo g.es role)
abbrev nilS:Sl:=⟨none,0,0⟩
theorem outJ_len (es:List Ed) (j s:Nat):(outJ es j s).length<=j:=Yys (List.length_filter_le _ _) (by rw[Yyd];exact Yyt _)
theorem natI_snoc1 (l:List Nat) (j:Nat):natI (l++[j])=natI l++[(j:Int)]:=by unfold natI;rw[Ym];rfl
theorem tail117 {g:Gl} {role:Int} {h:Heap} {R:Value->Heap->Prop} (hg:GI h g) (hV:ValidS g)
  (hK:∀(ab:Nat) (ho hfi hli hag how har:Sl) (OU:List OuR) (FI:List Fs) (LI:List Lm) (AG OW:List Bool) (h':Heap),St h h' (anA ab h.size g role ho hfi hli hag how har OU FI LI AG OW (List.replicate g.n.toNat (nilS,[])))->AnSpec g role OU FI LI AG OW->R (.tuple ⟨[.pointer (some ⟨ab,0,none⟩),.int .i64 0]⟩) h') :
  TailH g role h R:=by
 intro hF a b c d e hs;unfold V49a;have hN:=hV.num.n;have hM:=hV.num.m;have hE:=hV.num.e;have hen:=hg.e.ln;have htn:=hg.t.ln;have htm:=hg.t.sm;have hmx:g.n.toNat<=9223372036854775807:=by omega
 refine hs.newb fun h40 hs=>?_;have hs:=hs.blkAt 1 rfl g.n.toNat 1 ((List.replicate g.n.toNat nilS).map slC) (made42s _) (fun r hr=>by obtain⟨x,_,rfl⟩:=Yp.1 hr;rfl) (by rw[Yc,Yg]) hmx;have hs:=hs.blkAt 2 rfl g.n.toNat 4 ((List.replicate g.n.toNat lm0).map Lm.cs) (made256s _) (fun r hr=>by obtain⟨x,_,rfl⟩:=Yp.1 hr;rfl) (by rw[Yc,Yg]) hmx;have hs:=hs.blkAt 3 rfl g.n.toNat 1 ((List.replicate g.n.toNat false).map bC) (made4b _) (fun r hr=>by obtain⟨x,_,rfl⟩:=Yp.1 hr;rfl) (by rw[Yc,Yg]) hmx;have hs:=hs.blkAt 4 rfl g.n.toNat 1 ((List.replicate g.n.toNat false).map bC) (made4b _) (fun r hr=>by obtain⟨x,_,rfl⟩:=Yp.1 hr;rfl) (by rw[Yc,Yg]) hmx;have hs:=hs.blkAt 5 rfl g.n.toNat 1 ((List.replicate g.n.toNat nilS).map slC) (made268s _) (fun r hr=>by obtain⟨x,_,rfl⟩:=Yp.1 hr;rfl) (by rw[Yc,Yg]) hmx;have hs:=(hs.nil_ 195 2).perm (List.perm_middle (l₁:=[_,_])).symm;have hs:=hs.nests (α:=Arv) (e:=276) (k:=4) (cs:=Arv.cs) (A:=[_,_,_,_,_,_,_,_]) (B:=[]) g.n.toNat;rw[Yw] at hs;have hs:=hs.nests (α:=Int) (e:=3) (k:=1) (cs:=inC) (A:=[_,_,_,_,_,_,_,_]) (B:=_) g.n.toNat;generalize hho:(⟨some ⟨a.size,0,none⟩,g.n.toNat,g.n.toNat⟩:Sl)=ho at *;generalize hhl:(⟨some ⟨b.size,0,none⟩,g.n.toNat,g.n.toNat⟩:Sl)=hli at *;generalize hha:(⟨some ⟨c.size,0,none⟩,g.n.toNat,g.n.toNat⟩:Sl)=hag at *;generalize hhw:(⟨some ⟨d.size,0,none⟩,g.n.toNat,g.n.toNat⟩:Sl)=how at *;generalize hhr:(⟨some ⟨e.size,0,none⟩,g.n.toNat,g.n.toNat⟩:Sl)=har at *;have hs:St h h40 (anA hF.size h.size g role ho nilS hli hag how har (List.replicate g.n.toNat (nilS,[])) [] (List.replicate g.n.toNat lm0) (List.replicate g.n.toNat false) (List.replicate g.n.toNat false) (List.replicate g.n.toNat (nilS,[]))):=by
  subst hho hhl hha hhw hhr;unfold anA;rw[List.map_replicate (f:=Prod.fst),List.map_replicate (f:=Prod.fst)];exact hs
 clear hho hhl hha hhw hhr;refine⟨g.he,hs.rd 7 rfl (i:=6) rfl,?_⟩;have rr:∀ {α:Type} (f:Nat->α) (z:α),(∀s,f s=z)->List.replicate g.n.toNat z=(List.range g.n.toNat).map f:=fun {α} f z hz=>by
  apply Yyr;intro s;rw[List.getElem?_replicate];by_cases hsn:s<g.n.toNat
  .rw[if_pos hsn,range_at f hsn,hz]
  .rw[if_neg hsn,Yl (by rw[Yc,Yyd];omega)]
 refine⟨fun x h' μ=>∃(j:Nat) (OU:List OuR),x=(j:Int)/\μ=g.es.length-j/\j<=g.es.length/\OU.map Prod.snd=((List.range g.n.toNat).map fun s=>natI (outJ g.es j s)) /\
  St h h' (anA hF.size h.size g role ho nilS hli hag how har OU [] (List.replicate g.n.toNat lm0) ((List.range g.n.toNat).map (agFo (g.es.take j))) ((List.range g.n.toNat).map (owFo (g.es.take j) role)) (List.replicate g.n.toNat (nilS,[]))),
  ⟨_,0,List.replicate g.n.toNat (nilS,[]),rfl,rfl,by omega,?_,?_⟩,?_⟩
 .rw[List.map_replicate];exact rr _ _ fun s=>rfl
 .rw[<-rr (agFo (g.es.take 0)) false fun s=>rfl,<-rr (owFo (g.es.take 0) role) false fun s=>rfl];exact hs
 clear hs;rintro-_ h46 μ ⟨j,OU,rfl,rfl,hj,hOU,hs⟩;have hOl:OU.length=g.n.toNat:=by have:=congrArg List.length hOU;simpa using this
 refine sBi (fun c1=>?_) (fun c1=>?_)
 .refine (hg.e.rw.ext hs.ext).nbI (by omega) (by omega) fun b47 o48 x gx t=>?_;replace gx:g.es[j]?=some x:=gx;have hxe:=hE x (Yb gx);unfold EdS at hxe;have hxf:((x.f.toNat:Nat):Int)=x.f:=by omega
  have hxl:x.f.toNat<g.n.toNat:=by omega
  obtain⟨q,hq⟩:=get_some (l:=OU) (i:=x.f.toNat) (by omega);refine⟨_,_,_,_,_,_,t,?_⟩;refine hs.newput (vs:=x.cs) rfl rfl fun h56 hs=>?_;refine⟨ho,hs.rd 1 rfl (i:=9) rfl,x.f,hs.rd 0 rfl (i:=0) rfl,ho,hs.rd 1 rfl (i:=9) rfl,x.f,hs.rd 0 rfl (i:=0) rfl,?_⟩;have hon:=(hs.len 2 (s:=ho) (e:=102) (n:=1) (rows:=(OU.map Prod.fst).map slC) rfl (by omega)).1;rw[Yc,Yc] at hon;refine (hs.rows 2 rfl (by omega)).nbI (by omega) (by omega) fun b61 o62 d gd u=>?_;rw[Yd,hq] at gd;cases gd;refine⟨q.1,u.hd,?_⟩;refine hs.newbE fun h64 E64 hs=>⟨E64.sm,?_⟩;have hq2:q.2=natI (outJ g.es j x.f.toNat):=by
   have h1:=map_range_get hOU hxl;rw[Yd,hq] at h1;exact Yyp h1
  have hql:q.2.length<=400:=by rw[hq2];unfold natI;rw[Yc];have:=outJ_len g.es j x.f.toNat;omega
  have hs:St h h64 ((.blk h56.size (inC (j:Int)) 3 :: .blk h46.size x.cs 67::[.blk hF.size (anC g role ho nilS hli hag how har) 186,.sl ho 102 1 ((OU.map Prod.fst).map slC),.sl nilS 195 2 (([]:List Fs).map Fs.cs),.sl hli 192 4 ((List.replicate g.n.toNat lm0).map Lm.cs),.sl hag 4 1 (((List.range g.n.toNat).map (agFo (g.es.take j))).map bC),.sl how 4 1 (((List.range g.n.toNat).map (owFo (g.es.take j) role)).map bC),.sl har 274 1 (((List.replicate g.n.toNat ((nilS,[]):ArR)).map Prod.fst).map slC),.blk h.size g.cs 27])++OU.map (nest 3 1 inC)++(([]:List Fs).map fIt++(List.replicate g.n.toNat ((nilS,[]):ArR)).map (nest 276 4 Arv.cs))):=hs;have hqn:=(hs.nestLn hq (by omega)).ln;refine hs.nestAt hq app42 (j:Int) (hs.at 0 rfl (o:=0) (n:=1) rfl) rfl rfl (by omega) (by simp only[maxLen];omega) fun r h66 hr hs3=>?_;refine⟨sm_cons (hs.same hs3 1 1 rfl rfl) (sm_cons (hs.same hs3 2 2 rfl rfl) sm_nil),?_⟩;refine hs3.set 3 rfl (by omega) (x:=x.f) (by omega) (by omega) r rfl rfl (fun b67 o68 h69 hs=>?_) rfl;replace hs:=hs.drop 1;have hs:St h h69 (.blk h46.size x.cs 67::anA hF.size h.size g role ho nilS hli hag how har (OU.set x.f.toNat (r,q.2++[(j:Int)])) [] (List.replicate g.n.toNat lm0) ((List.range g.n.toNat).map (agFo (g.es.take j))) ((List.range g.n.toNat).map (owFo (g.es.take j) role)) (List.replicate g.n.toNat (nilS,[]))):=by
   unfold anA;rw[List.map_set (f:=Prod.fst)];exact hs
  have hOU2:(OU.set x.f.toNat (r,q.2++[(j:Int)])).map Prod.snd=((List.range g.n.toNat).map fun s=>natI (outJ g.es (j+1) s)):=by
   rw[List.map_set,hOU];refine range_set hxl ?_ fun s hs=>?_
   .show natI (outJ g.es (j+1) x.f.toNat)=q.2++[(j:Int)];rw[outJ_snoc gx,if_pos hxf.symm,natI_snoc1,hq2]
   .show natI (outJ g.es (j+1) s)=natI (outJ g.es j s);rw[outJ_snoc gx,if_neg (by omega),Yw]
  generalize OU.set x.f.toNat (r,q.2++[(j:Int)])=OU' at *;have hagn:=(hs.len 5 (s:=hag) (e:=4) (n:=1) (rows:=((List.range g.n.toNat).map (agFo (g.es.take j))).map bC) rfl (by omega)).1;rw[Yc,Yc,Yyd] at hagn;have fin:∀(v:Bool),v=agFo (g.es.take (j+1)) x.f.toNat->((List.range g.n.toNat).map (agFo (g.es.take j))).set x.f.toNat v=(List.range g.n.toNat).map (agFo (g.es.take (j+1))):=fun v hv=>range_set hxl hv.symm fun s hs'=>by
   rw[agFo_snoc gx,decide_eq_false (by omega)];simp
  refine⟨hag,hs.rd 1 rfl (i:=12) rfl,x.f,hs.rd 0 rfl (i:=0) rfl,hag,hs.rd 1 rfl (i:=12) rfl,x.f,hs.rd 0 rfl (i:=0) rfl,?_⟩;refine (hs.rows 5 rfl (by omega)).nbI (by omega) (by omega) fun b74 o75 d gd u2=>?_;rw[range_at _ hxl] at gd;cases gd;have last:∀ {hZ:Heap},St h hZ (.blk h46.size x.cs 67::anA hF.size h.size g role ho nilS hli hag how har OU' [] (List.replicate g.n.toNat lm0) ((List.range g.n.toNat).map (agFo (g.es.take (j+1)))) ((List.range g.n.toNat).map (owFo (g.es.take j) role)) (List.replicate g.n.toNat (nilS,[]))) ->
    V49za hZ hF h46 (g.es.length-j) (fun x h' μ=>∃(j:Nat) (OU:List OuR),x=(j:Int)/\μ=g.es.length-j/\j<=g.es.length/\OU.map Prod.snd=((List.range g.n.toNat).map fun s=>natI (outJ g.es j s))/\St h h' (anA hF.size h.size g role ho nilS hli hag how har OU [] (List.replicate g.n.toNat lm0) ((List.range g.n.toNat).map (agFo (g.es.take j))) ((List.range g.n.toNat).map (owFo (g.es.take j) role)) (List.replicate g.n.toNat (nilS,[])))) j role:=fun {hZ} hs=>by
   refine own117 gx (by omega) hxl hs fun h' hs'=>⟨_,?_,j+1,OU',by rw[w64 (by omega) (by omega)];omega,rfl,by omega,hOU2,hs'⟩;omega
  refine⟨_,u2.hd,sB_intro (fun c2=>?_) (fun c2=>?_)⟩
  .refine hs.set 5 rfl (by omega) (x:=x.f) (by omega) (by omega) true rfl rfl (fun b77 o78 h79 hs=>last ?_) rfl;rw[fin true (by rw[agFo_snoc gx,c2];rfl)] at hs;exact hs
  .refine⟨x.ag,hs.rd 0 rfl (i:=5) rfl,?_⟩;refine hs.set 5 rfl (by omega) (x:=x.f) (by omega) (by omega) x.ag rfl rfl (fun b97 o98 h99 hs=>last ?_) rfl;rw[fin x.ag (by rw[agFo_snoc gx,c2,hxf,decide_eq_true rfl,Bool.false_or,Bool.true_and])] at hs;exact hs
 .have hjn:j=g.es.length:=by omega
  subst hjn;rw[Yye] at hs;refine⟨g.ht,hs.rd 7 rfl (i:=7) rfl,?_⟩;refine⟨fun x h' μ=>∃j:Nat,x=(j:Int)/\μ=g.ht.n-j/\j<=g.ht.n/\St h h' (anA hF.size h.size g role ho nilS hli hag how har OU [] ((List.range g.n.toNat).map (limFo g role (g.ts.take j))) ((List.range g.n.toNat).map (agFo g.es)) ((List.range g.n.toNat).map (owFo g.es role)) (List.replicate g.n.toNat (nilS,[]))),⟨_,0,rfl,rfl,by omega,?_⟩,?_⟩
  .rw[<-rr (limFo g role (g.ts.take 0)) lm0 fun s=>rfl];exact hs
  clear hs c1;rintro-_ h121 μ ⟨k,rfl,rfl,hk,hs⟩;refine sBi (fun c2=>?_) (fun c2=>?_)
  .refine (hg.t.rw.ext hs.ext).nbI (by omega) (by omega) fun b122 o123 t gt u=>?_;replace gt:g.ts[k]?=some t:=gt;have htS:=hV.tim k t gt;obtain⟨he0,x,hx,hxf,_⟩:=htS.e;have hxl:=(Ya.1 hx).1;have hxe:=hE x (Yb hx);unfold EdS at hxe;have hts:t.s.toNat<g.n.toNat:=by omega
   refine⟨t.s,t.k,t.e,u,?_⟩;refine hs.newput (vs:=t.cs) rfl rfl fun h128 hs=>?_;refine⟨g.he,hs.rd 8 rfl (i:=6) rfl,t.e,hs.rd 0 rfl (i:=2) rfl,?_⟩;refine (hg.e.rw.ext hs.ext).nbI (by omega) (by omega) fun b131 o132 x' gx u2=>?_;rw[hx] at gx;cases gx;refine⟨_,_,_,_,_,_,u2,?_⟩;refine (seenR160 ⟨hF.size,0,none⟩ role x h128 (hs.rd 1 rfl (i:=8) rfl)).mono ?_;rintro _ h144 ⟨E144,rfl⟩;replace hs:=hs.step E144;have hlin:=(hs.len 4 (s:=hli) (e:=192) (n:=4) (rows:=((List.range g.n.toNat).map (limFo g role (g.ts.take k))).map Lm.cs) rfl (by omega)).1;rw[Yc,Yc,Yyd] at hlin;have rest:∀(y:Ev) (hy:(vis1 role x).getD evZ=y) {hZ:Heap},St h hZ (.blk h144.size y.cs 188 :: .blk h121.size t.cs 149::anA hF.size h.size g role ho nilS hli hag how har OU [] ((List.range g.n.toNat).map (limFo g role (g.ts.take k))) ((List.range g.n.toNat).map (agFo g.es)) ((List.range g.n.toNat).map (owFo g.es role)) (List.replicate g.n.toNat (nilS,[]))) ->
     (NB hli.a fun b153 o154=>(0<=t.s/\t.s<(hli.n:Nat))/\(okAt hZ ⟨b153,o154+Int.toNat t.s*4,none⟩ 4/\∀h155:Heap,h155=hputs hZ ⟨b153,o154+Int.toNat t.s*4,none⟩ 0 [.int .i64 t.k,.bool y.send,.int .i64 y.peer,.int .i64 y.label]->(∃m156,m156<g.ht.n-k/\∃j:Nat,IntKind.wrap .i64 ((k:Int)+1)=(j:Int)/\m156=g.ht.n-j/\j<=g.ht.n/\St h h155 (anA hF.size h.size g role ho nilS hli hag how har OU [] ((List.range g.n.toNat).map (limFo g role (g.ts.take j))) ((List.range g.n.toNat).map (agFo g.es)) ((List.range g.n.toNat).map (owFo g.es role)) (List.replicate g.n.toNat (nilS,[])))))):=fun y hy {hZ} hs=>by
    refine hs.set 5 rfl (by omega) (x:=t.s) (by omega) (by omega) (⟨t.k,y⟩:Lm) rfl rfl (fun b153 o154 h155 hs=>⟨_,?_,k+1,by rw[w64 (by omega) (by omega)];omega,rfl,by omega,?_⟩) rfl
    .omega
    .have e1:((List.range g.n.toNat).map (limFo g role (g.ts.take k))).set t.s.toNat (⟨t.k,y⟩:Lm)=(List.range g.n.toNat).map (limFo g role (g.ts.take (k+1))):=by
      refine range_set hts ?_ fun s hs=>?_
      .unfold limFo;rw[take_snoc gt,List.foldl_append];show (if t.s=((t.s.toNat:Nat):Int) then limTo g role t else _)=_;rw[if_pos (by omega)];unfold limTo;rw[eA_get hx,hy]
      .unfold limFo;rw[take_snoc gt,List.foldl_append];show (if t.s=((s:Nat):Int) then limTo g role t else _)=_;rw[if_neg (by omega)]
     rw[e1] at hs;exact hs.drop 2
   cases hvis:vis1 role x with
   | some y=>
    refine⟨y.send,y.peer,y.label,true,rfl,?_⟩;refine hs.newput (vs:=y.cs) rfl rfl fun h146 hs=>?_;refine⟨hli,hs.rd 2 rfl (i:=11) rfl,t.s,hs.rd 1 rfl (i:=0) rfl,t.k,hs.rd 1 rfl (i:=1) rfl,y.send,y.peer,y.label,hs.at 0 rfl (o:=0) (n:=3) rfl,?_⟩;exact rest y (by rw[hvis];rfl) hs
   | none=>
    refine⟨false,0,0,false,rfl,?_⟩;refine hs.newput (vs:=evZ.cs) rfl rfl fun h146 hs=>?_;refine⟨hli,hs.rd 2 rfl (i:=11) rfl,t.s,hs.rd 1 rfl (i:=0) rfl,t.k,hs.rd 1 rfl (i:=1) rfl,false,0,0,hs.at 0 rfl (o:=0) (n:=3) rfl,?_⟩;exact rest evZ (by rw[hvis];rfl) hs
  .rw[Yj (by omega)] at hs;refine⟨g.n,hs.rd 7 rfl (i:=3) rfl,?_⟩;refine⟨fun x h' μ=>∃(j:Nat) (hfi:Sl) (FI:List Fs),x=(j:Int)/\μ=g.n.toNat-j/\j<=g.n.toNat/\FI.map (fun f=>(f.l,f.b))=((List.range j).map fun s=>(firstE g role (s:Nat),firstB g role (s:Nat)))/\St h h' (anA hF.size h.size g role ho hfi hli hag how har OU FI ((List.range g.n.toNat).map (limFo g role g.ts)) ((List.range g.n.toNat).map (agFo g.es)) ((List.range g.n.toNat).map (owFo g.es role)) (List.replicate g.n.toNat (nilS,[]))),⟨_,0,nilS,[],rfl,rfl,Nat.zero_le _,rfl,hs⟩,?_⟩;clear hs c2 hk;rintro-_ h162 μ ⟨k,hfi,FI,rfl,rfl,hk,hFI,hs⟩;have hFl:FI.length=k:=by have:=congrArg List.length hFI;simpa using this
   refine sBi (fun c3=>?_) (fun c3=>?_)
   .refine⟨hfi,hs.rd 0 rfl (i:=10) rfl,?_⟩;have hOG:OU.map Prod.snd=((List.range g.n.toNat).map fun s=>natI (outG g.es (s:Nat))):=hOU;have hG:=anA_G (R:=[]) (by rw[Yw];exact hs) hg hOG;refine (firstsR161 hF.size g role ho _ k h162 hG hV (by omega)).mono ?_;rintro _ h167 ⟨r,rfl,hs2⟩;refine⟨r,firstB g role (k:Nat),rfl,hs2.ext.sm,?_⟩;have hs:=hs.join hs2;refine hs.newbE fun h168 E168 hs=>⟨E168.sm,?_⟩;have hfl:=hs.len 3 (s:=hfi) (e:=195) (n:=2) (rows:=FI.map Fs.cs) rfl (by omega);rw[Yc] at hfl;refine hs.appended 3 rfl app248 (news:=[Fs.cs ⟨r,firstE g role (k:Nat),firstB g role (k:Nat)⟩]) (hs.at 0 rfl (o:=0) (n:=2) rfl) rfl (fun q hq=>by rw[Ye] at hq;rw[hq];rfl) rfl (by show (hfi.n+1)*32<=140737488355328;omega) (by show hfi.n+1<=9223372036854775807;omega) fun s169 h170 n169 hs=>?_;refine hs.put 1 rfl (o:=10) (vs:=[.slice s169.a s169.n s169.c]) rfl (show 11<=15 by decide) fun h171 hs=>?_;refine⟨_,?_,k+1,s169,FI++[⟨r,firstE g role (k:Nat),firstB g role (k:Nat)⟩],by rw[w64 (by omega) (by omega)];omega,rfl,by omega,by rw[Ym,hFI,List.range_succ,Ym];rfl,?_⟩
    .omega
    .refine (hs.drop 1).perm ?_;unfold anA;rw[Ym (f:=Fs.cs),Ym (f:=fIt)];refine List.Perm.trans (List.Perm.of_eq (l₂:=[.blk hF.size (anC g role ho s169 hli hag how har) 186,.sl ho 102 1 ((OU.map Prod.fst).map slC),.sl s169 195 2 (FI.map Fs.cs++[⟨r,firstE g role (k:Nat),firstB g role (k:Nat)⟩].map Fs.cs),.sl hli 192 4 (((List.range g.n.toNat).map (limFo g role g.ts)).map Lm.cs),.sl hag 4 1 (((List.range g.n.toNat).map (agFo g.es)).map bC),.sl how 4 1 (((List.range g.n.toNat).map (owFo g.es role)).map bC),.sl har 274 1 (((List.replicate g.n.toNat ((nilS,[]):ArR)).map Prod.fst).map slC),.blk h.size g.cs 27]++OU.map (nest 3 1 inC)++((FI.map fIt++(List.replicate g.n.toNat ((nilS,[]):ArR)).map (nest 276 4 Arv.cs))++[.sl r 188 3 ((firstE g role (k:Nat)).map Ev.cs)])) ?_) (List.Perm.append_left _ ?_)
     .exact Yz ([.blk hF.size (anC g role ho s169 hli hag how har) 186,.sl ho 102 1 ((OU.map Prod.fst).map slC),.sl s169 195 2 (FI.map Fs.cs++[⟨r,firstE g role (k:Nat),firstB g role (k:Nat)⟩].map Fs.cs),.sl hli 192 4 (((List.range g.n.toNat).map (limFo g role g.ts)).map Lm.cs),.sl hag 4 1 (((List.range g.n.toNat).map (agFo g.es)).map bC),.sl how 4 1 (((List.range g.n.toNat).map (owFo g.es role)).map bC),.sl har 274 1 (((List.replicate g.n.toNat ((nilS,[]):ArR)).map Prod.fst).map slC),.blk h.size g.cs 27]++OU.map (nest 3 1 inC)) (FI.map fIt++(List.replicate g.n.toNat ((nilS,[]):ArR)).map (nest 276 4 Arv.cs)) [.sl r 188 3 ((firstE g role (k:Nat)).map Ev.cs)]
     .rw[Yz,Yz];exact List.Perm.append_left _ List.perm_append_comm
   .have hkn:k=g.n.toNat:=by omega
    subst hkn;exact hK hF.size ho hfi hli hag how har OU FI _ _ _ h162 hs ⟨hOU,hFI,rfl,rfl,rfl⟩
theorem analyse117 (g:Gl) (role:Int) (h:Heap) (hg:GI h g) (hx:Gm h) :
  Fn Pz 49 #[g.v,.int .i64 role] h fun v h'=>(¬(ValidS g/\0<=role/\role<g.rs.length)/\v=.tuple ⟨[.pointer none,.int .i64 1]⟩/\Ext h h') \/
   ((ValidS g/\0<=role/\role<g.rs.length)/\∃(ab:Nat) (ho hfi hli hag how har:Sl) (OU:List OuR) (FI:List Fs) (LI:List Lm) (AG OW:List Bool),v=.tuple ⟨[.pointer (some ⟨ab,0,none⟩),.int .i64 0]⟩/\St h h' (anA ab h.size g role ho hfi hli hag how har OU FI LI AG OW (List.replicate g.n.toNat (nilS,[])))/\AnSpec g role OU FI LI AG OW):=by
 apply vc49 (bs g.nm) g.hr g.hd g.n g.s g.e g.he g.ht role;unfold W49;have hrn:=hg.r.ln;refine (St.refl h).newb fun h9 hs=>?_;refine⟨_,_,_,_,_,_,_,_,hs.at 0 rfl (n:=8) rfl,?_⟩;refine (valid38 g h9 (hg.ext hs.ext) (hx.ext hs.ext)).mono ?_;rintro _ h20 ⟨rfl,E20⟩;replace hs:=hs.step E20;refine⟨_,rfl,?_⟩;by_cases hV:ValidS g
 .rw[decide_eq_true hV];refine sB_f rfl ?_;refine sBi (fun c=>.inl ⟨fun h=>by omega,rfl,hs.ext⟩) (fun c1=>?_);refine⟨g.hr,hs.rd 0 rfl (i:=1) rfl,sBi (fun c=>.inl ⟨fun h=>by omega,rfl,hs.ext⟩) (fun c2=>?_)⟩;have hN:=hV.num.n;refine⟨_,_,_,_,_,_,_,_,hs.at 0 rfl (n:=8) rfl,g.n,hs.rd 0 rfl (i:=3) rfl,g.n,hs.rd 0 rfl (i:=3) rfl,g.n,hs.rd 0 rfl (i:=3) rfl,g.n,hs.rd 0 rfl (i:=3) rfl,g.n,hs.rd 0 rfl (i:=3) rfl,?_⟩;have hT:TailH g role h fun v h'=>(¬(ValidS g/\0<=role/\role<g.rs.length)/\v=.tuple ⟨[.pointer none,.int .i64 1]⟩/\Ext h h') \/
   ((ValidS g/\0<=role/\role<g.rs.length)/\∃(ab:Nat) (ho hfi hli hag how har:Sl) (OU:List OuR) (FI:List Fs) (LI:List Lm) (AG OW:List Bool),v=.tuple ⟨[.pointer (some ⟨ab,0,none⟩),.int .i64 0]⟩/\St h h' (anA ab h.size g role ho hfi hli hag how har OU FI LI AG OW (List.replicate g.n.toNat (nilS,[])))/\AnSpec g role OU FI LI AG OW):=
   tail117 hg hV fun ab ho hfi hli hag how har OU FI LI AG OW h' hs hsp=>.inr ⟨⟨hV,by omega,by omega⟩,ab,ho,hfi,hli,hag,how,har,OU,FI,LI,AG,OW,rfl,hs,hsp⟩
  have hn:1<=g.n/\g.n<=200:=⟨by omega,by omega⟩;exact⟨nV117H0 hT hn hs,nV117H1 hT hn hs,nV117H2 hT hn hs,nV117H3 hT hn hs,nV117H4 hT hn hs⟩
 .rw[decide_eq_false hV];refine sB_t rfl (.inl ⟨fun h=>hV h.1,rfl,hs.ext⟩)
end Go.VC
end

section
namespace Go.VC
open Go.Proofs
/- (*farandole/realize.analysis).early
   loop rborrlbrrborrlbrrrrb: x_40:Int
   loop rborrlbrrb: x_14:Int
   loop rb: x_5:Int -/
def W82 (p0:Addr) (h:Heap) (R:Value->Heap->Prop):Prop:=
 (∃x1,rI h ⟨p0.block,p0.off+3,none⟩ x1 /\ 
 (QI 0 h fun I2 x_5 h6 m4=>(
 (sB (decide (x_5<x1)) 
 ((∃x7,rS h6 ⟨p0.block,p0.off+9,none⟩ x7 /\ 
 (NB x7.a fun b8 o9=>(Ib x_5 x7.n /\ 
 (∃x10,rS h6 ⟨b8,o9+Int.toNat x_5*1,none⟩ x10 /\ 
 (QI 0 h6 fun I11 x_14 h15 m13=>(
 (sB (decide (x_14<(x10.n:Int))) 
 ((NB x10.a fun b16 o17=>(Ib x_14 x10.n /\ 
 (∃x18,rI h15 ⟨b16,o17+Int.toNat x_14*1,none⟩ x18 /\ 
 (∃x19,rS h15 ⟨p0.block,p0.off+6,none⟩ x19 /\ 
 (NB x19.a fun b20 o21=>(Ib x18 x19.n /\ 
 (∃x22,rI h15 ⟨b20,o21+Int.toNat x18*6+1+1,none⟩ x22 /\ 
 (∃x23,rI h15 ⟨p0.block,p0.off+8,none⟩ x23 /\ 
 (sB (x22 != x23) 
 ((∃m24,m24<m13/\I11 (IntKind.wrap .i64 (x_14+1)) h15 m24)) 
 ((∃x25:ByteArray,∃x26:Sl,∃x27:Sl,∃x28:Int,∃x29:Int,∃x30:Int,∃x31:Sl,∃x32:Sl,atC h15 p0 [.string x25,vS x26,vS x27,vI x28,vI x29,vI x30,vS x31,vS x32] /\ 
 (Fn Pz 31 #[.agg ⟨[.string x25,vS x26,vS x27,vI x28,vI x29,vI x30,vS x31,vS x32]⟩,vI x18] h15 
 (fun v33 h36=>∃x34:Sl,∃x35:Int,v33=.tuple ⟨[vS x34,vI x35]⟩ /\ 
 (QI 0 h36 fun I37 x_40 h41 m39=>(
 (sB (decide (x_40<(x34.n:Int))) 
 ((NB x34.a fun b42 o43=>(Ib x_40 x34.n /\ 
 (∃x44:Int,∃x45:Int,atC h41 ⟨b42,o43+Int.toNat x_40*2,none⟩ [vI x44,vI x45] /\ 
 (Wn h41 [vI 0,vI 0] 72 fun h46=>
 (Wp h46 (aS h41 0) 2 [vI x44,vI x45] fun h47=>
 (∃x48,rI h47 (aS h41 0) x48 /\ 
 (∃x49,rS h47 ⟨p0.block,p0.off+6,none⟩ x49 /\ 
 (NB x49.a fun b50 o51=>(Ib x18 x49.n /\ 
 (∃x52,rI h47 ⟨b50,o51+Int.toNat x18*6+1,none⟩ x52 /\ 
 (sB (x48==x52) 
 ((∃m53,m53<m39/\I37 (IntKind.wrap .i64 (x_40+1)) h47 m53)) 
 ((∃x54:ByteArray,∃x55:Sl,∃x56:Sl,∃x57:Int,∃x58:Int,∃x59:Int,∃x60:Sl,∃x61:Sl,atC h47 p0 [.string x54,vS x55,vS x56,vI x57,vI x58,vI x59,vS x60,vS x61] /\ 
 (∃x62:Int,∃x63:Int,atC h47 (aS h41 0) [vI x62,vI x63] /\ 
 (Fn Pz 32 #[.agg ⟨[.string x54,vS x55,vS x56,vI x57,vI x58,vI x59,vS x60,vS x61]⟩,vI x18,.agg ⟨[vI x62,vI x63]⟩] h47 
 (fun v64 h67=>∃x65:Sl,∃x66:Int,v64=.tuple ⟨[vS x65,vI x66]⟩ /\ 
 (∃x68,rS h67 ⟨p0.block,p0.off+14,none⟩ x68 /\ 
 (∃x69,rS h67 ⟨p0.block,p0.off+14,none⟩ x69 /\ 
 (NB x69.a fun b70 o71=>(Ib x_5 x69.n /\ 
 (∃x72,rS h67 ⟨b70,o71+Int.toNat x_5*1,none⟩ x72 /\ 
 (∃x73:Int,∃x74:Int,atC h67 (aS h41 0) [vI x73,vI x74] /\ 
 (Wn h67 [vI x18,vI (IntKind.wrap .i64 (1+(x65.n:Int))),vI x73,vI x74] 276 fun h75=>
 (Sm [⟨b70,o71+Int.toNat x_5*1,none⟩,⟨p0.block,p0.off+14,none⟩,⟨p0.block,p0.off+14,none⟩] h67 h75 /\ 
 (App Pz 274 274 (vS x72) (.slice (some (aS h67 0)) 1 1) h75 fun s76 h77=>
 (Sm [⟨p0.block,p0.off+14,none⟩] h75 h77 /\ 
 (NB x68.a fun b78 o79=>(Ib x_5 x68.n /\ 
 (Wp h77 ⟨b78,o79+Int.toNat x_5*1,none⟩ 1 [vS s76] fun h80=>
 (∃m81,m81<m39/\I37 (IntKind.wrap .i64 (x_40+1)) h80 m81))))))))))))))))))))))))))))))) 
 ((∃m82,m82<m13/\I11 (IntKind.wrap .i64 (x_14+1)) h41 m82))))))))))))))))))) 
 ((∃m83,m83<m4/\I2 (IntKind.wrap .i64 (x_5+1)) h15 m83)))))))))) 
 (R (.tuple ⟨[]⟩) h6)))))
theorem vc82e (p0:Addr) (h:Heap) (R:Value->Heap->Prop):W82 p0 h R=fnW Pz 82 (.s .z (.b (.l [(16,.one (.int .i64))] (.s .z (.s .z (.s (.b (.s .z (.s .z (.b (.l [(27,.one (.int .i64))] (.s .z (.s .z (.s (.b (.s .z (.s .z (.s .z (.s .z (.b (.l [(57,.one (.int .i64))] .z))))))) .z)))))))) .z)))))) #[.pointer (some p0)] h R:=by kernel_rfl
theorem vc82 (p0:Addr) (h:Heap) (R:Value->Heap->Prop) (H:W82 p0 h R):Fn Pz 82 #[.pointer (some p0)] h R:=fnI (vc82e p0 h R) H
end Go.VC
end

section
namespace Go.VC
open Go.Proofs Go.LexS
def arv1 (g:Gl) (i:Nat) (m:Ms):Arv:=⟨(i:Int),1+((pthS g i m).length:Int),m⟩
def arM (g:Gl) (i:Nat) (l:List Ms):List Arv:=(l.filter fun m=>decide (m.p≠(eA g.es i).a)).map (arv1 g i)
def arr1 (g:Gl) (role:Int) (i:Nat):List Arv:=if (eA g.es i).b=role then arM g i (earS g i) else []
def arrS (g:Gl) (role:Int) (s:Nat):List Arv:=(outG g.es (s:Nat)).flatMap (arr1 g role)
theorem arM_snoc {g:Gl} {i:Nat} {l:List Ms} {k:Nat} {m:Ms} (hm:l[k]?=some m):arM g i (l.take (k+1))=arM g i (l.take k)++(if m.p≠(eA g.es i).a then [arv1 g i m] else []):=by
 unfold arM;rw[take_snoc hm,List.filter_append,Ym];congr 1;by_cases e:m.p≠(eA g.es i).a
 .rw[if_pos e,List.filter_cons_of_pos (by rw[decide_eq_true e])];rfl
 .rw[if_neg e,List.filter_cons_of_neg (by rw[decide_eq_false e];decide)];rfl
def anB (ab gb:Nat) (g:Gl) (role:Int) (ho hfi hli hag how har:Sl) (OU:List OuR) (FI:List Fs) (LI:List Lm) (AG OW:List Bool) (AR:List ArR) (R:List It):List It:=
 ([.blk ab (anC g role ho hfi hli hag how har) 186,.sl ho 102 1 ((OU.map Prod.fst).map slC),.sl hfi 195 2 (FI.map Fs.cs),.sl hli 192 4 (LI.map Lm.cs),.sl hag 4 1 (AG.map bC),.sl how 4 1 (OW.map bC),.sl har 274 1 ((AR.map Prod.fst).map slC),.blk gb g.cs 27]++OU.map (nest 3 1 inC)++FI.map fIt)++AR.map (nest 276 4 Arv.cs)++R
theorem anB_eq (ab gb:Nat) (g:Gl) (role:Int) (ho hfi hli hag how har:Sl) (OU:List OuR) (FI:List Fs) (LI:List Lm) (AG OW:List Bool) (AR:List ArR) (R:List It):anB ab gb g role ho hfi hli hag how har OU FI LI AG OW AR R=anA ab gb g role ho hfi hli hag how har OU FI LI AG OW AR++R:=by
 unfold anB anA;simp only[Yz]
structure ArI (g:Gl) (role:Int) (f:Nat->List Arv) (AR:List ArR):Prop where
 l:AR.map Prod.snd=(List.range g.n.toNat).map f
 b:∀q∈AR,∀x∈q.2,0<x.n/\x.n<=1048577
theorem ArI.len {g:Gl} {role:Int} {f:Nat->List Arv} {AR:List ArR} (h:ArI g role f AR):AR.length=g.n.toNat:=by have:=congrArg List.length h.l;simpa using this
theorem early118 {h0 h:Heap} {ab gb:Nat} {g:Gl} {role:Int} {ho hfi hli hag how har:Sl} {OU:List OuR} {FI:List Fs} {LI:List Lm} {AG OW:List Bool} {R:List It} (hs:St h0 h (anB ab gb g role ho hfi hli hag how har OU FI LI AG OW (List.replicate g.n.toNat (nilS,[])) R)) (hg:GI h0 g) (hx:Gm h0) (hV:ValidS g)
  (hO:OU.map Prod.snd=(List.range g.n.toNat).map fun s=>natI (outG g.es (s:Nat))) :
  Fn Pz 82 #[.pointer (some ⟨ab,0,none⟩)] h fun v h'=>v=.tuple ⟨[]⟩/\∃AR:List ArR,St h0 h' (anB ab gb g role ho hfi hli hag how har OU FI LI AG OW AR R)/\ArI g role (arrS g role) AR/\∀q∈AR,q.2.length<=160000:=by
 apply vc82 ⟨ab,0,none⟩;unfold W82;have hN:=hV.num.n;have hM:=hV.num.m;have hE:=hV.num.e;have hen:=hg.e.ln;have hOl:OU.length=g.n.toNat:=by have:=congrArg List.length hO;simpa using this
 refine⟨g.n,hs.rd 0 rfl (i:=3) rfl,?_⟩;refine⟨fun x h' μ=>∃(s:Nat) (AR:List ArR),x=(s:Int)/\μ=g.n.toNat-s/\s<=g.n.toNat/\St h0 h' (anB ab gb g role ho hfi hli hag how har OU FI LI AG OW AR R)/\ArI g role (fun t=>if t<s then arrS g role t else []) AR/\∀q∈AR,q.2.length<=160000,⟨_,0,_,rfl,rfl,Nat.zero_le _,hs,⟨?_,fun q hq x hx=>?_⟩,fun q hq=>?_⟩,?_⟩
 .rw[List.map_replicate];apply Yyr;intro s;rw[List.getElem?_replicate,Yd];by_cases hs:s<g.n.toNat
  .rw[if_pos hs,Yyb hs];rfl
  .rw[if_neg hs,Yl (by rw[Yyd];omega)];rfl
 .rw[List.eq_of_mem_replicate hq] at hx;cases hx
 .rw[List.eq_of_mem_replicate hq];exact Nat.zero_le _
 clear hs;rintro-_ h6 μ ⟨s,AR,rfl,rfl,hsn,hs,hAR,hAl⟩;refine sBi (fun c=>?_) (fun c=>?_)
 .obtain⟨qo,hqo⟩:=get_some (l:=OU) (i:=s) (by omega);have hqo2:qo.2=natI (outG g.es (s:Nat)):=by
   have h1:=map_range_get hO (s:=s) (by omega);rw[Yd,hqo] at h1;exact Yyp h1
  have hol:=outG_len g.es (s:Nat);have hhon:=(hs.len 1 (s:=ho) (e:=102) (n:=1) (rows:=(OU.map Prod.fst).map slC) rfl (by omega)).1;rw[Yc,Yc] at hhon;refine⟨ho,hs.rd 0 rfl (i:=9) rfl,?_⟩;refine (hs.rows 1 rfl (by omega)).nbI (by omega) (by omega) fun b8 o9 d gd u=>?_;replace gd:(OU.map Prod.fst)[s]?=some d:=gd;rw[Yd,hqo] at gd;cases gd;refine⟨qo.1,u.hd,?_⟩;have hmem:∀ {AR F},.sl qo.1 3 1 (qo.2.map inC)∈(F++anB ab gb g role ho hfi hli hag how har OU FI LI AG OW AR R:List It):=fun {AR F}=>by
   refine List.mem_append_right _ ?_;unfold anB;refine List.mem_append_left _ (List.mem_append_left _ (List.mem_append_left _ (List.mem_append_right _ (Yp.2 ⟨qo,Yb hqo,rfl⟩))))
  have hrw0:Rw h6 1 qo.1 (qo.2.map inC):=hs.rwm (hmem (F:=[])) (by omega);have hqn:qo.1.n=(outG g.es (s:Nat)).length:=by have:=hrw0.1;rw[Yc,hqo2] at this;rw[this];exact Yc _
  clear hrw0;refine⟨fun x h' μ=>∃(j:Nat) (AR:List ArR),x=(j:Int)/\μ=qo.1.n-j/\j<=qo.1.n/\St h0 h' (anB ab gb g role ho hfi hli hag how har OU FI LI AG OW AR R)/\ArI g role (fun t=>if t<s then arrS g role t else if t=s then ((outG g.es (s:Nat)).take j).flatMap (arr1 g role) else []) AR/\(∀q∈AR,q.2.length<=160000)/\(((outG g.es (s:Nat)).take j).flatMap (arr1 g role)).length<=400*j,⟨_,0,AR,rfl,rfl,Nat.zero_le _,hs,?_,hAl,Nat.zero_le _⟩,?_⟩
  .refine⟨?_,hAR.b⟩;rw[hAR.l];apply List.map_congr_left;intro t _;by_cases e1:t<s
   .rw[if_pos e1,if_pos e1]
   .rw[if_neg e1,if_neg e1];by_cases e2:t=s
    .rw[if_pos e2];rfl
    .rw[if_neg e2]
  clear hs hAR hAl;rintro-_ h15 μ ⟨j,AR,rfl,rfl,hj,hs,hAR,hAl,hjl⟩;have hrw:Rw h15 1 qo.1 (qo.2.map inC):=hs.rwm (hmem (F:=[])) (by omega);refine sBi (fun c2=>?_) (fun c2=>?_)
  .refine hrw.nbI (by omega) (by omega) fun b16 o17 d gd u2=>?_;rw[hqo2] at gd;obtain⟨k,hk,rfl⟩:=natI_get gd;replace hk:(outG g.es (s:Nat))[j]?=some k:=hk;obtain⟨x0,hx0,hxf⟩:=outG_mem.1 (Yb hk);have hkl:=(Ya.1 hx0).1;have hxe:=eA_get hx0;have step1:∀ {AR':List ArR},ArI g role (fun t=>if t<s then arrS g role t else if t=s then ((outG g.es (s:Nat)).take j).flatMap (arr1 g role)++arr1 g role k else []) AR'->ArI g role (fun t=>if t<s then arrS g role t else if t=s then ((outG g.es (s:Nat)).take (j+1)).flatMap (arr1 g role) else []) AR':=fun {AR'} h9=>by
    rw[take_snoc hk,List.flatMap_append,List.flatMap_singleton];exact h9
   refine⟨(k:Int),u2.hd,g.he,hs.rd 0 rfl (i:=6) rfl,?_⟩;refine (hg.e.rw.ext hs.ext).nbI (by omega) (by omega) fun b20 o21 x gx u3=>?_;replace gx:g.es[k]?=some x:=gx;rw[hx0] at gx;cases gx;refine⟨x0.b,u3.nth 2 rfl,role,hs.rd 0 rfl (i:=8) rfl,sBn (fun c3=>?_) (fun c3=>?_)⟩
   .have e1:arr1 g role k=[]:=by unfold arr1;rw[hxe,if_neg c3]
    refine⟨_,?_,j+1,AR,by rw[w64 (by omega) (by omega)];omega,rfl,by omega,hs,step1 (by rw[e1,Yw];exact hAR),hAl,?_⟩
    .omega
    .rw[take_snoc hk,List.flatMap_append,List.flatMap_singleton,e1,Yw];omega
   .have e1:arr1 g role k=arM g k (earS g k):=by unfold arr1;rw[hxe,if_pos c3]
    refine⟨_,_,_,_,_,_,_,_,hs.at 0 rfl (o:=0) (n:=8) rfl,?_⟩;refine (early162 g k x0 h15 (hg.ext hs.ext) (hx.ext hs.ext) hV hx0).mono ?_;rintro _ h36 ⟨E36,sl,rfl,hso,hel⟩;replace hs:=(hs.join hso).perm (List.perm_append_comm (l₁:=anB ab gb g role ho hfi hli hag how har OU FI LI AG OW AR R) (l₂:=[_]));refine⟨sl,0,rfl,?_⟩;refine⟨fun x h' μ=>∃(l:Nat) (AR:List ArR),x=(l:Int)/\μ=sl.n-l/\l<=sl.n/\St h0 h' (.sl sl 72 2 ((earS g k).map Ms.cs)::anB ab gb g role ho hfi hli hag how har OU FI LI AG OW AR R)/\ArI g role (fun t=>if t<s then arrS g role t else if t=s then ((outG g.es (s:Nat)).take j).flatMap (arr1 g role)++arM g k ((earS g k).take l) else []) AR/\(∀q∈AR,q.2.length<=160000)/\(arM g k ((earS g k).take l)).length<=l,⟨_,0,AR,rfl,rfl,Nat.zero_le _,hs,?_,hAl,Nat.zero_le _⟩,?_⟩
    .have:arM g k ((earS g k).take 0)=[]:=rfl;rw[this,Yw];exact hAR
    clear hs hAR hAl hrw;rintro-_ h41 μ ⟨l,AR,rfl,rfl,hl,hs,hAR,hAl,hml⟩;have hsl:=(hs.len 0 (s:=sl) (e:=72) (n:=2) (rows:=(earS g k).map Ms.cs) rfl (by omega)).1;rw[Yc] at hsl;refine sBi (fun c4=>?_) (fun c4=>?_)
    .refine (hs.rows 0 rfl (by omega)).nbI (by omega) (by omega) fun b42 o43 m gm u4=>?_;replace gm:(earS g k)[l]?=some m:=gm;have hmm:=Yb gm;refine⟨m.p,m.l,u4,?_⟩;refine hs.newput (vs:=m.cs) rfl rfl fun h47 hs=>?_;refine⟨m.p,hs.rd 0 rfl (i:=0) rfl,g.he,hs.rd 2 rfl (i:=6) rfl,?_⟩;refine (hg.e.rw.ext hs.ext).nbI (by omega) (by omega) fun b50 o51 x gx u5=>?_;replace gx:g.es[k]?=some x:=gx;rw[hx0] at gx;cases gx;refine⟨x0.a,u5.nth 1 rfl,sBe (fun c5=>?_) (fun c5=>?_)⟩
     .have e2:arM g k ((earS g k).take (l+1))=arM g k ((earS g k).take l):=by rw[arM_snoc gm,if_neg (by rw[hxe];exact fun h9=>h9 c5),Yw]
      refine⟨_,?_,l+1,AR,by rw[w64 (by omega) (by omega)];omega,rfl,by omega,hs.drop 1,by rw[e2];exact hAR,hAl,by rw[e2];omega⟩;omega
     .have e2:arM g k ((earS g k).take (l+1))=arM g k ((earS g k).take l)++[arv1 g k m]:=by rw[arM_snoc gm,if_pos (by rw[hxe];exact c5)]
      refine⟨_,_,_,_,_,_,_,_,hs.at 2 rfl (o:=0) (n:=8) rfl,m.p,m.l,hs.at 0 rfl (o:=0) (n:=2) rfl,?_⟩;refine (path163 g k x0 m h47 (hg.ext hs.ext) (hx.ext hs.ext) hV hx0 hmm).mono ?_;rintro _ h67 ⟨E67,sp,rfl,hsp,hpl⟩;replace hs:=hs.step E67;have hspn:=(hsp.len 0 (s:=sp) (e:=65) (n:=3) rfl (by omega)).1;rw[Yc] at hspn;have hARl:=hAR.len;obtain⟨q,hq⟩:=get_some (l:=AR) (i:=s) (by omega);have hq2:q.2=((outG g.es (s:Nat)).take j).flatMap (arr1 g role)++arM g k ((earS g k).take l):=by
       have h1:=map_range_get hAR.l (s:=s) (by omega);rw[Yd,hq,if_neg (by omega),if_pos rfl] at h1;exact Yyp h1
      have hql:q.2.length<=400*j+l:=by rw[hq2,Yh];omega
      have hharn:=(hs.len 8 (s:=har) (e:=274) (n:=1) (rows:=(AR.map Prod.fst).map slC) rfl (by omega)).1;rw[Yc,Yc] at hharn;refine⟨sp,0,rfl,har,hs.rd 2 rfl (i:=14) rfl,har,hs.rd 2 rfl (i:=14) rfl,?_⟩;refine (hs.rows 8 rfl (by omega)).nbI (by omega) (by omega) fun b70 o71 d gd u6=>?_;replace gd:(AR.map Prod.fst)[s]?=some d:=gd;rw[Yd,hq] at gd;cases gd;refine⟨q.1,u6.hd,m.p,m.l,hs.at 0 rfl (o:=0) (n:=2) rfl,?_⟩;have hw:IntKind.wrap .i64 (1+(sp.n:Int))=1+((pthS g k m).length:Int):=by rw[w64 (by omega) (by omega),hspn]
      rw[hw];refine hs.newbE fun h75 E75 hs=>⟨E75.sm,?_⟩;have hs:St h0 h75 ((.blk h67.size (arv1 g k m).cs 276 :: .blk h41.size m.cs 72 :: .sl sl 72 2 ((earS g k).map Ms.cs)::([.blk ab (anC g role ho hfi hli hag how har) 186,.sl ho 102 1 ((OU.map Prod.fst).map slC),.sl hfi 195 2 (FI.map Fs.cs),.sl hli 192 4 (LI.map Lm.cs),.sl hag 4 1 (AG.map bC),.sl how 4 1 (OW.map bC),.sl har 274 1 ((AR.map Prod.fst).map slC),.blk gb g.cs 27]++OU.map (nest 3 1 inC)++FI.map fIt))++AR.map (nest 276 4 Arv.cs)++R):=hs;have hqn:=(hs.nestLn hq (by omega)).ln;refine hs.nestAt hq app268 (arv1 g k m) (hs.at 0 rfl (o:=0) (n:=4) rfl) rfl rfl (by omega) (by simp only[maxLen];omega) fun r h77 hr hs3=>⟨?_,?_⟩
      .exact sm_cons (hs.same hs3 3 3 rfl rfl) sm_nil
      .refine hs3.set 9 rfl (by omega) (x:=(s:Int)) (by omega) (by omega) r rfl rfl (fun b78 o79 h80 hs=>?_) rfl;refine⟨_,?_,l+1,AR.set s (r,q.2++[arv1 g k m]),by rw[w64 (by omega) (by omega)];omega,rfl,by omega,?_,⟨?_,fun q' hq' x hx'=>?_⟩,fun q' hq'=>?_,by rw[e2,Yh,Yv];omega⟩
       .omega
       .have hs:=hs.drop 2;unfold anB;rw[List.map_set (f:=Prod.fst)];exact hs
       .rw[List.map_set,hAR.l];refine range_set (by omega) ?_ fun t ht=>?_
        .simp only[Nat.lt_irrefl,if_false,if_true];rw[e2,hq2,Yz]
        .show (if t<s then arrS g role t else if t=s then _ else _)=(if t<s then arrS g role t else if t=s then _ else _);by_cases e3:t<s
         .rw[if_pos e3,if_pos e3]
         .rw[if_neg e3,if_neg e3,if_neg ht,if_neg ht]
       .rcases List.mem_or_eq_of_mem_set hq' with hq' | rfl
        .exact hAR.b q' hq' x hx'
        .rcases Yk.1 hx' with hx' | hx'
         .exact hAR.b q (Yb hq) x hx'
         .rw[Ye] at hx';subst hx';show 0<1+((pthS g k m).length:Int)/\1+((pthS g k m).length:Int)<=1048577;omega
       .rcases List.mem_or_eq_of_mem_set hq' with hq' | rfl
        .exact hAl q' hq'
        .show (q.2++[arv1 g k m]).length<=160000;rw[Yh,Yv];omega
    .rw[Yj (l:=earS g k) (by omega)] at hAR hml;refine⟨_,?_,j+1,AR,by rw[w64 (by omega) (by omega)];omega,rfl,by omega,hs.drop 1,step1 (by rw[e1];exact hAR),hAl,?_⟩
     .omega
     .rw[take_snoc hk,List.flatMap_append,List.flatMap_singleton,Yh,e1];omega
  .rw[Yj (by omega)] at hAR;refine⟨_,?_,s+1,AR,by rw[w64 (by omega) (by omega)];omega,rfl,by omega,hs,⟨?_,hAR.b⟩,hAl⟩
   .omega
   .rw[hAR.l];apply List.map_congr_left;intro t _;by_cases e1:t<s
    .rw[if_pos e1,if_pos (by omega)]
    .rw[if_neg e1];by_cases e2:t=s
     .subst e2;rw[if_pos rfl,if_pos (by omega)];rfl
     .rw[if_neg e2,if_neg (by omega)]
 .refine⟨rfl,AR,hs,⟨?_,hAR.b⟩,hAl⟩;rw[hAR.l];apply List.map_congr_left;intro t ht;rw[List.mem_range] at ht;rw[if_pos (by omega)]
def farI:Int:=1073741824
def dO (O:List (Pr × Nat)) (p:Pr):Int:=(mget O p).elim farI fun k=>(k:Int)
theorem at166 (ob:Nat) (O:List (Pr × Nat)) (p:Pr) (h:Heap) (hm:It.ok h (.mp ob (O.map fun q=>(pV q.1,natV q.2)))) (hk:∀q∈O,kokP q.1) (hn:(O.map Prod.fst).Nodup) (hp:kokP p) :
  Fn Pz 165 #[.map (some ob),.agg ⟨pC p⟩] h fun v h'=>v=.int .i64 (dO O p)/\Ext h h':=by
 apply vc165 (some ob) (p.1:Nat) (p.2:Nat);unfold W165;refine (St.refl h).newb fun h3 hs=>?_;refine⟨_,_,hs.at 0 rfl (o:=0) (n:=2) rfl,?_⟩;refine mlookI (a:=p) M278 (hm.keep fun b hb=>hs.ext.2 b (hm.lt hb)) hk hn hp true ?_;unfold dO;generalize mget O p=o;cases o with
 | none=>exact⟨0,false,rfl,rfl,hs.ext⟩
 | some k=>exact⟨(k:Int),true,rfl,rfl,hs.ext⟩
def okM (D:Pr->Int) (p:Pr) (m:Pmv):Bool:=decide ((plen m:Int)+D (pto m)=D p)
theorem clo169 (ob:Nat) (O:List (Pr × Nat)) (m:Pmv) (p:Pr) (c0 c1:Addr) (h:Heap) (hc0:hc h c0=some (.map (some ob))) (hc1:atC h c1 (pC p)) (hm:It.ok h (.mp ob (O.map fun q=>(pV q.1,natV q.2)))) (hk:∀q∈O,kokP q.1) (hn:(O.map Prod.fst).Nodup) (hp:kokP p) (hq:kokP (pto m)) (e1:((pto m).1:Int)=m.s) (e2:((pto m).2:Int)=m.t) (hb:0<=dO O (pto m)/\dO O (pto m)<=farI) :
  Fn Pz 168 #[.agg ⟨m.cs⟩,.pointer (some c0),.pointer (some c1)] h fun v h'=>v=.bool (okM (dO O) p m)/\Ext h h':=by
 apply vc168 m.x m.y m.s m.t c0 c1;unfold W168;have hpc:pC (pto m)=[.int .i64 m.s,.int .i64 m.t]:=by unfold pC;rw[e1,e2]
 have hpl:=plen_pos m;unfold farI at hb;refine (St.refl h).newb fun h5 hs=>?_;refine⟨_,_,_,_,hs.at 0 rfl (o:=0) (n:=4) rfl,some ob,hc_ext hs.ext hc0,_,_,hs.at 0 rfl (o:=2) (n:=2) rfl,some ob,hc_ext hs.ext hc0,_,_,atC_ext hs.ext hc1,?_⟩;refine (moveLen170 m.x m.y m.s m.t h5).mono ?_;rintro _ h18 ⟨rfl,E1⟩;replace hs:=hs.step E1;refine⟨_,rfl,E1.sm,?_⟩;have h166:=at166 ob O (pto m) h18 (hm.keep fun b hb=>hs.ext.2 b (hm.lt hb)) hk hn hq;rw[hpc] at h166;refine h166.mono ?_;rintro _ h21 ⟨rfl,E2⟩;replace hs:=hs.step E2;refine⟨_,rfl,E2.sm,?_⟩;refine (at166 ob O p h21 (hm.keep fun b hb=>hs.ext.2 b (hm.lt hb)) hk hn hp).mono ?_;rintro _ h24 ⟨rfl,E3⟩;replace hs:=hs.step E3;refine⟨_,rfl,E3.sm,?_,hs.ext⟩;have hw:(if 0<=m.x/\0<=m.y then (2:Int) else 1)=(plen m:Int):=by unfold plen;split<;>rfl
 rw[hw,w64 (by omega) (by omega)];unfold okM;congr 1
theorem cal169:callable Pz 168=true:=by kernel_rfl
theorem index168 (ob:Nat) (O:List (Pr × Nat)) (L:List Pmv) (p:Pr) (c0 c1:Addr) (s:Sl) (h:Heap) (hr:Rw h 4 s (L.map Pmv.cs)) (hl:L.length<=16777216) (hc0:hc h c0=some (.map (some ob))) (hc1:atC h c1 (pC p)) (hm:It.ok h (.mp ob (O.map fun q=>(pV q.1,natV q.2)))) (hk:∀q∈O,kokP q.1) (hn:(O.map Prod.fst).Nodup) (hp:kokP p)
  (hL:∀m∈L,kokP (pto m)/\((pto m).1:Int)=m.s/\((pto m).2:Int)=m.t/\0<=dO O (pto m)/\dO O (pto m)<=farI) :
  Fn Pz 167 #[.slice s.a s.n s.c,.func (.func 168) #[] #[.pointer (some c0),.pointer (some c1)]] h fun v h'=>v=.int .i64 (ixI (okM (dO O) p) L)/\Ext h h':=by
 apply vc167;unfold W167;have hn9:=hr.1;rw[Yc] at hn9;refine⟨fun x h' μ=>∃i:Nat,x=i/\μ=s.n-i/\i<=s.n/\Ext h h'/\∀(j:Nat) (y:Pmv),j<i->L[j]?=some y->okM (dO O) p y=false,⟨_,0,rfl,rfl,Nat.zero_le _,.rfl',fun j y hj=>by omega⟩,?_⟩;rintro-_ h5 μ ⟨i,rfl,rfl,hi,E,hd⟩;refine sBi (fun c=>?_) (fun c=>?_)
 .refine (hr.ext E).nbI (by omega) (by omega) fun b6 o7 q g t=>?_;replace g:L[i]?=some q:=g;obtain⟨q1,q2,q3,q4⟩:=hL q (Yb g);refine⟨q.x,q.y,q.s,q.t,t,?_⟩;show cond (callable Pz 168) _ _;rw[cal169,cond_true];refine (clo169 ob O q p c0 c1 h5 (hc_ext E hc0) (atC_ext E hc1) (hm.keep fun b hb=>E.2 b (hm.lt hb)) hk hn hp q1 q2 q3 q4).mono ?_;rintro _ h16 ⟨rfl,E2⟩;refine⟨_,rfl,sB_intro (fun c1=>⟨?_,E.trans E2⟩) (fun c1=>⟨_,by omega,i+1,by rw[w64 (by omega) (by omega)];omega,rfl,by omega,E.trans E2,fun j y hj hy=>?_⟩)⟩
  .unfold ixI;rw[ix_hit hd g c1]
  .by_cases e1:j=i
   .subst e1;rw[g] at hy;cases hy;exact c1
   .exact hd j y (by omega) hy
 .refine⟨?_,E⟩;unfold ixI;rw[ix_no fun j y hj=>hd j y (by have:=(Ya.1 hj).1;omega) hj]
structure Evn where
 r:Int
 s:Bool
 p:Int
 l:Int
 deriving DecidableEq
def Evn.cs (x:Evn):List Value:=[.int .i64 x.r,.bool x.s,.int .i64 x.p,.int .i64 x.l,.slice none 0 0]
def evn0:Evn:=⟨0,false,0,0⟩
structure Wt where
 k:Int
 r:Int
 f:Sl
 s:Sl
 e:Evn
 o:Evn
def Wt.cs (w:Wt):List Value:=[.int .i64 w.k,.int .i64 w.r,.slice w.f.a w.f.n w.f.c,.slice w.s.a w.s.n w.s.c,.int .i64 w.e.r,.bool w.e.s,.int .i64 w.e.p,.int .i64 w.e.l,.slice none 0 0,.int .i64 w.o.r,.bool w.o.s,.int .i64 w.o.p,.int .i64 w.o.l,.slice none 0 0]
def wt0:Wt:=⟨0,0,nilS,nilS,evn0,evn0⟩
def fullE (role:Int) (x:Ev):Evn:=⟨role,x.send,x.peer,x.label⟩
theorem full172 (b:Nat) (role:Int) (x:Ev) (h:Heap) (hro:hc h ⟨b,8,none⟩=some (.int .i64 role)):Fn Pz 171 #[.pointer (some ⟨b,0,none⟩),.agg ⟨x.cs⟩] h fun v h'=>Ext h h'/\v=.agg ⟨(fullE role x).cs⟩:=by
 apply vc171 ⟨b,0,none⟩ x.send x.peer x.label;unfold W171;refine (St.refl h).newb fun h4 hs=>?_;refine hs.newb fun h5 hs=>?_;refine⟨role,hc_ext hs.ext hro,x.send,hs.rd 1 rfl (i:=0) rfl,x.peer,hs.rd 1 rfl (i:=1) rfl,x.label,hs.rd 1 rfl (i:=2) rfl,?_⟩;refine hs.put 0 rfl (o:=0) (vs:=(fullE role x).cs) rfl (Yyt 5) fun h10 hs=>?_;exact⟨_,_,_,_,nilS,hs.at 0 rfl (o:=0) (n:=5) rfl,hs.ext,rfl⟩
inductive GTo (mv:Pr->List Pmv) (cst:Pr->Option Int) (D:Pr->Int) (p0:Pr):List Pmv->Pr->Prop
 | nil:GTo mv cst D p0 [] p0
 | snoc {ms:List Pmv} {p:Pr} {m:Pmv} {k:Nat}:GTo mv cst D p0 ms p->cst p≠some (D p)->(mv p).findIdx? (okM D p)=some k->(mv p)[k]?=some m->GTo mv cst D p0 (ms++[m]) (pto m)
def facts (g:Gl) (ms:List Pmv):List Ac:=ms.flatMap fun m=>if 0<=m.x then [(eA g.es m.x.toNat).act] else []
def sacts (g:Gl) (ms:List Pmv):List Ac:=ms.flatMap fun m=>if 0<=m.y then [(eA g.es m.y.toNat).act] else []
theorem facts_snoc (g:Gl) (ms:List Pmv) (m:Pmv):facts g (ms++[m])=facts g ms++if 0<=m.x then [(eA g.es m.x.toNat).act] else []:=by
 unfold facts;rw[List.flatMap_append,List.flatMap_singleton]
theorem sacts_snoc (g:Gl) (ms:List Pmv) (m:Pmv):sacts g (ms++[m])=sacts g ms++if 0<=m.y then [(eA g.es m.y.toNat).act] else []:=by
 unfold sacts;rw[List.flatMap_append,List.flatMap_singleton]
theorem facts_len (g:Gl) (ms:List Pmv):(facts g ms).length<=ms.length:=by
 induction ms with
 | nil=>exact Nat.zero_le _
 | cons a l ih=>
  unfold facts at *;rw[List.flatMap_cons,Yh,Yyj];split<;>simp only[Yv,List.length_nil]<;>omega
theorem sacts_len (g:Gl) (ms:List Pmv):(sacts g ms).length<=ms.length:=by
 induction ms with
 | nil=>exact Nat.zero_le _
 | cons a l ih=>
  unfold sacts at *;rw[List.flatMap_cons,Yh,Yyj];split<;>simp only[Yv,List.length_nil]<;>omega
theorem movL_ed {g:Gl} {role:Int} {s t:Nat} {m:Pmv} (hm:m∈movL g.es role s t):(0<=m.x->m.x.toNat<g.es.length)/\(0<=m.y->m.y.toNat<g.es.length):=by
 have hE:∀ {k:Nat} {s:Int},k∈outG g.es s->k<g.es.length:=fun {k s} hk=>by
  obtain⟨x,hx,_⟩:=outG_mem.1 hk;exact (Ya.1 hx).1
 unfold movL at hm;rcases Yk.1 hm with hm | hm
 .rcases Yk.1 hm with hm | hm
  .obtain⟨k,hk,rfl⟩:=Yp.1 hm;have:=hE (List.mem_filter.1 hk).1;exact⟨fun _=>this,fun h9=>absurd h9 (by show ¬(0:Int) <= -1;decide)⟩
  .obtain⟨k,hk,rfl⟩:=Yp.1 hm;have:=hE (List.mem_filter.1 hk).1;exact⟨fun h9=>absurd h9 (by show ¬(0:Int) <= -1;decide),fun _=>this⟩
 .unfold mbL at hm;obtain⟨i,hi,hm⟩:=List.mem_flatMap.1 hm;unfold mb1 at hm;split at hm
  .cases hm
  .obtain⟨k,hk,rfl⟩:=Yp.1 hm;exact⟨fun _=>hE hi,fun _=>hE (List.mem_filter.1 hk).1⟩
theorem St.appgB {h0 h h2:Heap} {L:List It} (hs:St h0 h L) (kb ks:Nat) {cb:Nat} {xs:List Value} {e0 t e:TypeId} {n bytes:Nat} {α:Type} {cs:α->List Value} {so:Sl} {X:List α} {x:α} (hkb:L[kb]?=some (.blk cb xs e0)) (hks:L[ks]?=some (.sl so e n (X.map cs)))
  (hT:appB Pz t e n bytes=true) (e2:h2=h.push (.cells ⟨cs x⟩ e)) (hc:(cs x).length=n) (ho:(cs x).all oneB=true) (hn:X.length<=16777216) (hnb:0<n/\bytes<=128) (f:Nat) (hf:f<xs.length) (hne:ks≠kb) {K:Heap->Prop}
  (hK:∀(s':Sl) (h':Heap),St h0 h' ((L.set ks (.sl s' e n ((X++[x]).map cs))).set kb (.blk cb (splice xs f [.slice s'.a s'.n s'.c]) e0))->K h') :
  App Pz t t (.slice so.a so.n so.c) (.slice (some ⟨h.size,0,none⟩) 1 1) h2 fun s55 h56=>okAt h56 ⟨cb,f,none⟩ 1/\∀h57:Heap,h57=hputs h56 ⟨cb,f,none⟩ 0 [.slice s55.a s55.n s55.c]->K h57:=by
 have hs2:St h0 h2 (.blk h.size (cs x) e::L):=hs.newb (K:=fun h2=>St h0 h2 (.blk h.size (cs x) e::L)) (fun _ h=>h) h2 e2;have hl:=(hs.len ks (s:=so) hks hnb.1).1;rw[Yc] at hl;have hb1:(so.n+1)*bytes<=16777217*128:=Nat.mul_le_mul (by omega) hnb.2;refine hs2.appended (ks+1) (s:=so) hks hT (x:=⟨h.size,0,none⟩) (m:=1) (c:=1) (news:=[cs x]) (hs2.at 0 rfl (o:=0) (n:=n) (by rw[List.drop_zero,<-hc,Yye];simp)) rfl (by intro r hr;rw[Ye.1 hr];exact hc) (by simpa using ho) (by omega) (by simp only[maxLen];omega) fun s55 h56 n55 hs3=>?_;have hs3:St h0 h56 (L.set ks (.sl s55 e n (X.map cs++[cs x]))):=hs3.drop 1;refine hs3.put kb (by rw[Yy hne];exact hkb) (o:=f) (vs:=[.slice s55.a s55.n s55.c]) rfl (by show f+1<=xs.length;omega) fun h57 hs4=>hK s55 h57 ?_;rw[Ym];exact hs4
end Go.VC
end

section
namespace Go.VC
open Go.Proofs
/- (*farandole/realize.analysis).byPairs
   join rrrrrrlbobrrr: 
   join rrrrrrlbobrrr: 
   loop rrrrrrlb:  -/
def V96c (p1:Int) (h50:Heap) (h6:Heap) (p0:Addr) (h16:Heap) (h:Heap) (R:Value->Heap->Prop) (x15:Int):Prop:=
 (sB (p1==1) 
 ((∃x51:Int,∃x52:Int,atC h50 (aS h6 0) [vI x51,vI x52] /\ 
 (Fn Pz 170 #[.pointer (some p0),.agg ⟨[vI x51,vI x52]⟩] h50 
 (fun v53 h58=>∃x54:Bool,∃x55:Int,∃x56:Int,∃x57:Bool,v53=.tuple ⟨[.agg ⟨[.bool x54,vI x55,vI x56]⟩,.bool x57]⟩ /\ 
 (Wn h58 [.bool false,vI 0,vI 0] 188 fun h59=>
 (Wp h59 (aS h58 0) 3 [.bool x54,vI x55,vI x56] fun h60=>
 (∃x61:Bool,∃x62:Int,∃x63:Int,atC h60 (aS h58 0) [.bool x61,vI x62,vI x63] /\ 
 (Fn Pz 171 #[.pointer (some p0),.agg ⟨[.bool x61,vI x62,vI x63]⟩] h60 
 (fun v64 h70=>∃x65:Int,∃x66:Bool,∃x67:Int,∃x68:Int,∃x69:Sl,v64=.agg ⟨[vI x65,.bool x66,vI x67,vI x68,vS x69]⟩ /\ 
 (Wp h70 (aS h16 4) 5 [vI x65,.bool x66,vI x67,vI x68,vS x69] fun h71=>
 (∃x72:Int,∃x73:Int,∃x74:Sl,∃x75:Sl,∃x76:Int,∃x77:Bool,∃x78:Int,∃x79:Int,∃x80:Sl,∃x81:Int,∃x82:Bool,∃x83:Int,∃x84:Int,∃x85:Sl,atC h71 (aS h16 0) [vI x72,vI x73,vS x74,vS x75,vI x76,.bool x77,vI x78,vI x79,vS x80,vI x81,.bool x82,vI x83,vI x84,vS x85] /\ 
 (Wp h71 (aS h 0) 14 [vI x72,vI x73,vS x74,vS x75,vI x76,.bool x77,vI x78,vI x79,vS x80,vI x81,.bool x82,vI x83,vI x84,vS x85] fun h86=>
 (∃x87:Int,∃x88:Int,∃x89:Sl,∃x90:Sl,∃x91:Int,∃x92:Bool,∃x93:Int,∃x94:Int,∃x95:Sl,∃x96:Int,∃x97:Bool,∃x98:Int,∃x99:Int,∃x100:Sl,atC h86 (aS h 0) [vI x87,vI x88,vS x89,vS x90,vI x91,.bool x92,vI x93,vI x94,vS x95,vI x96,.bool x97,vI x98,vI x99,vS x100] /\ 
 R (.tuple ⟨[.agg ⟨[vI x87,vI x88,vS x89,vS x90,vI x91,.bool x92,vI x93,vI x94,vS x95,vI x96,.bool x97,vI x98,vI x99,vS x100]⟩,vI x15]⟩) h86))))))))))))) 
 ((sB (p1==4) 
 ((∃x101:Int,∃x102:Int,atC h50 (aS h6 0) [vI x101,vI x102] /\ 
 (Fn Pz 152 #[.pointer (some p0),.agg ⟨[vI x101,vI x102]⟩] h50 
 (fun v103 h109=>∃x104:Int,∃x105:Int,∃x106:Int,∃x107:Int,∃x108:Bool,v103=.tuple ⟨[.agg ⟨[vI x104,vI x105,vI x106,vI x107]⟩,.bool x108]⟩ /\ 
 (Wn h109 [vI 0,vI 0,vI 0,vI 0] 276 fun h110=>
 (Wp h110 (aS h109 0) 4 [vI x104,vI x105,vI x106,vI x107] fun h111=>
 (∃x112:ByteArray,∃x113:Sl,∃x114:Sl,∃x115:Int,∃x116:Int,∃x117:Int,∃x118:Sl,∃x119:Sl,atC h111 p0 [.string x112,vS x113,vS x114,vI x115,vI x116,vI x117,vS x118,vS x119] /\ 
 (∃x120,rI h111 (aS h109 0) x120 /\ 
 (∃x121:Int,∃x122:Int,atC h111 (aS h109 2) [vI x121,vI x122] /\ 
 (Fn Pz 32 #[.agg ⟨[.string x112,vS x113,vS x114,vI x115,vI x116,vI x117,vS x118,vS x119]⟩,vI x120,.agg ⟨[vI x121,vI x122]⟩] h111 
 (fun v123 h126=>∃x124:Sl,∃x125:Int,v123=.tuple ⟨[vS x124,vI x125]⟩ /\ 
 (∃x127,rS h126 ⟨p0.block,p0.off+6,none⟩ x127 /\ 
 (∃x128,rI h126 (aS h109 0) x128 /\ 
 (NB x127.a fun b129 o130=>(Ib x128 x127.n /\ 
 (∃x131:Int,∃x132:Int,∃x133:Int,atC h126 ⟨b129,o130+Int.toNat x128*6+1,none⟩ [vI x131,vI x132,vI x133] /\ 
 (Wn h126 [vI 0,vI 0,vI 0] 65 fun h134=>
 (Sm [⟨b129,o130+Int.toNat x128*6+1,none⟩,(aS h109 0),⟨p0.block,p0.off+6,none⟩] h126 h134 /\ 
 (Wp h134 (aS h126 0) 3 [vI x131,vI x132,vI x133] fun h135=>
 (∃x136,rS h135 (aS h16 2) x136 /\ 
 (∃x137:Int,∃x138:Int,∃x139:Int,atC h135 (aS h126 0) [vI x137,vI x138,vI x139] /\ 
 (Wn h135 [vI x137,vI x138,vI x139] 65 fun h140=>
 (App Pz 30 30 (vS x136) (.slice (some (aS h135 0)) 1 1) h140 fun s141 h142=>
 (App Pz 30 30 (vS s141) (vS x124) h142 fun s143 h144=>
 (Wp h144 (aS h16 2) 1 [vS s143] fun h145=>
 (∃x146,rI h145 (aS h109 2) x146 /\ 
 (∃x147,rI h145 (aS h109 (2+1)) x147 /\ 
 (Fn Pz 171 #[.pointer (some p0),.agg ⟨[.bool false,vI x146,vI x147]⟩] h145 
 (fun v148 h154=>∃x149:Int,∃x150:Bool,∃x151:Int,∃x152:Int,∃x153:Sl,v148=.agg ⟨[vI x149,.bool x150,vI x151,vI x152,vS x153]⟩ /\ 
 (Wp h154 (aS h16 4) 5 [vI x149,.bool x150,vI x151,vI x152,vS x153] fun h155=>
 (∃x156,rI h155 (aS h126 0) x156 /\ 
 (∃x157,rI h155 (aS h126 2) x157 /\ 
 (Fn Pz 171 #[.pointer (some p0),.agg ⟨[.bool false,vI x156,vI x157]⟩] h155 
 (fun v158 h164=>∃x159:Int,∃x160:Bool,∃x161:Int,∃x162:Int,∃x163:Sl,v158=.agg ⟨[vI x159,.bool x160,vI x161,vI x162,vS x163]⟩ /\ 
 (Wp h164 (aS h16 9) 5 [vI x159,.bool x160,vI x161,vI x162,vS x163] fun h165=>
 (∃x166:Int,∃x167:Int,∃x168:Sl,∃x169:Sl,∃x170:Int,∃x171:Bool,∃x172:Int,∃x173:Int,∃x174:Sl,∃x175:Int,∃x176:Bool,∃x177:Int,∃x178:Int,∃x179:Sl,atC h165 (aS h16 0) [vI x166,vI x167,vS x168,vS x169,vI x170,.bool x171,vI x172,vI x173,vS x174,vI x175,.bool x176,vI x177,vI x178,vS x179] /\ 
 (Wp h165 (aS h 0) 14 [vI x166,vI x167,vS x168,vS x169,vI x170,.bool x171,vI x172,vI x173,vS x174,vI x175,.bool x176,vI x177,vI x178,vS x179] fun h180=>
 (∃x181:Int,∃x182:Int,∃x183:Sl,∃x184:Sl,∃x185:Int,∃x186:Bool,∃x187:Int,∃x188:Int,∃x189:Sl,∃x190:Int,∃x191:Bool,∃x192:Int,∃x193:Int,∃x194:Sl,atC h180 (aS h 0) [vI x181,vI x182,vS x183,vS x184,vI x185,.bool x186,vI x187,vI x188,vS x189,vI x190,.bool x191,vI x192,vI x193,vS x194] /\ 
 R (.tuple ⟨[.agg ⟨[vI x181,vI x182,vS x183,vS x184,vI x185,.bool x186,vI x187,vI x188,vS x189,vI x190,.bool x191,vI x192,vI x193,vS x194]⟩,vI x15]⟩) h180)))))))))))))))))))))))))))))))))))))) 
 ((∃x195:Int,∃x196:Int,∃x197:Sl,∃x198:Sl,∃x199:Int,∃x200:Bool,∃x201:Int,∃x202:Int,∃x203:Sl,∃x204:Int,∃x205:Bool,∃x206:Int,∃x207:Int,∃x208:Sl,atC h50 (aS h16 0) [vI x195,vI x196,vS x197,vS x198,vI x199,.bool x200,vI x201,vI x202,vS x203,vI x204,.bool x205,vI x206,vI x207,vS x208] /\ 
 (Wp h50 (aS h 0) 14 [vI x195,vI x196,vS x197,vS x198,vI x199,.bool x200,vI x201,vI x202,vS x203,vI x204,.bool x205,vI x206,vI x207,vS x208] fun h209=>
 (∃x210:Int,∃x211:Int,∃x212:Sl,∃x213:Sl,∃x214:Int,∃x215:Bool,∃x216:Int,∃x217:Int,∃x218:Sl,∃x219:Int,∃x220:Bool,∃x221:Int,∃x222:Int,∃x223:Sl,atC h209 (aS h 0) [vI x210,vI x211,vS x212,vS x213,vI x214,.bool x215,vI x216,vI x217,vS x218,vI x219,.bool x220,vI x221,vI x222,vS x223] /\ 
 R (.tuple ⟨[.agg ⟨[vI x210,vI x211,vS x212,vS x213,vI x214,.bool x215,vI x216,vI x217,vS x218,vI x219,.bool x220,vI x221,vI x222,vS x223]⟩,vI x15]⟩) h209)))))))
def V96a (h50:Heap) (h6:Heap) (p3:Option Nat) (h4:Heap) (h16:Heap) (p0:Addr) (m37:Nat) (I35:Heap->Nat->Prop):Prop:=
 (∃x224:Int,∃x225:Int,atC h50 (aS h6 0) [vI x224,vI x225] /\ 
 (RunW Pz (Instr.lookup 93 (.map p3) (.agg ⟨[vI x224,vI x225]⟩) false) h50 
 (fun v226 h228=>∃x227,iS v226 x227 /\ 
 (Fn Pz 167 #[vS x227,.func (.func 168) #[] #[.pointer (some (aS h4 0)),.pointer (some (aS h6 0))]] h228 
 (fun v229 h231=>∃x230,iI v229 x230 /\ 
 (NB x227.a fun b232 o233=>(Ib x230 x227.n /\ 
 (∃x234:Int,∃x235:Int,∃x236:Int,∃x237:Int,atC h231 ⟨b232,o233+Int.toNat x230*4,none⟩ [vI x234,vI x235,vI x236,vI x237] /\ 
 (Wn h231 [vI 0,vI 0,vI 0,vI 0] 200 fun h238=>
 (Wp h238 (aS h231 0) 4 [vI x234,vI x235,vI x236,vI x237] fun h239=>
 (∃J240:Heap->Prop, 
 ((∃x241,rI h239 (aS h231 0) x241 /\ 
 (sB (decide (x241>=0)) 
 ((∃x242,rS h239 (aS h16 2) x242 /\ 
 (∃x243,rS h239 ⟨p0.block,p0.off+6,none⟩ x243 /\ 
 (∃x244,rI h239 (aS h231 0) x244 /\ 
 (NB x243.a fun b245 o246=>(Ib x244 x243.n /\ 
 (∃x247:Int,∃x248:Int,∃x249:Int,atC h239 ⟨b245,o246+Int.toNat x244*6+1,none⟩ [vI x247,vI x248,vI x249] /\ 
 (Wn h239 [vI x247,vI x248,vI x249] 65 fun h250=>
 (Sm [(aS h16 2)] h239 h250 /\ 
 (App Pz 30 30 (vS x242) (.slice (some (aS h239 0)) 1 1) h250 fun s251 h252=>
 (Wp h252 (aS h16 2) 1 [vS s251] fun h253=>
 (J240 h253)))))))))))) 
 ((J240 h239))))) /\ 
 (∀(_:Env) (h254:Heap),J240 h254 -> 
 (∃x255,rI h254 (aS h231 1) x255 /\ 
 (sB (decide (x255>=0)) 
 ((∃x256,rS h254 (aS h16 3) x256 /\ 
 (∃x257,rS h254 ⟨p0.block,p0.off+6,none⟩ x257 /\ 
 (∃x258,rI h254 (aS h231 1) x258 /\ 
 (NB x257.a fun b259 o260=>(Ib x258 x257.n /\ 
 (∃x261:Int,∃x262:Int,∃x263:Int,atC h254 ⟨b259,o260+Int.toNat x258*6+1,none⟩ [vI x261,vI x262,vI x263] /\ 
 (Wn h254 [vI x261,vI x262,vI x263] 65 fun h264=>
 (Sm [(aS h16 3)] h254 h264 /\ 
 (App Pz 30 30 (vS x256) (.slice (some (aS h254 0)) 1 1) h264 fun s265 h266=>
 (Wp h266 (aS h16 3) 1 [vS s265] fun h267=>
 (∃x268:Int,∃x269:Int,atC h267 (aS h231 2) [vI x268,vI x269] /\ 
 (Wp h267 (aS h6 0) 2 [vI x268,vI x269] fun h270=>
 (∃m271,m271<m37/\I35 h270 m271)))))))))))))) 
 ((∃x272:Int,∃x273:Int,atC h254 (aS h231 2) [vI x272,vI x273] /\ 
 (Wp h254 (aS h6 0) 2 [vI x272,vI x273] fun h274=>
 (∃m275,m275<m37/\I35 h274 m275))))))))))))))))))
def V96b (h44:Heap) (h6:Heap) (p3:Option Nat) (h4:Heap) (h16:Heap) (p0:Addr) (m37:Nat) (I35:Heap->Nat->Prop):Prop:=
 (∃x276:Int,∃x277:Int,atC h44 (aS h6 0) [vI x276,vI x277] /\ 
 (RunW Pz (Instr.lookup 93 (.map p3) (.agg ⟨[vI x276,vI x277]⟩) false) h44 
 (fun v278 h280=>∃x279,iS v278 x279 /\ 
 (Fn Pz 167 #[vS x279,.func (.func 168) #[] #[.pointer (some (aS h4 0)),.pointer (some (aS h6 0))]] h280 
 (fun v281 h283=>∃x282,iI v281 x282 /\ 
 (NB x279.a fun b284 o285=>(Ib x282 x279.n /\ 
 (∃x286:Int,∃x287:Int,∃x288:Int,∃x289:Int,atC h283 ⟨b284,o285+Int.toNat x282*4,none⟩ [vI x286,vI x287,vI x288,vI x289] /\ 
 (Wn h283 [vI 0,vI 0,vI 0,vI 0] 200 fun h290=>
 (Wp h290 (aS h283 0) 4 [vI x286,vI x287,vI x288,vI x289] fun h291=>
 (∃J292:Heap->Prop, 
 ((∃x293,rI h291 (aS h283 0) x293 /\ 
 (sB (decide (x293>=0)) 
 ((∃x294,rS h291 (aS h16 2) x294 /\ 
 (∃x295,rS h291 ⟨p0.block,p0.off+6,none⟩ x295 /\ 
 (∃x296,rI h291 (aS h283 0) x296 /\ 
 (NB x295.a fun b297 o298=>(Ib x296 x295.n /\ 
 (∃x299:Int,∃x300:Int,∃x301:Int,atC h291 ⟨b297,o298+Int.toNat x296*6+1,none⟩ [vI x299,vI x300,vI x301] /\ 
 (Wn h291 [vI x299,vI x300,vI x301] 65 fun h302=>
 (Sm [(aS h16 2)] h291 h302 /\ 
 (App Pz 30 30 (vS x294) (.slice (some (aS h291 0)) 1 1) h302 fun s303 h304=>
 (Wp h304 (aS h16 2) 1 [vS s303] fun h305=>
 (J292 h305)))))))))))) 
 ((J292 h291))))) /\ 
 (∀(_:Env) (h306:Heap),J292 h306 -> 
 (∃x307,rI h306 (aS h283 1) x307 /\ 
 (sB (decide (x307>=0)) 
 ((∃x308,rS h306 (aS h16 3) x308 /\ 
 (∃x309,rS h306 ⟨p0.block,p0.off+6,none⟩ x309 /\ 
 (∃x310,rI h306 (aS h283 1) x310 /\ 
 (NB x309.a fun b311 o312=>(Ib x310 x309.n /\ 
 (∃x313:Int,∃x314:Int,∃x315:Int,atC h306 ⟨b311,o312+Int.toNat x310*6+1,none⟩ [vI x313,vI x314,vI x315] /\ 
 (Wn h306 [vI x313,vI x314,vI x315] 65 fun h316=>
 (Sm [(aS h16 3)] h306 h316 /\ 
 (App Pz 30 30 (vS x308) (.slice (some (aS h306 0)) 1 1) h316 fun s317 h318=>
 (Wp h318 (aS h16 3) 1 [vS s317] fun h319=>
 (∃x320:Int,∃x321:Int,atC h319 (aS h283 2) [vI x320,vI x321] /\ 
 (Wp h319 (aS h6 0) 2 [vI x320,vI x321] fun h322=>
 (∃m323,m323<m37/\I35 h322 m323)))))))))))))) 
 ((∃x324:Int,∃x325:Int,atC h306 (aS h283 2) [vI x324,vI x325] /\ 
 (Wp h306 (aS h6 0) 2 [vI x324,vI x325] fun h326=>
 (∃m327,m327<m37/\I35 h326 m327))))))))))))))))))
def W96 (p0:Addr) (p1:Int) (p2:Sl) (p3:Option Nat) (h:Heap) (R:Value->Heap->Prop):Prop:=
 (Wn h [vI 0,vI 0,.slice none 0 0,.slice none 0 0,vI 0,.bool false,vI 0,vI 0,.slice none 0 0,vI 0,.bool false,vI 0,vI 0,.slice none 0 0] 35 fun h1=>
 (Fn Pz 164 #[.pointer (some p0),vI p1,vS p2,.map p3] h1 
 (fun v2 h4=>∃x3:Option Nat,v2=.map x3 /\ 
 (Wn h4 [.map none] 293 fun h5=>
 (Wp h5 (aS h4 0) 1 [.map x3] fun h6=>
 (∃x7,rI h6 ⟨p0.block,p0.off+4,none⟩ x7 /\ 
 (∃x8,rI h6 ⟨p0.block,p0.off+4,none⟩ x8 /\ 
 (Wn h6 [vI 0,vI 0] 97 fun h9=>
 (Sm [⟨p0.block,p0.off+4,none⟩,⟨p0.block,p0.off+4,none⟩] h6 h9 /\ 
 (Wp h9 (aS h6 0) 2 [vI x7,vI x8] fun h10=>
 (∃x11:Option Nat,hc h10 (aS h4 0)=some (.map x11) /\ 
 (∃x12:Int,∃x13:Int,atC h10 (aS h6 0) [vI x12,vI x13] /\ 
 (Fn Pz 165 #[.map x11,.agg ⟨[vI x12,vI x13]⟩] h10 
 (fun v14 h16=>∃x15,iI v14 x15 /\ 
 (sB (x15==1073741824) 
 ((Wp h16 (aS h 0) 14 [vI 0,vI 0,.slice none 0 0,.slice none 0 0,vI 0,.bool false,vI 0,vI 0,.slice none 0 0,vI 0,.bool false,vI 0,vI 0,.slice none 0 0] fun h17=>
 (∃x18:Int,∃x19:Int,∃x20:Sl,∃x21:Sl,∃x22:Int,∃x23:Bool,∃x24:Int,∃x25:Int,∃x26:Sl,∃x27:Int,∃x28:Bool,∃x29:Int,∃x30:Int,∃x31:Sl,atC h17 (aS h 0) [vI x18,vI x19,vS x20,vS x21,vI x22,.bool x23,vI x24,vI x25,vS x26,vI x27,.bool x28,vI x29,vI x30,vS x31] /\ 
 R (.tuple ⟨[.agg ⟨[vI x18,vI x19,vS x20,vS x21,vI x22,.bool x23,vI x24,vI x25,vS x26,vI x27,.bool x28,vI x29,vI x30,vS x31]⟩,vI 1073741824]⟩) h17))) 
 ((∃x32,rI h16 ⟨p0.block,p0.off+8,none⟩ x32 /\ 
 (Wn h16 [vI 0,vI 0,.slice none 0 0,.slice none 0 0,vI 0,.bool false,vI 0,vI 0,.slice none 0 0,vI 0,.bool false,vI 0,vI 0,.slice none 0 0] 35 fun h33=>
 (Wp h33 (aS h16 0) 14 [vI p1,vI x32,.slice none 0 0,.slice none 0 0,vI 0,.bool false,vI 0,vI 0,.slice none 0 0,vI 0,.bool false,vI 0,vI 0,.slice none 0 0] fun h34=>
 (∃I35:Heap->Nat->Prop,(∃m36,I35 h34 m36) /\ 
 (∀(_:Env) (h38:Heap) (m37:Nat),I35 h38 m37 -> 
 (∃x39:Int,∃x40:Int,atC h38 (aS h6 0) [vI x39,vI x40] /\ 
 (Fn Pz 166 #[.pointer (some p0),vI p1,.agg ⟨[vI x39,vI x40]⟩] h38 
 (fun v41 h44=>∃x42:Int,∃x43:Bool,v41=.tuple ⟨[vI x42,.bool x43]⟩ /\ 
 (sB x43 
 ((∃x45:Option Nat,hc h44 (aS h4 0)=some (.map x45) /\ 
 (∃x46:Int,∃x47:Int,atC h44 (aS h6 0) [vI x46,vI x47] /\ 
 (Fn Pz 165 #[.map x45,.agg ⟨[vI x46,vI x47]⟩] h44 
 (fun v48 h50=>∃x49,iI v48 x49 /\ 
 (sB (x42==x49) 
 ((V96c p1 h50 h6 p0 h16 h R x15)) 
 ((V96a h50 h6 p3 h4 h16 p0 m37 I35)))))))) 
 ((V96b h44 h6 p3 h4 h16 p0 m37 I35)))))))))))))))))))))))))))
theorem vc96e (p0:Addr) (p1:Int) (p2:Sl) (p3:Option Nat) (h:Heap) (R:Value->Heap->Prop):W96 p0 p1 p2 p3 h R=fnW Pz 96 (.s .z (.s .z (.s .z (.s .z (.s .z (.s .z (.s (.b (.l [] (.b (.s .z (.s .z (.s .z (.j [] .z .z))))))) .z))))))) #[.pointer (some p0),.int .i64 p1,.slice p2.a p2.n p2.c,.map p3] h R:=by kernel_rfl
theorem vc96 (p0:Addr) (p1:Int) (p2:Sl) (p3:Option Nat) (h:Heap) (R:Value->Heap->Prop) (H:W96 p0 p1 p2 p3 h R):Fn Pz 96 #[.pointer (some p0),.int .i64 p1,.slice p2.a p2.n p2.c,.map p3] h R:=fnI (vc96e p0 p1 p2 p3 h R) H
end Go.VC
end

section
namespace Go.VC
open Go.Proofs Go.LexS
def bpL (wb pb lb ob:Nat) (kind role:Int) (wf ws:Sl) (p:Pr) (F S:List Ac):List It:=
 [.blk wb (Wt.cs ⟨kind,role,wf,ws,evn0,evn0⟩) 35,.blk pb (pC p) 97,.blk lb [.map (some ob)] 293,.sl wf 65 3 (F.map Ac.cs),.sl ws 65 3 (S.map Ac.cs)]
def fa1 (g:Gl) (x:Int):List Ac:=if 0<=x then [(eA g.es x.toNat).act] else []
theorem step121 {hb h50 h4 h6 h16:Heap} {b ob mb:Nat} {kind role:Int} {wf ws all:Sl} {p:Pr} {F S:List Ac} {g:Gl} {X:An} {A:List Pr} {l:List (Pr × Sl)} {O:List (Pr × Nat)} {k:Nat} {m:Pmv} {m37:Nat} {I35:Heap->Nat->Prop}
  (hs:St hb h50 (bpL h16.size h6.size h4.size ob kind role wf ws p F S)) (hA:AnF hb b g role X) (hV:ValidS g) (hM:PrM hb g role all mb A l) (hmp:It.ok hb (.mp ob (O.map fun q=>(pV q.1,natV q.2)))) (hk:∀q∈O,kokP q.1) (hn:(O.map Prod.fst).Nodup) (hp:p∈A)
  (hix:(mvP g role p).findIdx? (okM (dO O) p)=some k) (gm:(mvP g role p)[k]?=some m) (hF:F.length<=8388608) (hS:S.length<=8388608) (hbd:∀q∈A,0<=dO O q/\dO O q<=farI)
  (hI:∀(h':Heap) (wf' ws':Sl),St hb h' (bpL h16.size h6.size h4.size ob kind role wf' ws' (pto m) (F++fa1 g m.x) (S++fa1 g m.y))->∃m9,m9<m37/\I35 h' m9):V96a h50 h6 (some mb) h4 h16 ⟨b,0,none⟩ m37 I35:=by
 unfold V96a;have hN:=hV.num.n;have hE:=hV.num.m;have hg:=hA.gg.gi;have hen:=hg.e.ln;have hpA:∀p∈A,(p.1:Int)<g.n/\(p.2:Int)<g.n:=fun p hp=>((hM.pr p).1 hp).lt hV;have hkA:∀p∈A,kokP p:=fun p hp=>by have:=hpA p hp;exact⟨by omega,by omega⟩
 have hcl:∀m∈mvP g role p,pto m∈A:=fun m hm=>(hM.pr _).2 (.step ((hM.pr p).1 hp) hm);have hmm:=Yb gm;have hml:=(Ya.1 gm).1;have hlen:(mvP g role p).length<=160800:=movL_len (by omega);have hpt:=pto_lt hV (hpA p hp) hmm;obtain⟨edx,edy⟩:=movL_ed hmm;obtain⟨r,hr1,hr2⟩:=hM.mv p hp;have hrn:r.n=(mvP g role p).length:=hr2.ln;refine⟨_,_,hs.at 1 rfl (o:=0) (n:=2) rfl,?_⟩;refine mlookI (a:=p) (cv:=slV) M202 (hM.mp.keep fun b hb=>hs.ext.2 b (hM.mp.lt hb)) hM.lk hM.ln (hkA p hp) false ?_;rw[hr1];refine⟨r,rfl,?_⟩;refine (index168 ob O (mvP g role p) p ⟨h4.size,0,none⟩ ⟨h6.size,0,none⟩ r h50 (hr2.ext hs.ext).rw (by omega) (hs.rd 2 rfl (i:=0) rfl) (hs.at 1 rfl (o:=0) (n:=2) rfl) (hmp.keep fun b hb=>hs.ext.2 b (hmp.lt hb)) hk hn (hkA p hp) fun m hm=>?_).mono ?_
 .have h1:=pto_lt hV (hpA p hp) hm;have h2:=hbd _ (hcl m hm);exact⟨hkA _ (hcl m hm),h1.2.2.1,h1.2.2.2,h2.1,h2.2⟩
 rintro _ h231 ⟨rfl,E⟩;replace hs:=hs.step E;refine⟨_,rfl,?_⟩;have hk9:ixI (okM (dO O) p) (mvP g role p)=(k:Int):=by unfold ixI;rw[hix]
 rw[hk9];refine (hr2.ext hs.ext).rw.nbI (by omega) (by omega) fun b232 o233 m' gm' t=>?_;replace gm':(mvP g role p)[k]?=some m':=gm';rw[gm] at gm';cases gm';refine⟨m.x,m.y,m.s,m.t,t,?_⟩;refine hs.newput (vs:=m.cs) rfl rfl fun h239 hs=>?_;refine⟨fun h'=>∃wf',St hb h' (.blk h231.size m.cs 200::bpL h16.size h6.size h4.size ob kind role wf' ws p (F++fa1 g m.x) S),?_,?_⟩
 .refine⟨m.x,hs.rd 0 rfl (i:=0) rfl,sBi (fun c=>?_) (fun c=>?_)⟩
  .have hxl:=edx c;refine⟨wf,hs.rd 1 rfl (i:=2) rfl,g.he,hc_ext hs.ext (hA.gg.at_.nth 6 rfl),m.x,hs.rd 0 rfl (i:=0) rfl,?_⟩;refine (hg.e.rw.ext hs.ext).nbI (by omega) (by omega) fun b245 o246 x gx u=>?_;replace gx:g.es[m.x.toNat]?=some x:=gx;have hfe:fa1 g m.x=[x.act]:=by unfold fa1;rw[if_pos c,eA_get gx]
   refine⟨x.a,x.b,x.l,u.sub 1 3 rfl,fun h250 e2=>⟨?_,?_⟩⟩
   .exact (show Ext h239 h250 by rw[e2];exact Ext.push _ _).sm
   .refine hs.appgB 1 4 rfl rfl app48 (x:=x.act) e2 rfl rfl (by omega) (by decide) 2 (by show 2<14;decide) (by decide) fun s' h' hs=>?_;refine⟨s',?_⟩;rw[hfe];exact hs
  .have hfe:fa1 g m.x=[]:=by unfold fa1;rw[if_neg c]
   refine⟨wf,?_⟩;rw[hfe,Yw];exact hs
 .clear hs t;rintro-h254 ⟨wf',hs⟩;have hpc:pC (pto m)=[.int .i64 m.s,.int .i64 m.t]:=by unfold pC;rw[hpt.2.2.1,hpt.2.2.2]
  refine⟨m.y,hs.rd 0 rfl (i:=1) rfl,sBi (fun c=>?_) (fun c=>?_)⟩
  .have hyl:=edy c;refine⟨ws,hs.rd 1 rfl (i:=3) rfl,g.he,hc_ext hs.ext (hA.gg.at_.nth 6 rfl),m.y,hs.rd 0 rfl (i:=1) rfl,?_⟩;refine (hg.e.rw.ext hs.ext).nbI (by omega) (by omega) fun b245 o246 x gx u=>?_;replace gx:g.es[m.y.toNat]?=some x:=gx;have hfe:fa1 g m.y=[x.act]:=by unfold fa1;rw[if_pos c,eA_get gx]
   refine⟨x.a,x.b,x.l,u.sub 1 3 rfl,fun h250 e2=>⟨?_,?_⟩⟩
   .exact (show Ext h254 h250 by rw[e2];exact Ext.push _ _).sm
   .refine hs.appgB 1 5 rfl rfl app48 (x:=x.act) e2 rfl rfl (by omega) (by decide) 3 (by show 3<14;decide) (by decide) fun s' h' hs=>?_;refine⟨m.s,m.t,hs.at 0 rfl (o:=2) (n:=2) rfl,?_⟩;refine hs.put 2 rfl (o:=0) (vs:=[.int .i64 m.s,.int .i64 m.t]) rfl (Yyt 2) fun h' hs=>hI h' wf' s' ?_;have hs:=hs.drop 1;unfold bpL;rw[hfe,hpc];exact hs
  .have hfe:fa1 g m.y=[]:=by unfold fa1;rw[if_neg c]
   refine⟨m.s,m.t,hs.at 0 rfl (o:=2) (n:=2) rfl,?_⟩;refine hs.put 2 rfl (o:=0) (vs:=[.int .i64 m.s,.int .i64 m.t]) rfl (Yyt 2) fun h' hs=>hI h' wf' ws ?_;have hs:=hs.drop 1;unfold bpL;rw[hfe,Yw,hpc];exact hs
theorem step121b {h44 h6 h4 h16:Heap} {mp:Option Nat} {p0:Addr} {m37:Nat} {I35:Heap->Nat->Prop} (h:V96a h44 h6 mp h4 h16 p0 m37 I35):V96b h44 h6 mp h4 h16 p0 m37 I35:=h
theorem rdW {h:Heap} {b:Nat} {w:Wt} (ha:atC h ⟨b,0,none⟩ w.cs) {Q:List Value->Prop} (hq:Q w.cs) :
  ∃x72:Int,∃x73:Int,∃x74:Sl,∃x75:Sl,∃x76:Int,∃x77:Bool,∃x78:Int,∃x79:Int,∃x80:Sl,∃x81:Int,∃x82:Bool,∃x83:Int,∃x84:Int,∃x85:Sl,atC h ⟨b,0,none⟩ [.int .i64 x72,.int .i64 x73,.slice x74.a x74.n x74.c,.slice x75.a x75.n x75.c,.int .i64 x76,.bool x77,.int .i64 x78,.int .i64 x79,.slice x80.a x80.n x80.c,.int .i64 x81,.bool x82,.int .i64 x83,.int .i64 x84,.slice x85.a x85.n x85.c] /\
   Q [.int .i64 x72,.int .i64 x73,.slice x74.a x74.n x74.c,.slice x75.a x75.n x75.c,.int .i64 x76,.bool x77,.int .i64 x78,.int .i64 x79,.slice x80.a x80.n x80.c,.int .i64 x81,.bool x82,.int .i64 x83,.int .i64 x84,.slice x85.a x85.n x85.c]:=
 ⟨w.k,w.r,w.f,w.s,w.e.r,w.e.s,w.e.p,w.e.l,nilS,w.o.r,w.o.s,w.o.p,w.o.l,nilS,ha,hq⟩
theorem cpW {h0 h:Heap} {L:List It} (hs:St h0 h L) (i j:Nat) {wb rb:Nat} {w w0:Wt} {e1 e2:TypeId} (hi:L[i]?=some (.blk wb w.cs e1)) (hj:L[j]?=some (.blk rb w0.cs e2)) {K:Heap->Prop} (hK:∀h',St h0 h' (L.set j (.blk rb w.cs e2))->K h') :
  ∃x72:Int,∃x73:Int,∃x74:Sl,∃x75:Sl,∃x76:Int,∃x77:Bool,∃x78:Int,∃x79:Int,∃x80:Sl,∃x81:Int,∃x82:Bool,∃x83:Int,∃x84:Int,∃x85:Sl,atC h ⟨wb,0,none⟩ [.int .i64 x72,.int .i64 x73,.slice x74.a x74.n x74.c,.slice x75.a x75.n x75.c,.int .i64 x76,.bool x77,.int .i64 x78,.int .i64 x79,.slice x80.a x80.n x80.c,.int .i64 x81,.bool x82,.int .i64 x83,.int .i64 x84,.slice x85.a x85.n x85.c] /\
   (okAt h ⟨rb,0,none⟩ 14/\∀h86:Heap,h86=hputs h ⟨rb,0,none⟩ 0 [.int .i64 x72,.int .i64 x73,.slice x74.a x74.n x74.c,.slice x75.a x75.n x75.c,.int .i64 x76,.bool x77,.int .i64 x78,.int .i64 x79,.slice x80.a x80.n x80.c,.int .i64 x81,.bool x82,.int .i64 x83,.int .i64 x84,.slice x85.a x85.n x85.c]->K h86):=by
 refine⟨w.k,w.r,w.f,w.s,w.e.r,w.e.s,w.e.p,w.e.l,nilS,w.o.r,w.o.s,w.o.p,w.o.l,nilS,hs.at i hi (o:=0) (n:=14) rfl,?_⟩;refine hs.put j hj (o:=0) (vs:=w.cs) rfl (Yyt 14) fun h' hs=>hK h' ?_;exact hs
theorem arvF_mem {K:List Ev}:∀ {L:List Arv} {x:Arv},arvF K L=some x->x∈L/\x.m.ev∈K:=by
 intro L x;unfold arvF
 suffices h:∀(l:List Arv) (b:Option Arv),(∀y,b=some y->y∈L/\y.m.ev∈K)->(∀y∈l,y∈L)->l.foldl (arvS K) b=some x->x∈L/\x.m.ev∈K from h L none (fun y hy=>by cases hy) (fun y hy=>hy)
 intro l
 induction l with
 | nil=>intro b hb _ hx;exact hb x hx
 | cons a l ih=>
  intro b hb hl hx;refine ih (arvS K b a) (fun y hy=>?_) (fun y hy=>hl y (Yn _ hy)) hx;unfold arvS at hy;by_cases hin:a.m.ev∈K
  .rw[if_pos hin] at hy;cases b with
   | none=>cases hy;exact⟨hl _ Yx,hin⟩
   | some z=>
    simp only at hy;split at hy
    .cases hy;exact⟨hl _ Yx,hin⟩
    .exact hb y hy
  .rw[if_neg hin] at hy;exact hb y hy
def ArOk (g:Gl) (X:An):Prop:=∀q∈X.ar,∀y∈q.2,∃(i:Nat) (m:Ms),y=arv1 g i m/\i<g.es.length/\m∈earS g i
def exW (g:Gl) (role kind:Int) (X:An) (F:List Ac) (p:Pr):List Ac × Evn × Evn:=
 if kind=1 then (F,(match X.fi[p.1]?,X.fi[p.2]? with | some fs,some ft=>fullE role ((fs.l.find? (difP ft.l)).getD ⟨false,0,0⟩) | _,_=>evn0),evn0)
 else if kind=4 then (match X.fi[p.2]?,X.ar[p.1]? with | some ft,some q=>(F++[(eA g.es ((arvF ft.l q.2).getD arv0).e.toNat).act]++pthS g ((arvF ft.l q.2).getD arv0).e.toNat ((arvF ft.l q.2).getD arv0).m,fullE role ((arvF ft.l q.2).getD arv0).m.ev,fullE role ⟨false,(eA g.es ((arvF ft.l q.2).getD arv0).e.toNat).a,(eA g.es ((arvF ft.l q.2).getD arv0).e.toNat).l⟩) | _,_=>(F,evn0,evn0))
 else (F,evn0,evn0)
theorem acrows (l:List Ac):∀r∈l.map Ac.cs,r.length=3:=fun r hr=>by obtain⟨x,_,rfl⟩:=Yp.1 hr;rfl
theorem exit121 {h0 h50 h6 h16 h:Heap} {b ob lb:Nat} {kind role:Int} {wf ws:Sl} {p:Pr} {F S:List Ac} {g:Gl} {X:An} {x15:Int} {R:Value->Heap->Prop}
  (hs:St h0 h50 (bpL h16.size h6.size lb ob kind role wf ws p F S++[.blk h.size wt0.cs 35])) (hA:AnF h0 b g role X) (hx:Gm h0) (hV:ValidS g) (hp:(p.1:Int)<g.n/\(p.2:Int)<g.n) (hq0:∀q∈X.ar,∀x∈q.2,0<x.n) (hAr:ArOk g X) (hco:kind=4->(cstS X kind p).isSome=true) (hF:F.length<=8388608)
  (hK:∀(h':Heap) (w:Wt) (L:List It),w.k=kind->w.r=role->w.e=(exW g role kind X F p).2.1->w.o=(exW g role kind X F p).2.2->St h0 h' (.sl w.f 65 3 ((exW g role kind X F p).1.map Ac.cs) :: .sl w.s 65 3 (S.map Ac.cs)::L)->R (.tuple ⟨[.agg ⟨w.cs⟩,.int .i64 x15]⟩) h') :
  V96c kind h50 h6 ⟨b,0,none⟩ h16 h R x15:=by
 unfold V96c;obtain⟨fs,gs⟩:=get_some (l:=X.fi) (i:=p.1) (by rw[hA.nf];omega);obtain⟨ft,gt⟩:=get_some (l:=X.fi) (i:=p.2) (by rw[hA.nf];omega);obtain⟨q,gq⟩:=get_some (l:=X.ar) (i:=p.1) (by rw[hA.nr];omega);have hN:=hV.num.n;have hM:=hV.num.m;have hg:=hA.gg.gi;have hen:=hg.e.ln;have hro:hc h0 ⟨b,8,none⟩=some (Value.int .i64 role):=hA.r.ro;refine sBe (fun c=>?_) (fun c=>sBe (fun c2=>?_) (fun c2=>?_))
 .refine⟨(p.1:Nat),(p.2:Nat),hs.at 1 rfl (o:=0) (n:=2) rfl,?_⟩;refine (differR171 ⟨b,0,none⟩ role X.hfi X.hli X.hag X.how X.fi X.li X.ag X.ow p.1 p.2 fs ft h50 (hA.ext hs.ext).r gs gt).mono ?_;rintro v58 h58 ⟨E,hv⟩;replace hs:=hs.step E;have hex:exW g role kind X F p=(F,fullE role ((fs.l.find? (difP ft.l)).getD ⟨false,0,0⟩),evn0):=by unfold exW;rw[if_pos c,gs,gt]
  rw[hex] at hK;have hv2:v58=Value.tuple ⟨[Value.agg ⟨((fs.l.find? (difP ft.l)).getD ⟨false,0,0⟩).cs⟩,Value.bool (fs.l.find? (difP ft.l)).isSome]⟩:=by rw[hv];cases fs.l.find? (difP ft.l)<;>rfl
  clear hv;subst hv2;generalize (fs.l.find? (difP ft.l)).getD ⟨false,0,0⟩=x at *;refine⟨x.send,x.peer,x.label,_,rfl,?_⟩;refine hs.newput (vs:=x.cs) rfl rfl fun h60 hs=>?_;refine⟨x.send,x.peer,x.label,hs.at 0 rfl (o:=0) (n:=3) rfl,?_⟩;refine (full172 b role x h60 (hc_ext hs.ext hro)).mono ?_;rintro _ h70 ⟨E3,rfl⟩;replace hs:=hs.step E3;refine⟨role,x.send,x.peer,x.label,nilS,rfl,?_⟩;refine hs.put 1 rfl (o:=4) (vs:=(fullE role x).cs) rfl (by show 4+5<=14;decide) fun h71 hs=>?_;refine cpW hs 1 6 (w:=⟨kind,role,wf,ws,fullE role x,evn0⟩) (w0:=wt0) rfl rfl fun h86 hs=>?_;refine rdW (w:=⟨kind,role,wf,ws,fullE role x,evn0⟩) (Q:=fun cs=>R (.tuple ⟨[.agg ⟨cs⟩,.int .i64 x15]⟩) h86) (hs.at 6 rfl (o:=0) (n:=14) rfl) ?_;exact hK h86 ⟨kind,role,wf,ws,fullE role x,evn0⟩ _ rfl rfl rfl rfl (hs.drop 4)
 .refine⟨(p.1:Nat),(p.2:Nat),hs.at 1 rfl (o:=0) (n:=2) rfl,?_⟩;refine (arrives173 b g role X p.1 p.2 ft q h50 (hA.ext hs.ext) gt gq (hq0 q (Yb gq))).mono ?_;rintro _ h109 ⟨E,rfl⟩;replace hs:=hs.step E;obtain⟨y,hy⟩:∃y,arvF ft.l q.2=some y:=by
   have h9:=hco c2;unfold cstS at h9;rw[if_neg c,if_neg (by omega),gt,gq] at h9;simp only[Option.isSome_map] at h9;exact Option.isSome_iff_exists.1 h9
  obtain⟨i,m,rfl,hil,him⟩:=hAr q (Yb gq) y (arvF_mem hy).1;obtain⟨x0,hx0⟩:=get_some hil;have hxe:=eA_get hx0;have hex:exW g role kind X F p=(F++[x0.act]++pthS g i m,fullE role m.ev,fullE role ⟨false,x0.a,x0.l⟩):=by
   have h8:exW g role kind X F p=(F++[(eA g.es ((arvF ft.l q.2).getD arv0).e.toNat).act]++pthS g ((arvF ft.l q.2).getD arv0).e.toNat ((arvF ft.l q.2).getD arv0).m,fullE role ((arvF ft.l q.2).getD arv0).m.ev,fullE role ⟨false,(eA g.es ((arvF ft.l q.2).getD arv0).e.toNat).a,(eA g.es ((arvF ft.l q.2).getD arv0).e.toNat).l⟩):=by
    unfold exW;rw[if_neg c,if_pos c2,gt,gq]
   rw[h8,hy];show (F++[(eA g.es i).act]++pthS g i m,fullE role m.ev,fullE role ⟨false,(eA g.es i).a,(eA g.es i).l⟩)=_;rw[hxe]
  rw[hex] at hK;rw[hy];refine⟨(i:Int),(arv1 g i m).n,m.p,m.l,_,rfl,?_⟩;refine hs.newput (vs:=(arv1 g i m).cs) rfl rfl fun h111 hs=>?_;refine⟨bs g.nm,g.hr,g.hd,g.n,g.s,g.e,g.he,g.ht,(atC_ext hs.ext hA.gg.at_).sub0 8 rfl,?_⟩;refine⟨(i:Int),hs.rd 0 rfl (i:=0) rfl,m.p,m.l,hs.at 0 rfl (o:=2) (n:=2) rfl,?_⟩;refine (path163 g i x0 m h111 (hg.ext hs.ext) (hx.ext hs.ext) hV hx0 him).mono ?_;rintro _ h126 ⟨E3,sp,rfl,hsp,hpl⟩;replace hs:=hs.join hsp;have hspn:=hs.len 7 (s:=sp) (e:=65) (n:=3) rfl (by omega);rw[Yc] at hspn;refine⟨sp,0,rfl,g.he,hc_ext hs.ext (hA.gg.at_.nth 6 rfl),(i:Int),hs.rd 0 rfl (i:=0) rfl,?_⟩;refine (hg.e.rw.ext hs.ext).nbI (by omega) (by omega) fun b20 o21 x gx u3=>?_;replace gx:g.es[i]?=some x:=gx;rw[hx0] at gx;cases gx;refine⟨x0.a,x0.b,x0.l,u3.sub 1 3 rfl,?_⟩;refine hs.newbE fun h134 E4 hs=>⟨E4.sm,?_⟩;refine hs.put 0 rfl (o:=0) (vs:=x0.act.cs) rfl (Yyt 3) fun h135 hs=>?_;refine⟨wf,hs.rd 2 rfl (i:=2) rfl,x0.a,x0.b,x0.l,hs.at 0 rfl (o:=0) (n:=3) rfl,?_⟩;have hwfn:=(hs.len 5 (s:=wf) (e:=65) (n:=3) rfl (by omega)).1;rw[Yc] at hwfn;refine hs.app 5 rfl app48 (m:=1) [x0.act.cs] rfl rfl (fun r hr=>by rw[Ye] at hr;rw[hr];rfl) rfl (by omega) (by simp only[maxLen];omega) fun s141 h142 n141 hs=>?_;refine hs.appRw 5 rfl app48 (hs.rows 8 rfl (by omega)) (acrows _) hspn.2.2 (one_of (fun _=>rfl) _) (by omega) (by simp only[maxLen];omega) fun s143 h144 n143 hs=>?_;refine hs.put 2 rfl (o:=2) (vs:=[.slice s143.a s143.n s143.c]) rfl (by show 2+1<=14;decide) fun h145 hs=>?_;refine⟨m.p,hs.rd 1 rfl (i:=2) rfl,m.l,hs.rd 1 rfl (i:=3) rfl,?_⟩;refine (full172 b role m.ev h145 (hc_ext hs.ext hro)).mono ?_;rintro _ h154 ⟨E5,rfl⟩;replace hs:=hs.step E5;refine⟨role,false,m.p,m.l,nilS,rfl,?_⟩;refine hs.put 2 rfl (o:=4) (vs:=(fullE role m.ev).cs) rfl (by show 4+5<=14;decide) fun h155 hs=>?_;refine⟨x0.a,hs.rd 0 rfl (i:=0) rfl,x0.l,hs.rd 0 rfl (i:=2) rfl,?_⟩;refine (full172 b role ⟨false,x0.a,x0.l⟩ h155 (hc_ext hs.ext hro)).mono ?_;rintro _ h164 ⟨E6,rfl⟩;replace hs:=hs.step E6;refine⟨role,false,x0.a,x0.l,nilS,rfl,?_⟩;refine hs.put 2 rfl (o:=9) (vs:=(fullE role ⟨false,x0.a,x0.l⟩).cs) rfl (by show 9+5<=14;decide) fun h165 hs=>?_;refine cpW hs 2 7 (w:=⟨kind,role,s143,ws,fullE role m.ev,fullE role ⟨false,x0.a,x0.l⟩⟩) (w0:=wt0) rfl rfl fun h86 hs=>?_;refine rdW (w:=⟨kind,role,s143,ws,fullE role m.ev,fullE role ⟨false,x0.a,x0.l⟩⟩) (Q:=fun cs=>R (.tuple ⟨[.agg ⟨cs⟩,.int .i64 x15]⟩) h86) (hs.at 7 rfl (o:=0) (n:=14) rfl) ?_;refine hK h86 ⟨kind,role,s143,ws,fullE role m.ev,fullE role ⟨false,x0.a,x0.l⟩⟩ [.blk h.size (Wt.cs ⟨kind,role,s143,ws,fullE role m.ev,fullE role ⟨false,x0.a,x0.l⟩⟩) 35,.sl sp 65 3 ((pthS g i m).map Ac.cs)] rfl rfl rfl rfl ?_;have hs:=hs.drop 5;simp only[Ym];exact hs
 .refine cpW hs 0 5 (w:=⟨kind,role,wf,ws,evn0,evn0⟩) (w0:=wt0) rfl rfl fun h86 hs=>?_;refine rdW (w:=⟨kind,role,wf,ws,evn0,evn0⟩) (Q:=fun cs=>R (.tuple ⟨[.agg ⟨cs⟩,.int .i64 x15]⟩) h86) (hs.at 5 rfl (o:=0) (n:=14) rfl) ?_;have hex:exW g role kind X F p=(F,evn0,evn0):=by unfold exW;rw[if_neg c,if_neg c2]
  rw[hex] at hK;exact hK h86 ⟨kind,role,wf,ws,evn0,evn0⟩ _ rfl rfl rfl rfl (hs.drop 3)
theorem Dn.lst {mv:Pr->List Pmv} {cst:Pr->Option Nat} {p:Pr} {k:Nat} (hL:Lst mv cst p k) (hne:cst p≠some k):∃m∈mv p,∃n,Lst mv cst (pto m) n/\n+plen m=k:=by
 obtain⟨hd,hl⟩:=hL;cases hd with
 | base h=>exact absurd h hne
 | step hm hn=>exact⟨_,hm,_,⟨hn,fun j hj=>by have:=hl _ (.step hm hj);omega⟩,rfl⟩
theorem Lst.uniq {mv:Pr->List Pmv} {cst:Pr->Option Nat} {p:Pr} {k n:Nat} (h1:Lst mv cst p k) (h2:Lst mv cst p n):k=n:=Nat.le_antisymm (h1.2 n h2.1) (h2.2 k h1.1)
noncomputable def dL (mv:Pr->List Pmv) (cst:Pr->Option Nat) (p:Pr):Int:=by
 classical exact if h:∃n,Lst mv cst p n then (Classical.choose h:Nat) else farI
theorem dL_of {mv:Pr->List Pmv} {cst:Pr->Option Nat} {p:Pr} {n:Nat} (h:Lst mv cst p n):dL mv cst p=n:=by
 unfold dL;rw[dif_pos ⟨n,h⟩];have:=Lst.uniq (Classical.choose_spec (⟨n,h⟩:∃n,Lst mv cst p n)) h;omega
theorem dL_no {mv:Pr->List Pmv} {cst:Pr->Option Nat} {p:Pr} (h:∀n,¬Lst mv cst p n):dL mv cst p=farI:=by
 unfold dL;rw[dif_neg (fun ⟨n,h9⟩=>h n h9)]
def p00 (g:Gl):Pr:=(g.s.toNat,g.s.toNat)
inductive BpR (g:Gl) (role kind:Int) (X:An) (h h':Heap):Value->Prop
 | far (hn:∀n,¬Lst (mvP g role) (cstN X kind) (p00 g) n) (E:Ext h h'):BpR g role kind X h h' (.tuple ⟨[.agg ⟨wt0.cs⟩,.int .i64 farI]⟩)
 | hit {n:Nat} {D:Pr->Int} {ms:List Pmv} {p:Pr} {w:Wt} {L:List It} (hl:Lst (mvP g role) (cstN X kind) (p00 g) n) (hn:n<=8388608) (hD:∀q,Prr g role q->D q=dL (mvP g role) (cstN X kind) q) (hG:GTo (mvP g role) (cstS X kind) D (p00 g) ms p) (hc:cstS X kind p=some (D p))
   (hk:w.k=kind) (hr:w.r=role) (he:w.e=(exW g role kind X (facts g ms) p).2.1) (ho:w.o=(exW g role kind X (facts g ms) p).2.2)
   (hs:St h h' (.sl w.f 65 3 ((exW g role kind X (facts g ms) p).1.map Ac.cs) :: .sl w.s 65 3 ((sacts g ms).map Ac.cs)::L)):BpR g role kind X h h' (.tuple ⟨[.agg ⟨w.cs⟩,.int .i64 (n:Nat)]⟩)
theorem byPairs121 (b:Nat) (g:Gl) (role:Int) (X:An) (kind:Int) (all:Sl) (mb:Nat) (A:List Pr) (l:List (Pr × Sl)) (CB:Nat) (h:Heap) (hA:AnF h b g role X) (hx:Gm h) (hV:ValidS g) (hM:PrM h g role all mb A l) (hC:CkB X kind A CB) (hAr:ArOk g X) :
  Fn Pz 96 #[.pointer (some ⟨b,0,none⟩),.int .i64 kind,.slice all.a all.n all.c,.map (some mb)] h fun v h'=>BpR g role kind X h h' v:=by
 apply vc96 ⟨b,0,none⟩ kind all (some mb);unfold W96;have hN:=hV.num.n;have hE:=hV.num.m;have hpA:∀p∈A,(p.1:Int)<g.n/\(p.2:Int)<g.n:=fun p hp=>((hM.pr p).1 hp).lt hV;have hkA:∀p∈A,kokP p:=fun p hp=>by have:=hpA p hp;exact⟨by omega,by omega⟩
 have hcl:∀p∈A,∀m∈mvP g role p,pto m∈A:=fun p hp m hm=>(hM.pr _).2 (.step ((hM.pr p).1 hp) hm);have h00:p00 g∈A:=(hM.pr _).2 .start;have hpc0:pC (p00 g)=[.int .i64 g.s,.int .i64 g.s]:=by unfold pC p00;simp only;rw[Int.toNat_of_nonneg (by omega)]
 have hA4:A.length<=40000:=by
  have h1:=grid_le (n:=g.n.toNat) hM.nd fun p hp=>by have:=hpA p hp;exact⟨by omega,by omega⟩
  have h2:g.n.toNat*g.n.toNat<=200*200:=Nat.mul_le_mul (by omega) (by omega);omega
 have hCb:=hC.b;refine (St.refl h).newb fun h1 hs1=>?_;refine (left165 b g role X kind all mb A l CB h1 (hA.ext hs1.ext) hV (hM.ext hs1.ext) hC).mono ?_;rintro _ h4 ⟨E4,ob,O,rfl,hmp,hk,hn,hO⟩;refine⟨some ob,rfl,?_⟩;have hs4:=hs1.step E4;have hX4:=hs4.ext;have hA4':=hA.ext hX4;have hM4:=hM.ext hX4;have hbd:∀q∈A,0<=dO O q/\dO O q<=farI:=fun q hq=>by
  have h9:=fun k=>(hO q hq k).2;unfold dO farI;cases hg:mget O q with
  | none=>exact⟨by decide,by decide⟩
  | some k=>have:=h9 k hg;simp only[Option.elim];omega
 have hdL:∀q,Prr g role q->dO O q=dL (mvP g role) (cstN X kind) q:=fun q hq=>by
  have hqA:=(hM.pr q).2 hq;unfold dO;cases hg:mget O q with
  | none=>exact (dL_no fun n hn=>by rw[((hO q hqA n).1).2 hn] at hg;cases hg).symm
  | some k=>exact (dL_of (((hO q hqA k).1).1 hg)).symm
 refine (St.refl h4).newput (vs:=[.map (some ob)]) rfl rfl fun h6 hs=>?_;refine⟨g.s,hc_ext hs.ext (hA4'.gg.at_.nth 4 rfl),g.s,hc_ext hs.ext (hA4'.gg.at_.nth 4 rfl),?_⟩;refine hs.newbE fun h9 E9 hs=>⟨E9.sm,?_⟩;refine hs.put 0 rfl (o:=0) (vs:=[.int .i64 g.s,.int .i64 g.s]) rfl (Yyt 2) fun h10 hs=>?_;refine⟨some ob,hs.rd 1 rfl (i:=0) rfl,g.s,g.s,hs.at 0 rfl (o:=0) (n:=2) rfl,?_⟩;have h166:=at166 ob O (p00 g) h10 (hmp.keep fun b hb=>hs.ext.2 b (hmp.lt hb)) hk hn (hkA _ h00);rw[hpc0] at h166;refine h166.mono ?_;rintro _ h16 ⟨rfl,E16⟩;replace hs:=hs.step E16;refine⟨_,rfl,sBe (fun c=>?_) (fun c=>?_)⟩
 .have hs:=hs4.join hs;refine hs.put 0 rfl (o:=0) (vs:=wt0.cs) rfl (Yyt 14) fun h17 hs=>?_;refine rdW (w:=wt0) (Q:=fun cs=>BpR g role kind X h h17 (.tuple ⟨[.agg ⟨cs⟩,.int .i64 1073741824]⟩)) (hs.at 0 rfl (o:=0) (n:=14) rfl) ?_;refine .far (fun n hl=>?_) hs.ext;have h9:=(hO _ h00 n).1.2 hl;have h10:=(hO _ h00 n).2 h9;unfold dO at c;rw[h9] at c;simp only[Option.elim] at c;omega
 .obtain⟨k0,hk0⟩:∃k0,mget O (p00 g)=some k0:=by
   cases hg:mget O (p00 g) with
   | none=>unfold dO at c;rw[hg] at c;exact absurd rfl c
   | some k=>exact⟨k,rfl⟩
  have hd0:dO O (p00 g)=(k0:Int):=by unfold dO;rw[hk0];rfl
  have hk0b:=(hO _ h00 k0).2 hk0;refine⟨role,hc_ext hs.ext hA4'.r.ro,?_⟩;refine hs.newput (vs:=(Wt.cs ⟨kind,role,nilS,nilS,evn0,evn0⟩)) rfl rfl fun h34 hs=>?_;have hs:=((hs.nil_ 65 3).nil_ 65 3).perm (List.perm_append_comm (l₁:=[_,_]) (l₂:=[_,_,_]));refine⟨fun h' μ=>∃(ms:List Pmv) (p:Pr) (wf ws:Sl) (k:Nat),μ=k/\mget O p=some k/\p∈A/\St h4 h' (bpL h16.size h6.size h4.size ob kind role wf ws p (facts g ms) (sacts g ms))/\GTo (mvP g role) (cstS X kind) (dO O) (p00 g) ms p/\ms.length+k<=8388608,⟨_,[],p00 g,nilS,nilS,k0,rfl,hk0,h00,?_,.nil,?_⟩,?_⟩
  .unfold bpL;rw[hpc0];exact hs
  .simp only[List.length_nil];omega
  clear hs;rintro-h38 k ⟨ms,p,wf,ws,k9,rfl,hkp,hpm,hs,hG,hml⟩;have hdp:dO O p=(k:Int):=by unfold dO;rw[hkp];rfl
  have hkb:=(hO p hpm k).2 hkp;have hLp:=(hO p hpm k).1.1 hkp;have hfl:=facts_len g ms;have hsl:=sacts_len g ms
  have stp:∀(h50:Heap),St h4 h50 (bpL h16.size h6.size h4.size ob kind role wf ws p (facts g ms) (sacts g ms))->cstS X kind p≠some (dO O p) ->
    V96a h50 h6 (some mb) h4 h16 ⟨b,0,none⟩ k (fun h' μ=>∃(ms:List Pmv) (p:Pr) (wf ws:Sl) (k:Nat),μ=k/\mget O p=some k/\p∈A/\St h4 h' (bpL h16.size h6.size h4.size ob kind role wf ws p (facts g ms) (sacts g ms))/\GTo (mvP g role) (cstS X kind) (dO O) (p00 g) ms p/\ms.length+k<=8388608):=by
   intro h50 hs hne;have hne2:cstN X kind p≠some k:=fun e=>by
    unfold cstN at e;cases hcs:cstS X kind p with
    | none=>rw[hcs] at e;cases e
    | some c=>
     have h1:=hC.c p hpm c hcs;rw[hcs] at e;simp only[Option.map_some,Option.some.injEq] at e;exact hne (by rw[hcs,hdp];congr 1;omega)
   obtain⟨m,hm,n,hn9,hnk⟩:=Dn.lst hLp hne2;have hmA:=hcl p hpm m hm;have hgn:=(hO _ hmA n).1.2 hn9;have hok:okM (dO O) p m=true:=by
    unfold okM;refine decide_eq_true ?_;rw[hdp];have:dO O (pto m)=(n:Int):=by unfold dO;rw[hgn];rfl
    omega
   cases hix:(mvP g role p).findIdx? (okM (dO O) p) with
   | none=>
    rw[List.findIdx?_eq_none_iff] at hix;rw[hix m hm] at hok;cases hok
   | some k2=>
    obtain⟨h1,h2,_⟩:=List.findIdx?_eq_some_iff_getElem.1 hix;have gm2:(mvP g role p)[k2]?=some (mvP g role p)[k2]:=Yi h1;generalize hm2:(mvP g role p)[k2]=m2 at *;have h3:(plen m2:Int)+dO O (pto m2)=dO O p:=Yyn h2;have hm2A:=hcl p hpm m2 (Yb gm2);have hpl:=plen_pos m2;obtain⟨k',hk'⟩:∃k',mget O (pto m2)=some k':=by
     cases hg:mget O (pto m2) with
     | none=>unfold dO at h3;rw[hg,hkp] at h3;simp only[Option.elim,farI] at h3;omega
     | some k'=>exact⟨k',rfl⟩
    have hd':dO O (pto m2)=(k':Int):=by unfold dO;rw[hk'];rfl
    refine step121 hs hA4' hV hM4 hmp hk hn hpm hix gm2 (by omega) (by omega) hbd fun h' wf' ws' hs=>⟨k',by omega,ms++[m2],pto m2,wf',ws',k',rfl,hk',hm2A,?_,.snoc hG hne hix gm2,by rw[Yh,Yv];omega⟩;rw[facts_snoc,sacts_snoc];exact hs
  refine⟨(p.1:Nat),(p.2:Nat),hs.at 1 rfl (o:=0) (n:=2) rfl,?_⟩;refine (costs167 b g role X kind p h38 (hA4'.ext hs.ext) (hpA p hpm) hC.a).mono ?_;rintro _ h44 ⟨E,rfl⟩;replace hs:=hs.step E;refine⟨_,_,rfl,sB_intro (fun c1=>?_) (fun c1=>?_)⟩
  .obtain⟨n1,hn1⟩:=Option.isSome_iff_exists.1 c1;refine⟨some ob,hs.rd 2 rfl (i:=0) rfl,(p.1:Nat),(p.2:Nat),hs.at 1 rfl (o:=0) (n:=2) rfl,?_⟩;refine (at166 ob O p h44 (hmp.keep fun b hb=>hs.ext.2 b (hmp.lt hb)) hk hn (hkA p hpm)).mono ?_;rintro _ h50 ⟨rfl,E50⟩;replace hs:=hs.step E50;refine⟨_,rfl,sBe (fun c2=>?_) (fun c2=>?_)⟩
   .have hcp:cstS X kind p=some (dO O p):=by rw[hn1] at c2 ⊢;exact congrArg some c2
    have hs:=(hs4.join hs).perm (List.perm_append_comm (l₁:=[_]) (l₂:=bpL h16.size h6.size h4.size ob kind role wf ws p (facts g ms) (sacts g ms)));refine exit121 hs hA hx hV (hpA p hpm) hC.a hAr (fun _=>c1) (by omega) fun h' w L h1 h2 h3 h4 hs=>?_;rw[hd0];exact .hit ((hO _ h00 k0).1.1 hk0) (by omega) hdL hG hcp h1 h2 h3 h4 hs
   .exact stp h50 hs fun e=>c2 (by rw[e];rfl)
  .exact step121b (stp h44 hs fun e=>by rw[e] at c1;cases c1)
end Go.VC
end

section
namespace Go.VC
inductive DnS (es:List Ed) (MX:Nat->Prop):Nat->Nat->Prop
 | base {s:Nat}:MX s->DnS es MX s 0
 | step {s:Nat} {e:Ed} {n:Nat}:e∈es->e.f=(s:Int)->DnS es MX e.t.toNat n->DnS es MX s (n+1)
def LstS (es:List Ed) (MX:Nat->Prop) (s n:Nat):Prop:=DnS es MX s n/\∀k,DnS es MX s k->n<=k
def farN:Int:=1073741824
structure BfQ (g:Gl) (MX:Nat->Prop) (LF:List Int) (Q:List Nat) (hd c:Nat):Prop where
 ln:LF.length=g.n.toNat
 d:∀(s:Nat) x,LF[s]?=some x->x=farN\/(∃k:Nat,x=(k:Int)/\DnS g.es MX s k/\k<=c)
 q:∀s:Nat,s∈Q ↔ ∃x,LF[s]?=some x/\x≠farN
 nd:Q.Nodup
 m:∀s:Nat,s<g.n.toNat->MX s->LF[s]?=some 0
 so:∀(i j s t:Nat) x y,i<=j->Q[i]?=some s->Q[j]?=some t->LF[s]?=some x->LF[t]?=some y->x<=y
 hi:∀(s t:Nat) x y,Q[hd]?=some s->t∈Q->LF[s]?=some x->LF[t]?=some y->y<=x+1
 cl:∀(i t:Nat) x,i<hd->Q[i]?=some t->LF[t]?=some x->∀e∈g.es,e.t=(t:Int)->∃y,LF[e.f.toNat]?=some y/\y<=x+1
theorem BfQ.lt {g:Gl} {MX:Nat->Prop} {LF:List Int} {Q:List Nat} {hd c:Nat} (h:BfQ g MX LF Q hd c) {s:Nat} (hs:s∈Q):s<g.n.toNat:=by
 obtain⟨x,hx,_⟩:=(h.q s).1 hs;have:=(Ya.1 hx).1;rw[h.ln] at this;exact this
theorem BfQ.len {g:Gl} {MX:Nat->Prop} {LF:List Int} {Q:List Nat} {hd c:Nat} (h:BfQ g MX LF Q hd c):Q.length<=g.n.toNat:=by
 have:=List.Nodup.length_le_of_subset h.nd (l₂:=List.range g.n.toNat) fun s hs=>List.mem_range.2 (h.lt hs)
 rwa [Yyd] at this
theorem BfQ.val {g:Gl} {MX:Nat->Prop} {LF:List Int} {Q:List Nat} {hd c:Nat} (h:BfQ g MX LF Q hd c) {s:Nat} (hs:s∈Q):∃k:Nat,LF[s]?=some (k:Int)/\DnS g.es MX s k/\k<=c:=by
 obtain⟨x,hx,hf⟩:=(h.q s).1 hs;rcases h.d s x hx with rfl | ⟨k,rfl,hk⟩
 .exact absurd rfl hf
 .exact⟨k,hx,hk⟩
theorem BfQ.weak {g:Gl} {MX:Nat->Prop} {LF:List Int} {Q:List Nat} {hd c c':Nat} (h:BfQ g MX LF Q hd c) (hc:c<=c'):BfQ g MX LF Q hd c':=
 { h with d:=fun s x hx=>(h.d s x hx).imp id fun ⟨k,h1,h2,h3⟩=>⟨k,h1,h2,by omega⟩ }
theorem BfQ.put {g:Gl} {MX:Nat->Prop} {LF:List Int} {Q:List Nat} {hd c:Nat} (h:BfQ g MX LF Q hd c) {t s:Nat} {e:Ed} {x:Nat} (ht:Q[hd]?=some t) (hx:LF[t]?=some (x:Int)) (hxc:x+1<=c) (hc:c<=100000) (he:e∈g.es) (h1:e.t=(t:Int)) (h2:e.f=(s:Int)) (hs:LF[s]?=some farN) :
  BfQ g MX (LF.set s ((x:Int)+1)) (Q++[s]) hd c:=by
 have hsl:=(Ya.1 hs).1;have hno:s∉Q:=fun hm=>by
  obtain⟨y,hy,hf⟩:=(h.q s).1 hm;rw[hs] at hy;cases hy;exact hf rfl
 have hdt:DnS g.es MX t x:=by
  rcases h.d t _ hx with h9 | ⟨k,h9,h10,_⟩
  .exact absurd h9 (by unfold farN;omega)
  .have:k=x:=by omega
   subst this;exact h10
 have old:∀ {u:Nat},u∈Q->(LF.set s ((x:Int)+1))[u]?=LF[u]?:=fun {u} hu=>Yy (fun e=>hno (by rw[e];exact hu));have hdl:=(Ya.1 ht).1;refine⟨by rw[Yyh];exact h.ln,fun u y hu=>?_,fun u=>?_,?_,fun u hu hm=>?_,fun i j a b y z hij ha hb hy hz=>?_,fun a b y z ha hb hy hz=>?_,fun i a y hi ha hy e' he' ht'=>?_⟩
 .by_cases e1:s=u
  .subst e1;rw[Yq hsl] at hu;cases hu;refine .inr ⟨x+1,by omega,.step he h2 ?_,hxc⟩;rw[h1,Ys];exact hdt
  .rw[Yy e1] at hu;exact h.d u y hu
 .rw[Yk,Ye];by_cases e1:s=u
  .subst e1;rw[Yq hsl];exact iff_of_true (.inr rfl) ⟨_,rfl,by unfold farN;omega⟩
  .rw[Yy e1,<-h.q u];exact⟨fun h9=>h9.elim id fun e=>absurd e.symm e1,.inl⟩
 .rw[List.nodup_append];exact⟨h.nd,by simp,fun a ha b hb e=>by rw[Ye] at hb;subst hb;subst e;exact hno ha⟩
 .have h9:=h.m u hu hm;rw[Yy (fun e=>by subst e;rw[hs] at h9;exact absurd (Yyp h9) (by unfold farN;decide))];exact h9
 .rcases Nat.lt_or_ge j Q.length with hj | hj
  .rw[Yyi hj] at hb;rw[Yyi (by omega)] at ha;rw[old (Yb ha)] at hy;rw[old (Yb hb)] at hz;exact h.so i j a b y z hij ha hb hy hz
  .have hjl:=(Ya.1 hb).1;rw[Yh,Yv] at hjl;rw[Yyc hj,show j-Q.length=0 by omega] at hb;cases hb;rw[Yq hsl] at hz;cases hz;rcases Nat.lt_or_ge i Q.length with hi | hi
   .rw[Yyi hi] at ha;rw[old (Yb ha)] at hy;exact h.hi t a _ y ht (Yb ha) hx hy
   .rw[Yyc hi,show i-Q.length=0 by omega] at ha;cases ha;rw[Yq hsl] at hy;cases hy;omega
 .rw[Yyi hdl,ht] at ha;cases ha;rw[old (Yb ht),hx] at hy;cases hy;rcases Yk.1 hb with hb | hb
  .rw[old hb] at hz;exact h.hi t b _ z ht hb hx hz
  .rw[Ye] at hb;subst hb;rw[Yq hsl] at hz;cases hz;omega
 .rw[Yyi (by omega)] at ha;rw[old (Yb ha)] at hy;obtain⟨z,h3,h4⟩:=h.cl i a y hi ha hy e' he' ht';have hyb:y<=c:=by
   obtain⟨k,h5,_,h6⟩:=h.val (Yb ha);rw[h5] at hy;cases hy;omega
  refine⟨z,?_,h4⟩;rw[Yy (fun e=>by rw[<-e,hs] at h3;cases h3;unfold farN at h4;omega)];exact h3
theorem BfQ.next {g:Gl} {MX:Nat->Prop} {LF:List Int} {Q:List Nat} {hd c:Nat} (h:BfQ g MX LF Q hd c) {t x:Nat} (ht:Q[hd]?=some t) (hx:LF[t]?=some (x:Int)) (hcl:∀e∈g.es,e.t=(t:Int)->∃y,LF[e.f.toNat]?=some y/\y<=x+1):BfQ g MX LF Q (hd+1) c:=by
 refine⟨h.ln,h.d,h.q,h.nd,h.m,h.so,fun s u y z hs hu hy hz=>?_,fun i a y hi ha hy e he het=>?_⟩
 .have h1:=h.hi t u _ z ht hu hx hz;have h2:=h.so hd (hd+1) t s _ y (by omega) ht hs hx hy;omega
 .by_cases e1:i=hd
  .subst e1;rw[ht] at ha;cases ha;rw[hx] at hy;cases hy;exact hcl e he het
  .exact h.cl i a y (by omega) ha hy e he het
theorem BfQ.fin {g:Gl} {MX:Nat->Prop} {LF:List Int} {Q:List Nat} {c:Nat} (h:BfQ g MX LF Q Q.length c) (hc:c<=100000) (hE:∀e∈g.es,0<=e.f/\0<=e.t/\e.t<g.n) {s k:Nat} (hd:DnS g.es MX s k):s<g.n.toNat->∃y:Nat,LF[s]?=some (y:Int)/\y<=k/\y<=c/\DnS g.es MX s y:=by
 induction hd with
 | base hm=>exact fun hs=>⟨0,h.m _ hs hm,Yyt _,Nat.zero_le _,.base hm⟩
 | @step s e k he hf hd ih=>
  intro hs;have hE1:=hE e he;obtain⟨y,h1,h2,h2',h3⟩:=ih (by omega);have hq:e.t.toNat∈Q:=(h.q _).2 ⟨_,h1,fun e9=>by unfold farN at e9;omega⟩;obtain⟨i,hi⟩:=Yf.1 hq;obtain⟨z,h4,h5⟩:=h.cl i e.t.toNat _ (Ya.1 hi).1 hi h1 e he (by omega);have hfs:e.f.toNat=s:=by omega
  rw[hfs] at h4;rcases h.d s z h4 with rfl | ⟨k',rfl,h6,h7⟩
  .unfold farN at h5;omega
  .exact⟨k',h4,by omega,h7,h6⟩
theorem BfQ.lst {g:Gl} {MX:Nat->Prop} {LF:List Int} {Q:List Nat} {c:Nat} (h:BfQ g MX LF Q Q.length c) (hc:c<=100000) (hE:∀e∈g.es,0<=e.f/\0<=e.t/\e.t<g.n) {s:Nat} (hs:s<g.n.toNat) :
  (LF[s]?=some farN/\∀k,¬DnS g.es MX s k)\/∃k:Nat,LF[s]?=some (k:Int)/\LstS g.es MX s k/\k<=c:=by
 obtain⟨x,hx⟩:=get_some (l:=LF) (i:=s) (by rw[h.ln];exact hs);rcases h.d s x hx with rfl | ⟨k,rfl,h1,h2⟩
 .refine .inl ⟨hx,fun k hk=>?_⟩;obtain⟨y,h3,_,h4,_⟩:=h.fin hc hE hk hs;rw[hx] at h3;have:=Yyp h3;unfold farN at this;omega
 .refine .inr ⟨k,hx,⟨h1,fun j hj=>?_⟩,h2⟩;obtain⟨y,h3,h4,_⟩:=h.fin hc hE hj hs;rw[hx] at h3;have:=Yyp h3;omega
theorem LstS.next {es:List Ed} {MX:Nat->Prop} {s k:Nat} (h:LstS es MX s (k+1)):∃e∈es,e.f=(s:Int)/\LstS es MX e.t.toNat k:=by
 obtain⟨hd,hl⟩:=h;cases hd with
 | step he hf hn=>exact⟨_,he,hf,hn,fun j hj=>by have:=hl _ (.step he hf hj);omega⟩
theorem LstS.uniq {es:List Ed} {MX:Nat->Prop} {s k n:Nat} (h1:LstS es MX s k) (h2:LstS es MX s n):k=n:=Nat.le_antisymm (h1.2 n h2.1) (h2.2 k h1.1)
theorem BfQ.init {g:Gl} {MX:Nat->Prop} {LF:List Int} {Q:List Nat} {c:Nat} (ln:LF.length=g.n.toNat) (h:∀s:Nat,s<g.n.toNat->(MX s/\LF[s]?=some 0/\s∈Q)\/(¬MX s/\LF[s]?=some farN/\s∉Q)) (hq:∀s∈Q,s<g.n.toNat) (nd:Q.Nodup):BfQ g MX LF Q 0 c:=by
 have hv:∀ {s:Nat} {x:Int},s∈Q->LF[s]?=some x->x=0:=fun {s x} hs hx=>by
  rcases h s (hq s hs) with ⟨_,h2,_⟩ | ⟨_,_,h2⟩
  .rw[hx] at h2;exact Yyp h2
  .exact absurd hs h2
 refine⟨ln,fun s x hx=>?_,fun s=>?_,nd,fun s hs hm=>?_,fun i j s t x y _ hs ht hx hy=>?_,fun s t x y hs ht hx hy=>?_,fun i t x hi=>by omega⟩
 .have hs:s<g.n.toNat:=by rw[<-ln];exact (Ya.1 hx).1
  rcases h s hs with ⟨h1,h2,_⟩ | ⟨_,h2,_⟩
  .rw[hx] at h2;exact .inr ⟨0,Yyp h2,.base h1,Nat.zero_le _⟩
  .rw[hx] at h2;exact .inl (Yyp h2)
 .constructor
  .intro hs;rcases h s (hq s hs) with ⟨_,h2,_⟩ | ⟨_,_,h2⟩
   .exact⟨0,h2,by unfold farN;decide⟩
   .exact absurd hs h2
  .rintro⟨x,hx,hf⟩;have hs:s<g.n.toNat:=by rw[<-ln];exact (Ya.1 hx).1
   rcases h s hs with ⟨_,_,h2⟩ | ⟨_,h2,_⟩
   .exact h2
   .rw[hx] at h2;exact absurd (Yyp h2) hf
 .rcases h s hs with ⟨_,h2,_⟩ | ⟨h2,_,_⟩
  .exact h2
  .exact absurd hm h2
 .rw[hv (Yb hs) hx,hv (Yb ht) hy];exact Int.le_refl _
 .rw[hv (Yb hs) hx,hv ht hy];omega
end Go.VC
end

section
namespace Go.VC
open Go.Proofs
/- slices.IndexFunc[[]int,int]
   loop rlrb: x_4:Int -/
def W172 (p0:Sl) (p1:Value) (h:Heap) (R:Value->Heap->Prop):Prop:=
 (∃I1:Int->Heap->Nat->Prop,(∃m2,I1 0 h m2) /\ 
 (∀(_:Env) (x_4:Int) (h5:Heap) (m3:Nat),I1 x_4 h5 m3 -> 
 (sB (decide (x_4<(p0.n:Int))) 
  ((NB p0.a fun b6 o7=>((0<=(x_4:Int)/\(x_4:Int)<(p0.n:Nat)) /\ 
  (∃x8:Int,hc h5 ⟨b6,o7+Int.toNat x_4*1,none⟩=some (.int .i64 x8) /\ 
  (match p1 with | .func (.func g9) fa10 fc11=>(bif callable Pz g9 then Fn Pz g9 (fa10 ++ #[.int .i64 x8]++fc11) h5 
  (fun v12 h14=>∃x13:Bool,v12=.bool x13 /\ 
  (sB x13 
   (R (.int .i64 x_4) h14) 
   ((∃m15,m15<m3/\I1 (IntKind.wrap .i64 (x_4+1)) h14 m15)))) else ExtW Pz g9 (fa10 ++ #[.int .i64 x8]++fc11) h5 
  (fun v12 h14=>∃x13:Bool,v12=.bool x13 /\ 
  (sB x13 
   (R (.int .i64 x_4) h14) 
   ((∃m15,m15<m3/\I1 (IntKind.wrap .i64 (x_4+1)) h14 m15))))) | _=>False))))) 
  (R (.int .i64 (-1)) h5))))
theorem vc172e (p0:Sl) (p1:Value) (h:Heap) (R:Value->Heap->Prop):W172 p0 p1 h R=fnW Pz 172 (.s .z (.s (.s .z (.b (.l [(8,.one (.int .i64))] .z))) .z)) #[.slice p0.a p0.n p0.c,p1] h R:=by kernel_rfl
theorem vc172 (p0:Sl) (p1:Value) (h:Heap) (R:Value->Heap->Prop) (H:W172 p0 p1 h R):Fn Pz 172 #[.slice p0.a p0.n p0.c,p1] h R:=fnI (vc172e p0 p1 h R) H
/- (*farandole/realize.analysis).mixed$1 -/
def W173 (p0:Int) (c0:Addr) (c1:Addr) (c2:Addr) (h:Heap) (R:Value->Heap->Prop):Prop:=
 (∃x1:Sl,hc h c0=some (.slice x1.a x1.n x1.c) /\ 
 (∃x2:Option Addr,hc h c1=some (.pointer x2) /\ 
 (NC x2 fun a3=>(∃x4:Sl,hc h ⟨a3.block,a3.off+6,none⟩=some (.slice x4.a x4.n x4.c) /\ 
 (NB x4.a fun b5 o6=>((0<=(p0:Int)/\(p0:Int)<(x4.n:Nat)) /\ 
 (∃x7:Int,hc h ⟨b5,o6+Int.toNat p0*6+4,none⟩=some (.int .i64 x7) /\ 
 (NB x1.a fun b8 o9=>((0<=(x7:Int)/\(x7:Int)<(x1.n:Nat)) /\ 
 (∃x10:Int,hc h ⟨b8,o9+Int.toNat x7*1,none⟩=some (.int .i64 x10) /\ 
 (∃x11:Sl,hc h c0=some (.slice x11.a x11.n x11.c) /\ 
 (∃x12:Int,hc h c2=some (.int .i64 x12) /\ 
 (NB x11.a fun b13 o14=>((0<=(x12:Int)/\(x12:Int)<(x11.n:Nat)) /\ 
 (∃x15:Int,hc h ⟨b13,o14+Int.toNat x12*1,none⟩=some (.int .i64 x15) /\ 
 R (.bool (x10==(IntKind.wrap .i64 (x15-1)))) h)))))))))))))))
theorem vc173e (p0:Int) (c0:Addr) (c1:Addr) (c2:Addr) (h:Heap) (R:Value->Heap->Prop):W173 p0 c0 c1 c2 h R=fnW Pz 173 .z #[.int .i64 p0,.pointer (some c0),.pointer (some c1),.pointer (some c2)] h R:=by kernel_rfl
theorem vc173 (p0:Int) (c0:Addr) (c1:Addr) (c2:Addr) (h:Heap) (R:Value->Heap->Prop) (H:W173 p0 c0 c1 c2 h R):Fn Pz 173 #[.int .i64 p0,.pointer (some c0),.pointer (some c1),.pointer (some c2)] h R:=fnI (vc173e p0 c0 c1 c2 h R) H
/- slices.IndexFunc[[]farandole/realize.event,farandole/realize.event]
   loop rlrb: x_4:Int -/
def W174 (p0:Sl) (p1:Value) (h:Heap) (R:Value->Heap->Prop):Prop:=
 (∃I1:Int->Heap->Nat->Prop,(∃m2,I1 0 h m2) /\ 
 (∀(_:Env) (x_4:Int) (h5:Heap) (m3:Nat),I1 x_4 h5 m3 -> 
 (sB (decide (x_4<(p0.n:Int))) 
  ((NB p0.a fun b6 o7=>((0<=(x_4:Int)/\(x_4:Int)<(p0.n:Nat)) /\ 
  (∃x8:Bool,∃x9:Int,∃x10:Int,atC h5 ⟨b6,o7+Int.toNat x_4*3,none⟩ [.bool x8,.int .i64 x9,.int .i64 x10] /\ 
  (match p1 with | .func (.func g11) fa12 fc13=>(bif callable Pz g11 then Fn Pz g11 (fa12 ++ #[.agg ⟨[.bool x8,.int .i64 x9,.int .i64 x10]⟩]++fc13) h5 
  (fun v14 h16=>∃x15:Bool,v14=.bool x15 /\ 
  (sB x15 
   (R (.int .i64 x_4) h16) 
   ((∃m17,m17<m3/\I1 (IntKind.wrap .i64 (x_4+1)) h16 m17)))) else ExtW Pz g11 (fa12 ++ #[.agg ⟨[.bool x8,.int .i64 x9,.int .i64 x10]⟩]++fc13) h5 
  (fun v14 h16=>∃x15:Bool,v14=.bool x15 /\ 
  (sB x15 
   (R (.int .i64 x_4) h16) 
   ((∃m17,m17<m3/\I1 (IntKind.wrap .i64 (x_4+1)) h16 m17))))) | _=>False))))) 
  (R (.int .i64 (-1)) h5))))
theorem vc174e (p0:Sl) (p1:Value) (h:Heap) (R:Value->Heap->Prop):W174 p0 p1 h R=fnW Pz 174 (.s .z (.s (.s .z (.b (.l [(8,.one (.int .i64))] .z))) .z)) #[.slice p0.a p0.n p0.c,p1] h R:=by kernel_rfl
theorem vc174 (p0:Sl) (p1:Value) (h:Heap) (R:Value->Heap->Prop) (H:W174 p0 p1 h R):Fn Pz 174 #[.slice p0.a p0.n p0.c,p1] h R:=fnI (vc174e p0 p1 h R) H
/- (*farandole/realize.analysis).mixed$2 -/
def W175 (p0_1:Bool) (p0_2:Int) (p0_3:Int) (h:Heap) (R:Value->Heap->Prop):Prop:=
 (∀h4:Heap,h4=h.push (.cells ⟨[.bool p0_1,.int .i64 p0_2,.int .i64 p0_3]⟩ 188) -> 
 (∃x5:Bool,hc h4 ⟨h.size,0,none⟩=some (.bool x5) /\ 
 R (.bool (!x5)) h4))
theorem vc175e (p0_1:Bool) (p0_2:Int) (p0_3:Int) (h:Heap) (R:Value->Heap->Prop):W175 p0_1 p0_2 p0_3 h R=fnW Pz 175 .z #[.agg ⟨[.bool p0_1,.int .i64 p0_2,.int .i64 p0_3]⟩] h R:=by kernel_rfl
theorem vc175 (p0_1:Bool) (p0_2:Int) (p0_3:Int) (h:Heap) (R:Value->Heap->Prop) (H:W175 p0_1 p0_2 p0_3 h R):Fn Pz 175 #[.agg ⟨[.bool p0_1,.int .i64 p0_2,.int .i64 p0_3]⟩] h R:=fnI (vc175e p0_1 p0_2 p0_3 h R) H
end Go.VC
end

section
namespace Go.VC
open Go.Proofs Go.LexS
theorem clo176 (b:Nat) (g:Gl) (k:Nat) (x:Ed) (LF:List Int) (lf:Sl) (s:Nat) (x10 x15:Int) (c0 c1 c2:Addr) (h:Heap) (h0:hc h c0=some (Value.slice lf.a lf.n lf.c)) (h1:hc h c1=some (Value.pointer (some ⟨b,0,none⟩))) (h2:hc h c2=some (Value.int .i64 (s:Nat)))
  (hro:hc h ⟨b,6,none⟩=some (Value.slice g.he.a g.he.n g.he.c)) (hg:GI h g) (hr:Rw h 1 lf (LF.map inC)) (hk:g.es[k]?=some x) (ht:0<=x.t) (hx:LF[x.t.toNat]?=some x10) (hs:LF[s]?=some x15) (hb:0<=x15/\x15<=farN) :
  Fn Pz 173 #[.int .i64 (k:Nat),.pointer (some c0),.pointer (some c1),.pointer (some c2)] h fun v h'=>v=.bool (decide (x10=x15-1))/\Ext h h':=by
 apply vc173 (k:Nat) c0 c1 c2;unfold W173;have hkl:=(Ya.1 hk).1;have hxl:=(Ya.1 hx).1;have hsl:=(Ya.1 hs).1;have hen:=hg.e.ln;have hln:=hr.ln;unfold farN at hb;refine⟨lf,h0,some ⟨b,0,none⟩,h1,?_⟩;show ∃x4:Sl,hc h ⟨b,0+6,none⟩=some (.slice x4.a x4.n x4.c)/\_;refine⟨g.he,hro,?_⟩;refine hg.e.rw.nbI (by omega) (by omega) fun b5 o6 x' gx u=>?_;replace gx:g.es[k]?=some x':=gx;rw[hk] at gx;cases gx;refine⟨x.t,u.nth 4 rfl,?_⟩;refine hr.nbI (by omega) (by omega) fun b8 o9 d gd u2=>?_;rw[hx] at gd;cases gd;refine⟨x10,u2.hd,lf,h0,(s:Nat),h2,?_⟩;refine hr.nbI (by omega) (by omega) fun b13 o14 d gd u3=>?_;replace gd:LF[s]?=some d:=gd;rw[hs] at gd;cases gd;refine⟨x15,u3.hd,?_,.rfl'⟩;rw[w64 (by omega) (by omega)];congr 1
theorem cal176:callable Pz 173=true:=by kernel_rfl
def okE (LF:List Int) (es:List Ed) (x15:Int) (k:Nat):Bool:=decide (LF.getD (eA es k).t.toNat 0=x15-1)
theorem index175 (b:Nat) (g:Gl) (L:List Nat) (LF:List Int) (lf:Sl) (s:Nat) (x15:Int) (c0 c1 c2:Addr) (sl:Sl) (h:Heap) (hL:Rw h 1 sl ((natI L).map inC)) (hl:L.length<=1048576) (h0:hc h c0=some (Value.slice lf.a lf.n lf.c)) (h1:hc h c1=some (Value.pointer (some ⟨b,0,none⟩))) (h2:hc h c2=some (Value.int .i64 (s:Nat)))
  (hro:hc h ⟨b,6,none⟩=some (Value.slice g.he.a g.he.n g.he.c)) (hg:GI h g) (hr:Rw h 1 lf (LF.map inC)) (hk:∀k∈L,k<g.es.length) (hE:∀x∈g.es,0<=x.t/\x.t.toNat<LF.length) (hs:LF[s]?=some x15) (hb:0<=x15/\x15<=farN) :
  Fn Pz 172 #[.slice sl.a sl.n sl.c,.func (.func 173) #[] #[.pointer (some c0),.pointer (some c1),.pointer (some c2)]] h fun v h'=>v=.int .i64 (ixI (okE LF g.es x15) L)/\Ext h h':=by
 apply vc172;unfold W172;have hn9:sl.n=L.length:=by have:=hL.ln;unfold natI at this;rwa [Yc] at this
 refine⟨fun x h' μ=>∃i:Nat,x=i/\μ=sl.n-i/\i<=sl.n/\Ext h h'/\∀(j:Nat) (y:Nat),j<i->L[j]?=some y->okE LF g.es x15 y=false,⟨_,0,rfl,rfl,Nat.zero_le _,.rfl',fun j y hj=>by omega⟩,?_⟩;rintro-_ h5 μ ⟨i,rfl,rfl,hi,E,hd⟩;refine sBi (fun c=>?_) (fun c=>?_)
 .refine (hL.ext E).nbI (by omega) (by omega) fun b6 o7 d gd t=>?_;obtain⟨k,gk,rfl⟩:=natI_get gd;replace gk:L[i]?=some k:=gk;obtain⟨x,hx⟩:=get_some (hk k (Yb gk));have hxE:=hE x (Yb hx);obtain⟨x10,hx10⟩:=get_some hxE.2;refine⟨(k:Int),t.hd,?_⟩;show cond (callable Pz 173) _ _;rw[cal176,cond_true];refine (clo176 b g k x LF lf s x10 x15 c0 c1 c2 h5 (hc_ext E h0) (hc_ext E h1) (hc_ext E h2) (hc_ext E hro) (hg.ext E) (hr.ext E) hx hxE.1 hx10 hs hb).mono ?_;rintro _ h16 ⟨rfl,E2⟩;have hok:okE LF g.es x15 k=decide (x10=x15-1):=by
   unfold okE;rw[eA_get hx,Yo,hx10];rfl
  refine⟨_,rfl,sB_intro (fun c1=>⟨?_,E.trans E2⟩) (fun c1=>⟨_,by omega,i+1,by rw[w64 (by omega) (by omega)];omega,rfl,by omega,E.trans E2,fun j y hj hy=>?_⟩)⟩
  .unfold ixI;rw[ix_hit hd gk (by rw[hok];exact c1)]
  .by_cases e1:j=i
   .subst e1;rw[gk] at hy;cases hy;rw[hok];exact c1
   .exact hd j y (by omega) hy
 .refine⟨?_,E⟩;unfold ixI;rw[ix_no fun j y hj=>hd j y (by have:=(Ya.1 hj).1;omega) hj]
theorem cal178:callable Pz 175=true:=by kernel_rfl
theorem index177 (L:List Ev) (s:Sl) (h:Heap) (hr:Rw h 3 s (L.map Ev.cs)) (hl:L.length<=1048576) :
  Fn Pz 174 #[.slice s.a s.n s.c,.func (.func 175) #[] #[]] h fun v h'=>v=.int .i64 (ixI (fun x=>!x.send) L)/\Ext h h':=by
 apply vc174;unfold W174;have hn:=hr.ln;refine⟨fun x h' μ=>∃i:Nat,x=i/\μ=s.n-i/\i<=s.n/\Ext h h'/\∀(j:Nat) (y:Ev),j<i->L[j]?=some y->(!y.send)=false,⟨_,0,rfl,rfl,Nat.zero_le _,.rfl',fun j y hj=>by omega⟩,?_⟩;rintro-_ h5 μ ⟨i,rfl,rfl,hi,E,hd⟩;refine sBi (fun c=>?_) (fun c=>?_)
 .refine (hr.ext E).nbI (by omega) (by omega) fun b6 o7 q g t=>?_;replace g:L[i]?=some q:=g;refine⟨q.send,q.peer,q.label,t,?_⟩;show cond (callable Pz 175) _ _;rw[cal178,cond_true];show Fn Pz 175 #[.agg ⟨q.cs⟩] h5 _;apply vc175 q.send q.peer q.label;unfold W175;refine (St.refl h5).newb fun h4 hs=>?_;refine⟨q.send,hs.rd 0 rfl (i:=0) rfl,?_⟩;refine⟨_,rfl,sB_intro (fun c1=>⟨?_,E.trans hs.ext⟩) (fun c1=>⟨_,by omega,i+1,by rw[w64 (by omega) (by omega)];omega,rfl,by omega,E.trans hs.ext,fun j y hj hy=>?_⟩)⟩
  .unfold ixI;rw[ix_hit hd g c1]
  .by_cases e1:j=i
   .subst e1;rw[g] at hy;cases hy;exact c1
   .exact hd j y (by omega) hy
 .refine⟨?_,E⟩;unfold ixI;rw[ix_no fun j y hj=>hd j y (by have:=(Ya.1 hj).1;omega) hj]
end Go.VC
end

section
namespace Go.VC
open Go.Proofs
/- (*farandole/realize.analysis).mixed
   loop rrrrrrlrborlbrb: queue_83:Sl, x_84:Int
   loop rrrrrrrrrrrlb: 
   loop rrrrrrlrb: queue_73:Sl, head_74:Int
   loop rrrrrlrb: queue_44:Sl, x_45:Int
   loop rrrrlrb: x_19:Int -/
def V97c (h148:Heap) (h:Heap) (h75:Heap) (h114:Heap) (h1:Heap) (R:Value->Heap->Prop) (x139:Int):Prop:=
 (∃x225:Option Addr,hc h148 (aS h 0)=some (.pointer x225) /\ 
 (NC x225 fun a226=>(∃x227,rS h148 ⟨a226.block,a226.off+10,none⟩ x227 /\ 
 (∃x228,rI h148 (aS h75 0) x228 /\ 
 (NB x227.a fun b229 o230=>(Ib x228 x227.n /\ 
 (∃x231:Sl,∃x232:Bool,atC h148 ⟨b229,o230+Int.toNat x228*2,none⟩ [vS x231,.bool x232] /\ 
 (Wn h148 [.slice none 0 0,.bool false] 195 fun h233=>
 (Sm [⟨b229,o230+Int.toNat x228*2,none⟩,(aS h75 0),⟨a226.block,a226.off+10,none⟩,(aS h 0)] h148 h233 /\ 
 (Wp h233 (aS h148 0) 2 [vS x231,.bool x232] fun h234=>
 (∃x235:Option Addr,hc h234 (aS h 0)=some (.pointer x235) /\ 
 (∃x236,rS h234 (aS h148 0) x236 /\ 
 (NB x236.a fun b237 o238=>(Ib 0 x236.n /\ 
 (∃x239:Bool,∃x240:Int,∃x241:Int,atC h234 ⟨b237,o238+Int.toNat 0*3,none⟩ [.bool x239,vI x240,vI x241] /\ 
 (Fn Pz 171 #[.pointer x235,.agg ⟨[.bool x239,vI x240,vI x241]⟩] h234 
 (fun v242 h248=>∃x243:Int,∃x244:Bool,∃x245:Int,∃x246:Int,∃x247:Sl,v242=.agg ⟨[vI x243,.bool x244,vI x245,vI x246,vS x247]⟩ /\ 
 (Wp h248 (aS h114 4) 5 [vI x243,.bool x244,vI x245,vI x246,vS x247] fun h249=>
 (Wp h249 (aS h114 9) 5 [vI (-1),.bool false,vI 0,vI 0,.slice none 0 0] fun h250=>
 (∃x251,rS h250 (aS h148 0) x251 /\ 
 (Fn Pz 174 #[vS x251,.func (.func 175) #[] #[]] h250 
 (fun v252 h254=>∃x253,iI v252 x253 /\ 
 (sB (decide (x253>=0)) 
 ((∃x255:Option Addr,hc h254 (aS h 0)=some (.pointer x255) /\ 
 (∃x256,rS h254 (aS h148 0) x256 /\ 
 (NB x256.a fun b257 o258=>(Ib x253 x256.n /\ 
 (∃x259:Bool,∃x260:Int,∃x261:Int,atC h254 ⟨b257,o258+Int.toNat x253*3,none⟩ [.bool x259,vI x260,vI x261] /\ 
 (Fn Pz 171 #[.pointer x255,.agg ⟨[.bool x259,vI x260,vI x261]⟩] h254 
 (fun v262 h268=>∃x263:Int,∃x264:Bool,∃x265:Int,∃x266:Int,∃x267:Sl,v262=.agg ⟨[vI x263,.bool x264,vI x265,vI x266,vS x267]⟩ /\ 
 (Wp h268 (aS h114 9) 5 [vI x263,.bool x264,vI x265,vI x266,vS x267] fun h269=>
 (∃x270:Int,∃x271:Int,∃x272:Sl,∃x273:Sl,∃x274:Int,∃x275:Bool,∃x276:Int,∃x277:Int,∃x278:Sl,∃x279:Int,∃x280:Bool,∃x281:Int,∃x282:Int,∃x283:Sl,atC h269 (aS h114 0) [vI x270,vI x271,vS x272,vS x273,vI x274,.bool x275,vI x276,vI x277,vS x278,vI x279,.bool x280,vI x281,vI x282,vS x283] /\ 
 (Wp h269 (aS h1 0) 14 [vI x270,vI x271,vS x272,vS x273,vI x274,.bool x275,vI x276,vI x277,vS x278,vI x279,.bool x280,vI x281,vI x282,vS x283] fun h284=>
 (∃x285:Int,∃x286:Int,∃x287:Sl,∃x288:Sl,∃x289:Int,∃x290:Bool,∃x291:Int,∃x292:Int,∃x293:Sl,∃x294:Int,∃x295:Bool,∃x296:Int,∃x297:Int,∃x298:Sl,atC h284 (aS h1 0) [vI x285,vI x286,vS x287,vS x288,vI x289,.bool x290,vI x291,vI x292,vS x293,vI x294,.bool x295,vI x296,vI x297,vS x298] /\ 
 R (.tuple ⟨[.agg ⟨[vI x285,vI x286,vS x287,vS x288,vI x289,.bool x290,vI x291,vI x292,vS x293,vI x294,.bool x295,vI x296,vI x297,vS x298]⟩,vI (IntKind.wrap .i64 (2*x139))]⟩) h284)))))))))))) 
 ((∃x299:Int,∃x300:Int,∃x301:Sl,∃x302:Sl,∃x303:Int,∃x304:Bool,∃x305:Int,∃x306:Int,∃x307:Sl,∃x308:Int,∃x309:Bool,∃x310:Int,∃x311:Int,∃x312:Sl,atC h254 (aS h114 0) [vI x299,vI x300,vS x301,vS x302,vI x303,.bool x304,vI x305,vI x306,vS x307,vI x308,.bool x309,vI x310,vI x311,vS x312] /\ 
 (Wp h254 (aS h1 0) 14 [vI x299,vI x300,vS x301,vS x302,vI x303,.bool x304,vI x305,vI x306,vS x307,vI x308,.bool x309,vI x310,vI x311,vS x312] fun h313=>
 (∃x314:Int,∃x315:Int,∃x316:Sl,∃x317:Sl,∃x318:Int,∃x319:Bool,∃x320:Int,∃x321:Int,∃x322:Sl,∃x323:Int,∃x324:Bool,∃x325:Int,∃x326:Int,∃x327:Sl,atC h313 (aS h1 0) [vI x314,vI x315,vS x316,vS x317,vI x318,.bool x319,vI x320,vI x321,vS x322,vI x323,.bool x324,vI x325,vI x326,vS x327] /\ 
 R (.tuple ⟨[.agg ⟨[vI x314,vI x315,vS x316,vS x317,vI x318,.bool x319,vI x320,vI x321,vS x322,vI x323,.bool x324,vI x325,vI x326,vS x327]⟩,vI (IntKind.wrap .i64 (2*x139))]⟩) h313)))))))))))))))))))))))))))
def V97s (h148:Heap) (h:Heap) (h75:Heap) (h10:Heap) (h114:Heap) (m147:Nat) (I145:Heap->Nat->Prop):Prop:=
 (∃x154:Option Addr,hc h148 (aS h 0)=some (.pointer x154) /\ 
 (NC x154 fun a155=>(∃x156,rS h148 ⟨a155.block,a155.off+6,none⟩ x156 /\ 
 (∃x157:Option Addr,hc h148 (aS h 0)=some (.pointer x157) /\ 
 (NC x157 fun a158=>(∃x159,rS h148 ⟨a158.block,a158.off+9,none⟩ x159 /\ 
 (∃x160,rI h148 (aS h75 0) x160 /\ 
 (NB x159.a fun b161 o162=>(Ib x160 x159.n /\ 
 (∃x163,rS h148 ⟨b161,o162+Int.toNat x160*1,none⟩ x163 /\ 
 (∃x164:Option Addr,hc h148 (aS h 0)=some (.pointer x164) /\ 
 (NC x164 fun a165=>(∃x166,rS h148 ⟨a165.block,a165.off+9,none⟩ x166 /\ 
 (∃x167,rI h148 (aS h75 0) x167 /\ 
 (NB x166.a fun b168 o169=>(Ib x167 x166.n /\ 
 (∃x170,rS h148 ⟨b168,o169+Int.toNat x167*1,none⟩ x170 /\ 
 ((Fn Pz 172 #[vS x170,.func (.func 173) #[] #[.pointer (some (aS h10 0)),.pointer (some (aS h 0)),.pointer (some (aS h75 0))]] h148 
 (fun v171 h173=>∃x172,iI v171 x172 /\ 
 (Sm [⟨b161,o162+Int.toNat x160*1,none⟩,(aS h75 0),⟨a158.block,a158.off+9,none⟩,(aS h 0),⟨a155.block,a155.off+6,none⟩,(aS h 0)] h148 h173 /\ 
 (NB x163.a fun b174 o175=>(Ib x172 x163.n /\ 
 (∃x176,rI h173 ⟨b174,o175+Int.toNat x172*1,none⟩ x176 /\ 
 (NB x156.a fun b177 o178=>(Ib x176 x156.n /\ 
 (∃x179:Int,∃x180:Int,∃x181:Int,∃x182:Int,∃x183:Int,∃x184:Bool,atC h173 ⟨b177,o178+Int.toNat x176*6,none⟩ [vI x179,vI x180,vI x181,vI x182,vI x183,.bool x184] /\ 
 (Wn h173 [vI 0,vI 0,vI 0,vI 0,vI 0,.bool false] 67 fun h185=>
 (Sm [⟨b177,o178+Int.toNat x176*6,none⟩,⟨b174,o175+Int.toNat x172*1,none⟩,⟨b168,o169+Int.toNat x167*1,none⟩,(aS h75 0),⟨a165.block,a165.off+9,none⟩,(aS h 0),⟨b161,o162+Int.toNat x160*1,none⟩,(aS h75 0),⟨a158.block,a158.off+9,none⟩,(aS h 0),⟨a155.block,a155.off+6,none⟩,(aS h 0)] h173 h185 /\ 
 (Wp h185 (aS h173 0) 6 [vI x179,vI x180,vI x181,vI x182,vI x183,.bool x184] fun h186=>
 (∃x187,rS h186 (aS h114 2) x187 /\ 
 (∃x188:Int,∃x189:Int,∃x190:Int,atC h186 (aS h173 1) [vI x188,vI x189,vI x190] /\ 
 (Wn h186 [vI x188,vI x189,vI x190] 65 fun h191=>
 (App Pz 30 30 (vS x187) (.slice (some (aS h186 0)) 1 1) h191 fun s192 h193=>
 (Wp h193 (aS h114 2) 1 [vS s192] fun h194=>
 (∃x195,rI h194 (aS h173 4) x195 /\ 
 (Wp h194 (aS h75 0) 1 [vI x195] fun h196=>
 (∃m197,m197<m147/\I145 h196 m197)))))))))))))))))))))/\((Wn h148 [vI 0,vI 0,vI 0,vI 0,vI 0,.bool false] 67 fun h198=>
 (Sm [⟨b168,o169+Int.toNat x167*1,none⟩,(aS h75 0),⟨a165.block,a165.off+9,none⟩,(aS h 0),⟨b161,o162+Int.toNat x160*1,none⟩,(aS h75 0),⟨a158.block,a158.off+9,none⟩,(aS h 0),⟨a155.block,a155.off+6,none⟩,(aS h 0)] h148 h198 /\ 
 (Fn Pz 172 #[vS x170,.func (.func 173) #[] #[.pointer (some (aS h10 0)),.pointer (some (aS h 0)),.pointer (some (aS h75 0))]] h198 
 (fun v199 h201=>∃x200,iI v199 x200 /\ 
 (Sm [⟨b161,o162+Int.toNat x160*1,none⟩,(aS h75 0),⟨a158.block,a158.off+9,none⟩,(aS h 0),⟨a155.block,a155.off+6,none⟩,(aS h 0)] h198 h201 /\ 
 (NB x163.a fun b202 o203=>(Ib x200 x163.n /\ 
 (∃x204,rI h201 ⟨b202,o203+Int.toNat x200*1,none⟩ x204 /\ 
 (NB x156.a fun b205 o206=>(Ib x204 x156.n /\ 
 (∃x207:Int,∃x208:Int,∃x209:Int,∃x210:Int,∃x211:Int,∃x212:Bool,atC h201 ⟨b205,o206+Int.toNat x204*6,none⟩ [vI x207,vI x208,vI x209,vI x210,vI x211,.bool x212] /\ 
 (Wp h201 (aS h148 0) 6 [vI x207,vI x208,vI x209,vI x210,vI x211,.bool x212] fun h213=>
 (∃x214,rS h213 (aS h114 2) x214 /\ 
 (∃x215:Int,∃x216:Int,∃x217:Int,atC h213 (aS h148 1) [vI x215,vI x216,vI x217] /\ 
 (Wn h213 [vI x215,vI x216,vI x217] 65 fun h218=>
 (App Pz 30 30 (vS x214) (.slice (some (aS h213 0)) 1 1) h218 fun s219 h220=>
 (Wp h220 (aS h114 2) 1 [vS s219] fun h221=>
 (∃x222,rI h221 (aS h148 4) x222 /\ 
 (Wp h221 (aS h75 0) 1 [vI x222] fun h223=>
 (∃m224,m224<m147/\I145 h223 m224))))))))))))))))))))))))))))))))))))))
def V97b (h75:Heap) (h:Heap) (h10:Heap) (h1:Heap) (R:Value->Heap->Prop):Prop:=
 (∃x110:Option Addr,hc h75 (aS h 0)=some (.pointer x110) /\ 
 (NC x110 fun a111=>(∃x112,rI h75 ⟨a111.block,a111.off+4,none⟩ x112 /\ 
 (Wn h75 [vI 0] 3 fun h113=>
 (Wp h113 (aS h75 0) 1 [vI x112] fun h114=>
 (∃x115,rS h114 (aS h10 0) x115 /\ 
 (∃x116,rI h114 (aS h75 0) x116 /\ 
 (NB x115.a fun b117 o118=>(Ib x116 x115.n /\ 
 (∃x119,rI h114 ⟨b117,o118+Int.toNat x116*1,none⟩ x119 /\ 
 (sB (x119==1073741824) 
 ((Wp h114 (aS h1 0) 14 [vI 0,vI 0,.slice none 0 0,.slice none 0 0,vI 0,.bool false,vI 0,vI 0,.slice none 0 0,vI 0,.bool false,vI 0,vI 0,.slice none 0 0] fun h120=>
 (∃x121:Int,∃x122:Int,∃x123:Sl,∃x124:Sl,∃x125:Int,∃x126:Bool,∃x127:Int,∃x128:Int,∃x129:Sl,∃x130:Int,∃x131:Bool,∃x132:Int,∃x133:Int,∃x134:Sl,atC h120 (aS h1 0) [vI x121,vI x122,vS x123,vS x124,vI x125,.bool x126,vI x127,vI x128,vS x129,vI x130,.bool x131,vI x132,vI x133,vS x134] /\ 
 R (.tuple ⟨[.agg ⟨[vI x121,vI x122,vS x123,vS x124,vI x125,.bool x126,vI x127,vI x128,vS x129,vI x130,.bool x131,vI x132,vI x133,vS x134]⟩,vI 1073741824]⟩) h120))) 
 ((∃x135,rS h114 (aS h10 0) x135 /\ 
 (∃x136,rI h114 (aS h75 0) x136 /\ 
 (NB x135.a fun b137 o138=>(Ib x136 x135.n /\ 
 (∃x139,rI h114 ⟨b137,o138+Int.toNat x136*1,none⟩ x139 /\ 
 (∃x140:Option Addr,hc h114 (aS h 0)=some (.pointer x140) /\ 
 (NC x140 fun a141=>(∃x142,rI h114 ⟨a141.block,a141.off+8,none⟩ x142 /\ 
 (Wn h114 [vI 0,vI 0,.slice none 0 0,.slice none 0 0,vI 0,.bool false,vI 0,vI 0,.slice none 0 0,vI 0,.bool false,vI 0,vI 0,.slice none 0 0] 35 fun h143=>
 (Wp h143 (aS h114 0) 14 [vI 2,vI x142,.slice none 0 0,.slice none 0 0,vI 0,.bool false,vI 0,vI 0,.slice none 0 0,vI 0,.bool false,vI 0,vI 0,.slice none 0 0] fun h144=>
 (∃I145:Heap->Nat->Prop,(∃m146,I145 h144 m146) /\ 
 (∀(_:Env) (h148:Heap) (m147:Nat),I145 h148 m147 -> 
 (∃x149,rS h148 (aS h10 0) x149 /\ 
 (∃x150,rI h148 (aS h75 0) x150 /\ 
 (NB x149.a fun b151 o152=>(Ib x150 x149.n /\ 
 (∃x153,rI h148 ⟨b151,o152+Int.toNat x150*1,none⟩ x153 /\ 
 (sB (decide (x153>0)) 
 ((V97s h148 h h75 h10 h114 m147 I145)) 
 ((V97c h148 h h75 h114 h1 R x139))))))))))))))))))))))))))))))))
def V97q (queue_73:Sl) (h75:Heap) (x79:Sl) (h10:Heap) (head_74:Int) (m72:Nat) (I70:Sl->Int->Heap->Nat->Prop):Prop:=
 (∃I80:Sl->Int->Heap->Nat->Prop,(∃m81,I80 queue_73 0 h75 m81) /\ 
    (∀(_:Env) (queue_83:Sl) (x_84:Int) (h85:Heap) (m82:Nat),I80 queue_83 x_84 h85 m82 -> 
    (sB (decide (x_84<(x79.n:Int))) 
     ((NB x79.a fun b86 o87=>((0<=(x_84:Int)/\(x_84:Int)<(x79.n:Nat)) /\ 
     (∃x88:Int,hc h85 ⟨b86,o87+Int.toNat x_84*1,none⟩=some (.int .i64 x88) /\ 
     (∃x89:Sl,hc h85 ⟨h10.size,0,none⟩=some (.slice x89.a x89.n x89.c) /\ 
     (NB x89.a fun b90 o91=>((0<=(x88:Int)/\(x88:Int)<(x89.n:Nat)) /\ 
     (∃x92:Int,hc h85 ⟨b90,o91+Int.toNat x88*1,none⟩=some (.int .i64 x92) /\ 
     (sB (x92==1073741824) 
      ((∃x93:Sl,hc h85 ⟨h10.size,0,none⟩=some (.slice x93.a x93.n x93.c) /\ 
      (∃x94:Sl,hc h85 ⟨h10.size,0,none⟩=some (.slice x94.a x94.n x94.c) /\ 
      (NB queue_83.a fun b95 o96=>((0<=(head_74:Int)/\(head_74:Int)<(queue_83.n:Nat)) /\ 
      (∃x97:Int,hc h85 ⟨b95,o96+Int.toNat head_74*1,none⟩=some (.int .i64 x97) /\ 
      (NB x94.a fun b98 o99=>((0<=(x97:Int)/\(x97:Int)<(x94.n:Nat)) /\ 
      (∃x100:Int,hc h85 ⟨b98,o99+Int.toNat x97*1,none⟩=some (.int .i64 x100) /\ 
      (NB x93.a fun b101 o102=>((0<=(x88:Int)/\(x88:Int)<(x93.n:Nat)) /\ 
      (okAt h85 ⟨b101,o102+Int.toNat x88*1,none⟩ 1/\∀h103:Heap,h103=hputs h85 ⟨b101,o102+Int.toNat x88*1,none⟩ 0 [.int .i64 (IntKind.wrap .i64 (x100+1))] -> 
      (∀h104:Heap,h104=h103.push (.cells ⟨[.int .i64 x88]⟩ 3) -> 
      (App Pz 102 102 (.slice queue_83.a queue_83.n queue_83.c) (.slice (some ⟨h103.size,0,none⟩) 1 1) h104 fun s105 h106=>
      (∃m107,m107<m82/\I80 s105 (IntKind.wrap .i64 (x_84+1)) h106 m107))))))))))))))) 
      ((∃m108,m108<m82/\I80 queue_83 (IntKind.wrap .i64 (x_84+1)) h85 m108))))))))))) 
     ((∃m109,m109<m72/\I70 queue_83 (IntKind.wrap .i64 (head_74+1)) h85 m109)))))
def V97p (queue_44:Sl) (h46:Heap) (x5:Int) (h2:Heap) (h10:Heap) (h:Heap) (h1:Heap) (R:Value->Heap->Prop):Prop:=
 (∃I70:Sl->Int->Heap->Nat->Prop,(∃m71,I70 queue_44 0 h46 m71) /\ 
   (∀(_:Env) (queue_73:Sl) (head_74:Int) (h75:Heap) (m72:Nat),I70 queue_73 head_74 h75 m72 -> 
   (sB (decide (head_74<(queue_73.n:Int))) 
    ((NB queue_73.a fun b76 o77=>((0<=(head_74:Int)/\(head_74:Int)<(queue_73.n:Nat)) /\ 
    (∃x78:Int,hc h75 ⟨b76,o77+Int.toNat head_74*1,none⟩=some (.int .i64 x78) /\ 
    ((0<=(x78:Int)/\(x78:Int)<((Int.toNat x5):Nat)) /\ 
    (∃x79:Sl,hc h75 ⟨h2.size,0+Int.toNat x78*1,none⟩=some (.slice x79.a x79.n x79.c) /\ 
    (V97q queue_73 h75 x79 h10 head_74 m72 I70))))))) 
    ((V97b h75 h h10 h1 R)))))
def V97l (h20:Heap) (h10:Heap) (h:Heap) (x5:Int) (h2:Heap) (h1:Heap) (R:Value->Heap->Prop):Prop:=
 (∃x40:Sl,hc h20 ⟨h10.size,0,none⟩=some (.slice x40.a x40.n x40.c) /\ 
  (∃I41:Sl->Int->Heap->Nat->Prop,(∃m42,I41 ⟨none,0,0⟩ 0 h20 m42) /\ 
  (∀(_:Env) (queue_44:Sl) (x_45:Int) (h46:Heap) (m43:Nat),I41 queue_44 x_45 h46 m43 -> 
  (sB (decide (x_45<(x40.n:Int))) 
   ((∃x47:Sl,hc h46 ⟨h10.size,0,none⟩=some (.slice x47.a x47.n x47.c) /\ 
   (NB x47.a fun b48 o49=>((0<=(x_45:Int)/\(x_45:Int)<(x47.n:Nat)) /\ 
   (okAt h46 ⟨b48,o49+Int.toNat x_45*1,none⟩ 1/\∀h50:Heap,h50=hputs h46 ⟨b48,o49+Int.toNat x_45*1,none⟩ 0 [.int .i64 1073741824] -> 
   (∃x51:Option Addr,hc h50 ⟨h.size,0,none⟩=some (.pointer x51) /\ 
   (NC x51 fun a52=>(∃x53:Sl,hc h50 ⟨a52.block,a52.off+10,none⟩=some (.slice x53.a x53.n x53.c) /\ 
   (NB x53.a fun b54 o55=>((0<=(x_45:Int)/\(x_45:Int)<(x53.n:Nat)) /\ 
   (∃x56:Sl,∃x57:Bool,atC h50 ⟨b54,o55+Int.toNat x_45*2,none⟩ [.slice x56.a x56.n x56.c,.bool x57] /\ 
   (Fn Pz 149 #[.agg ⟨[.slice x56.a x56.n x56.c,.bool x57]⟩] h50 
   (fun v58 h60=>∃x59:Bool,v58=.bool x59 /\ 
   (sB x59 
    ((∃x61:Sl,hc h60 ⟨h10.size,0,none⟩=some (.slice x61.a x61.n x61.c) /\ 
    (NB x61.a fun b62 o63=>((0<=(x_45:Int)/\(x_45:Int)<(x61.n:Nat)) /\ 
    (okAt h60 ⟨b62,o63+Int.toNat x_45*1,none⟩ 1/\∀h64:Heap,h64=hputs h60 ⟨b62,o63+Int.toNat x_45*1,none⟩ 0 [.int .i64 0] -> 
    (∀h65:Heap,h65=h64.push (.cells ⟨[.int .i64 x_45]⟩ 3) -> 
    (App Pz 102 102 (.slice queue_44.a queue_44.n queue_44.c) (.slice (some ⟨h64.size,0,none⟩) 1 1) h65 fun s66 h67=>
    (∃m68,m68<m43/\I41 s66 (IntKind.wrap .i64 (x_45+1)) h67 m68)))))))) 
    ((∃m69,m69<m43/\I41 queue_44 (IntKind.wrap .i64 (x_45+1)) h60 m69)))))))))))))))) 
   ((V97p queue_44 h46 x5 h2 h10 h h1 R))))))
def W97 (p0:Addr) (h:Heap) (R:Value->Heap->Prop):Prop:=
 (Wn h [.pointer (some p0)] 89 fun h1=>
 (Wn h1 [vI 0,vI 0,.slice none 0 0,.slice none 0 0,vI 0,.bool false,vI 0,vI 0,.slice none 0 0,vI 0,.bool false,vI 0,vI 0,.slice none 0 0] 35 fun h2=>
 (∃x3:Option Addr,hc h2 (aS h 0)=some (.pointer x3) /\ 
 (NC x3 fun a4=>(∃x5,rI h2 ⟨a4.block,a4.off+3,none⟩ x5 /\ 
 (Mk x5 x5 24/\Wn h2 (madeL Pz 102 (Int.toNat x5)) 102 fun h6=>
 (∃x7:Option Addr,hc h6 (aS h 0)=some (.pointer x7) /\ 
 (NC x7 fun a8=>(∃x9,rI h6 ⟨a8.block,a8.off+3,none⟩ x9 /\ 
 (Mk x9 x9 8/\Wn h6 (madeL Pz 3 (Int.toNat x9)) 3 fun h10=>
 (Wn h10 [.slice none 0 0] 102 fun h11=>
 (Wp h11 (aS h10 0) 1 [.slice (some (aS h6 0)) (Int.toNat x9) (Int.toNat x9)] fun h12=>
 (∃x13:Option Addr,hc h12 (aS h 0)=some (.pointer x13) /\ 
 (NC x13 fun a14=>(∃x15,rS h12 ⟨a14.block,a14.off+6,none⟩ x15 /\ 
 (QI 0 h12 fun I16 x_19 h20 m18=>(
 (sB (decide (x_19<(x15.n:Int))) 
 ((NB x15.a fun b21 o22=>(Ib x_19 x15.n /\ 
 (∃x23:Int,∃x24:Int,∃x25:Int,∃x26:Int,∃x27:Int,∃x28:Bool,atC h20 ⟨b21,o22+Int.toNat x_19*6,none⟩ [vI x23,vI x24,vI x25,vI x26,vI x27,.bool x28] /\ 
 (Wn h20 [vI 0,vI 0,vI 0,vI 0,vI 0,.bool false] 67 fun h29=>
 (Wp h29 (aS h20 0) 6 [vI x23,vI x24,vI x25,vI x26,vI x27,.bool x28] fun h30=>
 (∃x31,rI h30 (aS h20 4) x31 /\ 
 (∃x32,rI h30 (aS h20 4) x32 /\ 
 ((0<=(x32:Int)/\(x32:Int)<((Int.toNat x5):Nat)) /\ 
 (∃x33,rS h30 (aS h2 (0+Int.toNat x32*1)) x33 /\ 
 (∃x34,rI h30 (aS h20 0) x34 /\ 
 (Wn h30 [vI x34] 3 fun h35=>
 (Sm [(aS h2 (0+Int.toNat x32*1)),(aS h20 4),(aS h20 4)] h30 h35 /\ 
 (App Pz 102 102 (vS x33) (.slice (some (aS h30 0)) 1 1) h35 fun s36 h37=>
 (Sm [(aS h20 4)] h35 h37 /\ 
 ((0<=(x31:Int)/\(x31:Int)<((Int.toNat x5):Nat)) /\ 
 (Wp h37 (aS h2 (0+Int.toNat x31*1)) 1 [vS s36] fun h38=>
 (∃m39,m39<m18/\I16 (IntKind.wrap .i64 (x_19+1)) h38 m39)))))))))))))))))) 
 ((V97l h20 h10 h x5 h2 h1 R))))))))))))))))))))
theorem vc97e (p0:Addr) (h:Heap) (R:Value->Heap->Prop):W97 p0 h R=fnW Pz 97 (.s .z (.s .z (.s .z (.s .z (.s (.s .z (.b (.l [(37,.one (.int .i64))] .z))) (.s (.s .z (.b (.l [(6,.one (.slice)),(57,.one (.int .i64))] .z))) (.s (.s .z (.b (.l [(6,.one (.slice)),(10,.one (.int .i64))] (.s .z (.s (.b (.s .z (.b (.l [(6,.one (.slice)),(93,.one (.int .i64))] .z)))) .z))))) (.s .z (.s .z (.s .z (.s .z (.s (.b (.l [] .z)) .z)))))))))))) #[.pointer (some p0)] h R:=by kernel_rfl
theorem vc97 (p0:Addr) (h:Heap) (R:Value->Heap->Prop) (H:W97 p0 h R):Fn Pz 97 #[.pointer (some p0)] h R:=fnI (vc97e p0 h R) H
end Go.VC
end

section
namespace Go.VC
open Go.Proofs Go.LexS
abbrev InR:=Sl × List Int
def mxL (ib lb h1b hb b:Nat) (IN:List InR) (lf:Sl) (LF:List Int) (q:Sl) (Q:List Nat):List It:=
 [.sl q 3 1 ((natI Q).map inC),.blk lb [.slice lf.a lf.n lf.c] 102,.sl lf 3 1 (LF.map inC),.blk ib ((IN.map Prod.fst).map slV) 102,.blk h1b wt0.cs 35,.blk hb [.pointer (some ⟨b,0,none⟩)] 89]++IN.map (nest 3 1 inC)++[]
def mxB (f:Fs):Bool:=sndAt f.l 0&&(f.b || !sndAt f.l (f.l.length-1))
def MXx (X:An) (s:Nat):Prop:=∃f,X.fi[s]?=some f/\mxB f=true
def inJ (es:List Ed) (t:Nat):List Int:=(es.filter fun e=>decide (e.t=(t:Int))).map (·.f)
theorem inJ_mem {es:List Ed} {t:Nat} {p:Int}:p∈inJ es t ↔ ∃e∈es,e.t=(t:Int)/\e.f=p:=by
 unfold inJ;rw[Yp];constructor
 .rintro⟨e,he,rfl⟩;rw[List.mem_filter,decide_eq_true_eq] at he;exact⟨e,he.1,he.2,rfl⟩
 .rintro⟨e,he,h1,rfl⟩;exact⟨e,List.mem_filter.2 ⟨he,decide_eq_true h1⟩,rfl⟩
theorem inJ_len (es:List Ed) (t:Nat):(inJ es t).length<=es.length:=by unfold inJ;rw[Yc];exact List.length_filter_le _ _
theorem made3c (n:Nat):madeL Pz 3 n=((List.replicate n (0:Int)).map inC).flatten:=by
 rw[made3,List.map_replicate]
 induction n with
 | zero=>rfl
 | succ n ih=>rw[List.replicate_succ,List.replicate_succ,Yyu,<-ih];rfl
theorem made42v (n:Nat):madeL Pz 102 n=(List.replicate n nilS).map slV:=by
 rw[made42s,List.map_replicate,List.map_replicate]
 induction n with
 | zero=>rfl
 | succ n ih=>rw[List.replicate_succ,List.replicate_succ,Yyu,ih];rfl
theorem inC_rows (L:List Int):∀r∈L.map inC,r.length=1:=fun r hr=>by obtain⟨x,_,rfl⟩:=Yp.1 hr;rfl
structure IN_ (g:Gl) (IN:List InR):Prop where
 e:IN.map Prod.snd=(List.range g.n.toNat).map (inJ g.es)
theorem IN_.len {g:Gl} {IN:List InR} (h:IN_ g IN):IN.length=g.n.toNat:=by have:=congrArg List.length h.e;simpa using this
theorem IN_.at {g:Gl} {IN:List InR} (h:IN_ g IN) {t:Nat} (ht:t<g.n.toNat):∃q,IN[t]?=some q/\q.2=inJ g.es t:=by
 obtain⟨q,hq⟩:=get_some (l:=IN) (i:=t) (by rw[h.len];exact ht);have h1:=map_range_get h.e ht;rw[Yd,hq] at h1;exact⟨q,hq,Yyp h1⟩
theorem bfs122 {h h46 h2 h10 h1:Heap} {b:Nat} {g:Gl} {X:An} {IN:List InR} {lf q0:Sl} {LF0:List Int} {Q0:List Nat} {R:Value->Heap->Prop}
  (hs:St h h46 (mxL h2.size h10.size h1.size h.size b IN lf LF0 q0 Q0)) (hV:ValidS g) (hI:IN_ g IN) (hB:BfQ g (MXx X) LF0 Q0 0 0)
  (hK:∀(h75:Heap) (q:Sl) (LF:List Int) (Q:List Nat),St h h75 (mxL h2.size h10.size h1.size h.size b IN lf LF q Q)->BfQ g (MXx X) LF Q Q.length 1000->V97b h75 h h10 h1 R) :
  V97p q0 h46 g.n h2 h10 h h1 R:=by
 unfold V97p;have hN:=hV.num.n;have hM:=hV.num.m;have hE:=hV.num.e;refine⟨fun q x h' μ=>∃(hd:Nat) (LF:List Int) (Q:List Nat),x=(hd:Int)/\μ=g.n.toNat-hd/\hd<=Q.length/\St h h' (mxL h2.size h10.size h1.size h.size b IN lf LF q Q)/\BfQ g (MXx X) LF Q hd hd,⟨_,0,LF0,Q0,rfl,rfl,Nat.zero_le _,hs,hB⟩,?_⟩;clear hs hB;rintro-q _ h75 μ ⟨hd,LF,Q,rfl,rfl,hhd,hs,hB⟩;have hQl:=hB.len;have hqn:=(hs.len 0 (s:=q) (e:=3) (n:=1) (rows:=(natI Q).map inC) rfl (by omega)).1;rw[Yc] at hqn;have hqn2:q.n=Q.length:=by unfold natI at hqn;rwa [Yc] at hqn
 refine sBi (fun c=>?_) (fun c=>?_)
 .refine (hs.rows 0 rfl (by omega)).nbI (by omega) (by omega) fun b76 o77 d gd u=>?_;obtain⟨t,ht,rfl⟩:=natI_get gd;replace ht:Q[hd]?=some t:=ht;have htm:=Yb ht;have htn:=hB.lt htm;obtain⟨xx,hxx,_,hxc⟩:=hB.val htm;obtain⟨qi,hqi,hqi2⟩:=hI.at htn;refine⟨(t:Int),u.hd,⟨by omega,by omega⟩,?_⟩;rw[show 0+Int.toNat ((t:Nat):Int)*1=t by omega];refine⟨qi.1,hs.rd 3 rfl (by rw[Yd,Yd,hqi];rfl),?_⟩;have hmem:∀ {LF:List Int} {q:Sl} {Q:List Nat},.sl qi.1 3 1 (qi.2.map inC)∈mxL h2.size h10.size h1.size h.size b IN lf LF q Q:=fun {LF q Q}=>by
   unfold mxL;exact List.mem_append_left _ (List.mem_append_right _ (Yp.2 ⟨qi,Yb hqi,rfl⟩))
  have hin:qi.1.n=(inJ g.es t).length:=by
   have:=(hs.rwm hmem (by omega)).1
   rwa [Yc,hqi2] at this
  have hil:=inJ_len g.es t;unfold V97q;refine⟨fun q x h' μ=>∃(j:Nat) (LF:List Int) (Q:List Nat),x=(j:Int)/\μ=qi.1.n-j/\j<=qi.1.n/\St h h' (mxL h2.size h10.size h1.size h.size b IN lf LF q Q)/\BfQ g (MXx X) LF Q hd (hd+1)/\Q[hd]?=some t/\LF[t]?=some (xx:Int)/\∀(i:Nat) p,i<j->(inJ g.es t)[i]?=some p->∃y,LF[p.toNat]?=some y/\y<=xx+1,⟨_,0,LF,Q,rfl,rfl,Nat.zero_le _,hs,hB.weak (by omega),ht,hxx,fun i p hi=>by omega⟩,?_⟩;clear hs hB hQl hqn hqn2 hhd hxx ht htm gd u c;rintro-q h85 h85' μ ⟨j,LF,Q,rfl,rfl,hj,hs,hB,ht,hxx,hpr⟩;have hQl:=hB.len;have hdl:=(Ya.1 ht).1;have hqn:=(hs.len 0 (s:=q) (e:=3) (n:=1) (rows:=(natI Q).map inC) rfl (by omega)).1;rw[Yc] at hqn;have hqn2:q.n=Q.length:=by unfold natI at hqn;rwa [Yc] at hqn
  have hlfn:=(hs.len 2 (s:=lf) (e:=3) (n:=1) (rows:=LF.map inC) rfl (by omega)).1;rw[Yc,hB.ln] at hlfn;refine sBi (fun c=>?_) (fun c=>?_)
  .refine (hs.rwm hmem (by omega)).nbI (by omega) (by omega) fun b86 o87 p gp u=>?_;rw[hqi2] at gp;replace gp:(inJ g.es t)[j]?=some p:=gp;obtain⟨e,he,het,hef⟩:=inJ_mem.1 (Yb gp);have hxe:=hE e he;unfold EdS at hxe;obtain⟨p',hp'⟩:∃p':Nat,p=(p':Int):=⟨p.toNat,by omega⟩;subst hp';refine⟨(p':Int),u.hd,lf,hs.rd 1 rfl (i:=0) rfl,?_⟩;refine (hs.rows 2 rfl (by omega)).nbI (by omega) (by omega) fun b90 o91 v gv u2=>?_;replace gv:LF[p']?=some v:=gv;refine⟨v,u2.hd,sBe (fun c2=>?_) (fun c2=>?_)⟩
   .have hvf:LF[p']?=some farN:=by rw[gv,c2];rfl
    refine⟨lf,hs.rd 1 rfl (i:=0) rfl,lf,hs.rd 1 rfl (i:=0) rfl,?_⟩;refine (hs.rows 0 rfl (by omega)).nbI (by omega) (by omega) fun b95 o96 d gd u3=>?_;obtain⟨t',ht',rfl⟩:=natI_get gd;replace ht':Q[hd]?=some t':=ht';rw[ht] at ht';cases ht';refine⟨(t:Int),u3.hd,?_⟩;refine (hs.rows 2 rfl (by omega)).nbI (by omega) (by omega) fun b98 o99 w gw u4=>?_;replace gw:LF[t]?=some w:=gw;rw[hxx] at gw;cases gw;refine⟨(xx:Int),u4.hd,?_⟩;rw[w64 (by omega) (by omega)];refine hs.set 2 rfl (by omega) (x:=(p':Int)) (by omega) (by omega) ((xx:Int)+1) rfl rfl (fun b17 o18 h103 hs=>?_) rfl;have hs:St h h103 (mxL h2.size h10.size h1.size h.size b IN lf (LF.set p' ((xx:Int)+1)) q Q):=hs;refine hs.app 0 rfl app42 (m:=1) [inC (p':Int)] rfl rfl (fun r hr=>by rw[Ye] at hr;rw[hr];rfl) rfl (by omega) (by simp only[maxLen];omega) fun s105 h106 n105 hs=>?_;have hB':=hB.put ht hxx (by omega) (by omega) he het (s:=p') hef hvf;refine⟨_,?_,j+1,_,Q++[p'],by rw[w64 (by omega) (by omega)];omega,rfl,by omega,?_,hB',by rw[Yyi hdl];exact ht,?_,fun i r hi gr=>?_⟩
    .omega
    .have e9:(natI (Q++[p'])).map inC=(natI Q).map inC++[inC (p':Int)]:=by rw[natI_snoc,Ym];rfl
     unfold mxL;rw[e9];exact hs
    .rw[Yy (fun e9=>by subst e9;rw[hvf] at hxx;have:=Yyp hxx;unfold farN at this;omega)];exact hxx
    .by_cases e9:i=j
     .subst e9;rw[gp] at gr;cases gr;refine⟨(xx:Int)+1,?_,Int.le_refl _⟩;rw[Ys];exact Yq (by rw[hB.ln];omega)
     .obtain⟨y,h5,h6⟩:=hpr i r (by omega) gr;by_cases e10:p'=r.toNat
      .rw[<-e10,hvf] at h5;have:=Yyp h5;unfold farN at this;omega
      .exact⟨y,by rw[Yy e10];exact h5,h6⟩
   .refine⟨_,?_,j+1,LF,Q,by rw[w64 (by omega) (by omega)];omega,rfl,by omega,hs,hB,ht,hxx,fun i r hi gr=>?_⟩
    .omega
    .by_cases e9:i=j
     .subst e9;rw[gp] at gr;cases gr;refine⟨v,gv,hB.hi t p' _ v ht ((hB.q p').2 ⟨v,gv,c2⟩) hxx gv⟩
     .exact hpr i r (by omega) gr
  .refine⟨_,?_,hd+1,LF,Q,by rw[w64 (by omega) (by omega)];omega,rfl,by omega,hs,hB.next ht hxx fun e he het=>?_⟩
   .omega
   .obtain⟨i,hi⟩:=Yf.1 (inJ_mem.2 ⟨e,he,het,rfl⟩);have:=(Ya.1 hi).1;exact hpr i e.f (by omega) hi
 .have:hd=Q.length:=by omega
  subst this;exact hK h75 q LF Q hs (hB.weak (by omega))
theorem NC_i {a:Addr} {F:Addr->Prop} (h:F a):NC (some a) F:=h
theorem lop122 {h h20 h2 h10 h1:Heap} {b:Nat} {g:Gl} {role:Int} {X:An} {IN:List InR} {lf:Sl} {R:Value->Heap->Prop}
  (hs:St h h20 (mxL h2.size h10.size h1.size h.size b IN lf (List.replicate g.n.toNat 0) nilS [])) (hA:AnF h b g role X) (hV:ValidS g) (hI:IN_ g IN)
  (hK:∀(h75:Heap) (q:Sl) (LF:List Int) (Q:List Nat),St h h75 (mxL h2.size h10.size h1.size h.size b IN lf LF q Q)->BfQ g (MXx X) LF Q Q.length 1000->V97b h75 h h10 h1 R) :
  V97l h20 h10 h g.n h2 h1 R:=by
 unfold V97l;have hN:=hV.num.n;have hlfn:=(hs.len 2 (s:=lf) (e:=3) (n:=1) (rows:=(List.replicate g.n.toNat 0).map inC) rfl (by omega)).1;rw[Yc,Yg] at hlfn;refine⟨lf,hs.rd 1 rfl (i:=0) rfl,?_⟩;refine⟨fun q x h' μ=>∃(s:Nat) (LF:List Int) (Q:List Nat),x=(s:Int)/\μ=g.n.toNat-s/\s<=g.n.toNat/\St h h' (mxL h2.size h10.size h1.size h.size b IN lf LF q Q)/\LF.length=g.n.toNat/\(∀t:Nat,t<s->(MXx X t/\LF[t]?=some 0/\t∈Q)\/(¬MXx X t/\LF[t]?=some farN/\t∉Q))/\(∀t∈Q,t<s)/\Q.Nodup/\Q.length<=s,
  ⟨_,0,_,[],rfl,rfl,Nat.zero_le _,hs,by rw[Yg],fun t ht=>by omega,fun t ht=>(by cases ht),.nil,Yyt _⟩,?_⟩
 clear hs;rintro-q _ h46 μ ⟨s,LF,Q,rfl,rfl,hsn,hs,hLl,hall,hQs,hnd,hQl⟩;refine sBi (fun c=>?_) (fun c=>?_)
 .refine⟨lf,hs.rd 1 rfl (i:=0) rfl,?_⟩;refine hs.set 2 rfl (by omega) (x:=(s:Int)) (by omega) (by omega) farN rfl rfl (fun b17 o18 h50 hs=>?_) rfl;have hs:St h h50 (mxL h2.size h10.size h1.size h.size b IN lf (LF.set s farN) q Q):=hs;refine⟨some ⟨b,0,none⟩,hs.rd 5 rfl (i:=0) rfl,NC_i ⟨X.hfi,hc_ext hs.ext hA.r.f,?_⟩⟩;have hfn:=hA.r.rf.ln;have hnf:=hA.nf;refine (hA.r.rf.ext hs.ext).rw.nbI (by omega) (by omega) fun b54 o55 f gf u=>?_;replace gf:X.fi[s]?=some f:=gf;have hfl:=hA.r.re f (Yb gf);refine⟨f.s,f.b,u,?_⟩;refine (mixed174 f.l f.b f.s h50 (hfl.ext hs.ext).rw hfl.sm).mono ?_;rintro _ h60 ⟨rfl,E⟩;replace hs:=hs.step E;have hmx:MXx X s ↔ mxB f=true:=⟨fun ⟨f',h1,h2⟩=>by rw[gf] at h1;cases h1;exact h2,fun h9=>⟨f,gf,h9⟩⟩;have hall':∀(v:Int) (t:Nat),t<s->((LF.set s farN).set s v)[t]?=LF[t]?:=fun v t ht=>by rw[Yy (by omega),Yy (by omega)]
  refine⟨_,rfl,sB_intro (fun c2=>?_) (fun c2=>?_)⟩
  .refine⟨lf,hs.rd 1 rfl (i:=0) rfl,?_⟩;refine hs.set 2 rfl (by omega) (x:=(s:Int)) (by omega) (by omega) (0:Int) rfl rfl (fun b17 o18 h64 hs=>?_) rfl;have hs:St h h64 (mxL h2.size h10.size h1.size h.size b IN lf ((LF.set s farN).set s 0) q Q):=hs;have hqn:=(hs.len 0 (s:=q) (e:=3) (n:=1) (rows:=(natI Q).map inC) rfl (by omega)).1;rw[Yc] at hqn;have hqn2:q.n=Q.length:=by unfold natI at hqn;rwa [Yc] at hqn
   refine hs.app 0 rfl app42 (m:=1) [inC (s:Int)] rfl rfl (fun r hr=>by rw[Ye] at hr;rw[hr];rfl) rfl (by omega) (by simp only[maxLen];omega) fun s66 h67 n66 hs=>?_;refine⟨_,?_,s+1,(LF.set s farN).set s 0,Q++[s],by rw[w64 (by omega) (by omega)];omega,rfl,by omega,?_,by rw[Yyh,Yyh];exact hLl,fun t ht=>?_,fun t ht=>?_,?_,by rw[Yh,Yv];omega⟩
   .omega
   .have e9:(natI (Q++[s])).map inC=(natI Q).map inC++[inC (s:Int)]:=by rw[natI_snoc,Ym];rfl
    unfold mxL;rw[e9];exact hs
   .by_cases e:t=s
    .subst e;exact .inl ⟨hmx.2 c2,Yq (by rw[Yyh];omega),by simp⟩
    .rw[hall' 0 t (by omega),Yk,Ye];exact (hall t (by omega)).imp (fun ⟨h1,h2,h3⟩=>⟨h1,h2,.inl h3⟩) (fun ⟨h1,h2,h3⟩=>⟨h1,h2,fun h9=>h9.elim h3 e⟩)
   .rcases Yk.1 ht with ht | ht
    .have:=hQs t ht;omega
    .rw[Ye] at ht;omega
   .rw[List.nodup_append];exact⟨hnd,by simp,fun a ha b hb e=>by rw[Ye] at hb;have:=hQs a ha;omega⟩
  .refine⟨_,?_,s+1,LF.set s farN,Q,by rw[w64 (by omega) (by omega)];omega,rfl,by omega,hs,by rw[Yyh];exact hLl,fun t ht=>?_,fun t ht=>?_,hnd,by omega⟩
   .omega
   .by_cases e:t=s
    .subst e;exact .inr ⟨fun h9=>(by rw[hmx] at h9;unfold mxB at h9;rw[h9] at c2;cases c2),Yq (by omega),fun h9=>by have:=hQs t h9;omega⟩
    .rw[Yy (by omega)];exact hall t (by omega)
   .have:=hQs t ht;omega
 .have:s=g.n.toNat:=by omega
  subst this;exact bfs122 hs hV hI (.init hLl hall hQs hnd) hK
theorem mixed122a {b:Nat} {g:Gl} {role:Int} {X:An} {h:Heap} {R:Value->Heap->Prop} (hA:AnF h b g role X) (hV:ValidS g)
  (hK:∀(h75 h10 h1 h2:Heap) (IN:List InR) (lf q:Sl) (LF:List Int) (Q:List Nat),St h h75 (mxL h2.size h10.size h1.size h.size b IN lf LF q Q)->BfQ g (MXx X) LF Q Q.length 1000->V97b h75 h h10 h1 R) :
  Fn Pz 97 #[.pointer (some ⟨b,0,none⟩)] h R:=by
 apply vc97 ⟨b,0,none⟩;unfold W97;have hN:=hV.num.n;have hM:=hV.num.m;have hE:=hV.num.e;have hg:=hA.gg.gi;have hen:=hg.e.ln;have hmx:g.n.toNat<=9223372036854775807:=by omega
 refine (St.refl h).newb fun h1 hs=>?_;refine hs.newb fun h2 hs=>?_;refine⟨some ⟨b,0,none⟩,hs.rd 1 rfl (i:=0) rfl,NC_i ⟨g.n,hc_ext hs.ext (hA.gg.at_.nth 3 rfl),⟨by omega,by omega,by omega⟩,?_⟩⟩;refine hs.newb fun h6 hs=>?_;refine⟨some ⟨b,0,none⟩,hs.rd 2 rfl (i:=0) rfl,NC_i ⟨g.n,hc_ext hs.ext (hA.gg.at_.nth 3 rfl),⟨by omega,by omega,by omega⟩,?_⟩⟩;refine hs.newb fun h10 hs=>?_;refine hs.newput (vs:=[.slice (some ⟨h6.size,0,none⟩) g.n.toNat g.n.toNat]) rfl rfl fun h12 hs=>?_;have hs:=hs.blkAt 1 rfl g.n.toNat 1 ((List.replicate g.n.toNat (0:Int)).map inC) (made3c _) (inC_rows _) (by rw[Yc,Yg]) hmx;have hs:=hs.nil_ 3 1;have hs:=hs.nests (α:=Int) (e:=3) (k:=1) (cs:=inC) (A:=[_,_,_,_,_,_]) (B:=[]) g.n.toNat;generalize hlf:(⟨some ⟨h6.size,0,none⟩,g.n.toNat,g.n.toNat⟩:Sl)=lf at *;have hs:St h h12 (mxL h2.size h10.size h1.size h.size b (List.replicate g.n.toNat (nilS,[])) lf (List.replicate g.n.toNat 0) nilS []):=by
  subst hlf;unfold mxL;rw[List.map_replicate (f:=Prod.fst),<-made42v];exact hs
 clear hlf;refine⟨some ⟨b,0,none⟩,hs.rd 5 rfl (i:=0) rfl,NC_i ⟨g.he,hc_ext hs.ext (hA.gg.at_.nth 6 rfl),?_⟩⟩;refine⟨fun x h' μ=>∃(j:Nat) (IN:List InR),x=(j:Int)/\μ=g.es.length-j/\j<=g.es.length/\IN.map Prod.snd=((List.range g.n.toNat).map (inJ (g.es.take j)))/\St h h' (mxL h2.size h10.size h1.size h.size b IN lf (List.replicate g.n.toNat 0) nilS []),
  ⟨_,0,_,rfl,rfl,Nat.zero_le _,?_,hs⟩,?_⟩
 .rw[List.map_replicate];apply Yyr;intro s;rw[List.getElem?_replicate,Yd];by_cases hs:s<g.n.toNat
  .rw[if_pos hs,Yyb hs];rfl
  .rw[if_neg hs,Yl (by rw[Yyd];omega)];rfl
 clear hs;rintro-_ h20 μ ⟨j,IN,rfl,rfl,hj,hIN,hs⟩;have hIl:IN.length=g.n.toNat:=by have:=congrArg List.length hIN;simpa using this
 refine sBi (fun c=>?_) (fun c=>?_)
 .refine (hg.e.rw.ext hs.ext).nbI (by omega) (by omega) fun b21 o22 x gx u=>?_;replace gx:g.es[j]?=some x:=gx;have hxe:=hE x (Yb gx);unfold EdS at hxe;obtain⟨q,hq⟩:=get_some (l:=IN) (i:=x.t.toNat) (by omega);refine⟨_,_,_,_,_,_,u,?_⟩;refine hs.newput (vs:=x.cs) rfl rfl fun h30 hs=>?_;refine⟨x.t,hs.rd 0 rfl (i:=4) rfl,x.t,hs.rd 0 rfl (i:=4) rfl,⟨by omega,by omega⟩,?_⟩;rw[show 0+Int.toNat x.t*1=x.t.toNat by omega];refine⟨q.1,hs.rd 4 rfl (by rw[Yd,Yd,hq];rfl),x.f,hs.rd 0 rfl (i:=0) rfl,?_⟩;refine hs.newbE fun h35 E35 hs=>⟨E35.sm,?_⟩;have hs:St h h35 ((.blk h30.size [.int .i64 x.f] 3 :: .blk h20.size x.cs 67::[.sl nilS 3 1 ((natI []).map inC),.blk h10.size [.slice lf.a lf.n lf.c] 102,.sl lf 3 1 ((List.replicate g.n.toNat 0).map inC),.blk h2.size ((IN.map Prod.fst).map slV) 102,.blk h1.size wt0.cs 35,.blk h.size [.pointer (some ⟨b,0,none⟩)] 89])++IN.map (nest 3 1 inC)++[]):=hs;have hqn:=(hs.nestLn hq (by omega)).ln;have hq2:q.2=inJ (g.es.take j) x.t.toNat:=by
   have h1:=map_range_get hIN (s:=x.t.toNat) (by omega);rw[Yd,hq] at h1;exact Yyp h1
  have hql:q.2.length<=400:=by rw[hq2];refine Yys (inJ_len _ _) ?_;rw[Yu];omega
  refine hs.nestAt hq app42 x.f (hs.at 0 rfl (o:=0) (n:=1) rfl) rfl rfl (by omega) (by simp only[maxLen];omega) fun r h37 hr hs3=>?_;refine⟨sm_cons (hs.same hs3 1 1 rfl rfl) sm_nil,⟨by omega,by omega⟩,?_⟩;refine hs3.put 5 rfl (o:=x.t.toNat) (vs:=[slV r]) rfl (by rw[Yc,Yc,Yv];omega) fun h38 hs=>?_;rw[map_splice slV (by rw[Yc];omega)] at hs;refine⟨_,by omega,j+1,IN.set x.t.toNat (r,q.2++[x.f]),by rw[w64 (by omega) (by omega)];omega,rfl,by omega,?_,?_⟩
  .rw[List.map_set,hIN];refine range_set (by omega) ?_ fun t ht=>?_
   .unfold inJ;rw[take_snoc gx,List.filter_append,Ym,hq2];unfold inJ;rw[List.filter_cons_of_pos (by rw[decide_eq_true_eq];omega)];rfl
   .unfold inJ;rw[take_snoc gx,List.filter_append,Ym,List.filter_cons_of_neg (by rw[decide_eq_true_eq];omega)];exact Yw _
  .have hs:=hs.drop 2;unfold mxL;rw[List.map_set (f:=Prod.fst)];exact hs
 .rw[Yj (by omega)] at hIN;exact lop122 hs hA hV ⟨hIN⟩ fun h75 q LF Q hs hB=>hK h75 h10 h1 h2 IN lf q LF Q hs hB
inductive GS (es:List Ed) (LF:List Int) (s0:Nat):List Nat->Nat->Prop
 | nil:GS es LF s0 [] s0
 | snoc {ks:List Nat} {s:Nat} {x:Int} {j i:Nat}:GS es LF s0 ks s->LF[s]?=some x->0<x->(outG es (s:Nat)).findIdx? (okE LF es x)=some j->(outG es (s:Nat))[j]?=some i->GS es LF s0 (ks++[i]) (eA es i).t.toNat
def eacts (es:List Ed) (ks:List Nat):List Ac:=ks.map fun i=>(eA es i).act
def otE (role:Int) (l:List Ev):Evn:=(l.find? fun x=>!x.send).elim ⟨-1,false,0,0⟩ (fullE role)
def mgL (wb sb:Nat) (role:Int) (wf:Sl) (s:Nat) (F:List Ac) (R:List It):List It:=
 .sl wf 65 3 (F.map Ac.cs) :: .blk wb (Wt.cs ⟨2,role,wf,nilS,evn0,evn0⟩) 35 :: .blk sb [.int .i64 (s:Nat)] 3::R
theorem exit122 {h148 h h75 h114 h1 h2 h10:Heap} {b:Nat} {g:Gl} {role:Int} {X:An} {wf lf q:Sl} {s:Nat} {F:List Ac} {IN:List InR} {LF:List Int} {Q:List Nat} {f:Fs} {x139:Int} {R:Value->Heap->Prop}
  (hs:St h h148 (mgL h114.size h75.size role wf s F (mxL h2.size h10.size h1.size h.size b IN lf LF q Q))) (hA:AnF h b g role X) (hf:X.fi[s]?=some f) (hm:mxB f=true)
  (hK:∀(h':Heap) (w:Wt) (e0:Ev) (L:List It),w.k=2->w.r=role->f.l[0]?=some e0->w.e=fullE role e0->w.o=otE role f.l->St h h' (.sl w.f 65 3 (F.map Ac.cs) :: .sl w.s 65 3 (([]:List Ac).map Ac.cs)::L)->R (.tuple ⟨[.agg ⟨w.cs⟩,.int .i64 (IntKind.wrap .i64 (2*x139))]⟩) h') :
  V97c h148 h h75 h114 h1 R x139:=by
 unfold V97c;have hro:hc h ⟨b,8,none⟩=some (Value.int .i64 role):=hA.r.ro;have hfn:=hA.r.rf.ln;have hsl:=(Ya.1 hf).1;have hfl:=hA.r.re f (Yb hf);have hfln:=hfl.ln;have hl0:0<f.l.length:=by
  rcases Nat.eq_zero_or_pos f.l.length with h9 | h9
  .rw[List.length_eq_zero_iff] at h9;unfold mxB sndAt at hm;simp[h9] at hm
  .exact h9
 refine⟨some ⟨b,0,none⟩,hs.rd 8 rfl (i:=0) rfl,NC_i ⟨X.hfi,hc_ext hs.ext hA.r.f,(s:Nat),hs.rd 2 rfl (i:=0) rfl,?_⟩⟩;refine (hA.r.rf.ext hs.ext).rw.nbI (by omega) (by omega) fun b54 o55 f' gf u=>?_;replace gf:X.fi[s]?=some f':=gf;rw[hf] at gf;cases gf;refine⟨f.s,f.b,u,?_⟩;refine hs.newbE fun h233 E hs=>⟨E.sm,?_⟩;refine hs.put 0 rfl (o:=0) (vs:=f.cs) rfl (Yyt 2) fun h234 hs=>?_;refine⟨some ⟨b,0,none⟩,hs.rd 9 rfl (i:=0) rfl,f.s,hs.rd 0 rfl (i:=0) rfl,?_⟩;refine (hfl.ext hs.ext).rw.nbI (by omega) (by omega) fun b237 o238 e0 ge u2=>?_;replace ge:f.l[0]?=some e0:=ge;refine⟨e0.send,e0.peer,e0.label,u2,?_⟩;refine (full172 b role e0 h234 (hc_ext hs.ext hro)).mono ?_;rintro _ h248 ⟨E2,rfl⟩;replace hs:=hs.step E2;refine⟨role,e0.send,e0.peer,e0.label,nilS,rfl,?_⟩;refine hs.put 2 rfl (o:=4) (vs:=(fullE role e0).cs) rfl (by show 4+5<=14;decide) fun h249 hs=>?_;refine hs.put 2 rfl (o:=9) (vs:=Evn.cs ⟨-1,false,0,0⟩) rfl (by show 9+5<=14;decide) fun h250 hs=>?_;refine⟨f.s,hs.rd 0 rfl (i:=0) rfl,?_⟩;refine (index177 f.l f.s h250 (hfl.ext hs.ext).rw hfl.sm).mono ?_;rintro _ h254 ⟨rfl,E3⟩;replace hs:=hs.step E3;refine⟨_,rfl,?_⟩;unfold ixI;cases hix:f.l.findIdx? fun x=>!x.send with
 | none=>
  have hot:otE role f.l=⟨-1,false,0,0⟩:=by
   unfold otE;rw[List.findIdx?_eq_none_iff] at hix;rw[find_no fun j y hj=>hix y (Yb hj)];rfl
  refine sBi (fun c=>absurd c (by show ¬(-1:Int)>=0;decide)) (fun _=>?_);refine cpW hs 2 8 (w:=⟨2,role,wf,nilS,fullE role e0,⟨-1,false,0,0⟩⟩) (w0:=wt0) rfl rfl fun h86 hs=>?_;refine rdW (w:=⟨2,role,wf,nilS,fullE role e0,⟨-1,false,0,0⟩⟩) (Q:=fun cs=>R (.tuple ⟨[.agg ⟨cs⟩,.int .i64 (IntKind.wrap .i64 (2*x139))]⟩) h86) (hs.at 8 rfl (o:=0) (n:=14) rfl) ?_;have hs:=(hs.drop 1).nil_ 65 3;exact hK h86 ⟨2,role,wf,nilS,fullE role e0,⟨-1,false,0,0⟩⟩ e0 _ rfl rfl ge rfl hot.symm (hs.perm (List.Perm.swap _ _ _))
 | some i=>
  obtain⟨h1i,h2i,h3i⟩:=List.findIdx?_eq_some_iff_getElem.1 hix;obtain⟨e1,he1⟩:=get_some h1i;have he1':=(Ya.1 he1).2;have hot:otE role f.l=fullE role e1:=by
   unfold otE;rw[find_at f.l i e1 (fun j y hj hy=>?_) he1 (by rw[<-he1'];exact h2i)]
   .rfl
   .have h9:=h3i j hj;rw[(Ya.1 hy).2] at h9;simpa using h9
  refine sBi (fun c=>?_) (fun c=>absurd (Int.natCast_nonneg i) c);refine⟨some ⟨b,0,none⟩,hs.rd 9 rfl (i:=0) rfl,f.s,hs.rd 0 rfl (i:=0) rfl,?_⟩;refine (hfl.ext hs.ext).rw.nbI (x:=(i:Int)) (by omega) (by omega) fun b257 o258 e1' ge1 u3=>?_;replace ge1:f.l[i]?=some e1':=ge1;rw[he1] at ge1;cases ge1;refine⟨e1.send,e1.peer,e1.label,u3,?_⟩;refine (full172 b role e1 h254 (hc_ext hs.ext hro)).mono ?_;rintro _ h268 ⟨E4,rfl⟩;replace hs:=hs.step E4;refine⟨role,e1.send,e1.peer,e1.label,nilS,rfl,?_⟩;refine hs.put 2 rfl (o:=9) (vs:=(fullE role e1).cs) rfl (by show 9+5<=14;decide) fun h269 hs=>?_;refine cpW hs 2 8 (w:=⟨2,role,wf,nilS,fullE role e0,fullE role e1⟩) (w0:=wt0) rfl rfl fun h86 hs=>?_;refine rdW (w:=⟨2,role,wf,nilS,fullE role e0,fullE role e1⟩) (Q:=fun cs=>R (.tuple ⟨[.agg ⟨cs⟩,.int .i64 (IntKind.wrap .i64 (2*x139))]⟩) h86) (hs.at 8 rfl (o:=0) (n:=14) rfl) ?_;have hs:=(hs.drop 1).nil_ 65 3;exact hK h86 ⟨2,role,wf,nilS,fullE role e0,fullE role e1⟩ e0 _ rfl rfl ge rfl hot.symm (hs.perm (List.Perm.swap _ _ _))
theorem step122 {h148 h h75 h114 h1 h2 h10:Heap} {b:Nat} {g:Gl} {role:Int} {X:An} {wf lf q:Sl} {s j i:Nat} {x15:Int} {F:List Ac} {IN:List InR} {LF:List Int} {Q:List Nat} {m147:Nat} {I145:Heap->Nat->Prop}
  (hs:St h h148 (mgL h114.size h75.size role wf s F (mxL h2.size h10.size h1.size h.size b IN lf LF q Q))) (hA:AnF h b g role X) (hV:ValidS g) (hL:LF.length=g.n.toNat) (hsn:s<g.n.toNat) (hx:LF[s]?=some x15) (hxb:0<=x15/\x15<=farN)
  (hix:(outG g.es (s:Nat)).findIdx? (okE LF g.es x15)=some j) (gi:(outG g.es (s:Nat))[j]?=some i) (hF:F.length<=8388608)
  (hI:∀(h':Heap) (wf':Sl),St h h' (mgL h114.size h75.size role wf' (eA g.es i).t.toNat (F++[(eA g.es i).act]) (mxL h2.size h10.size h1.size h.size b IN lf LF q Q))->∃m9,m9<m147/\I145 h' m9):V97s h148 h h75 h10 h114 m147 I145:=by
 unfold V97s;have hN:=hV.num.n;have hE:=hV.num.e;have hg:=hA.gg.gi;have hen:=hg.e.ln;have hol:=outG_len g.es (s:Nat);have hM:=hV.num.m;have hros:Rw h 1 (X.os s) ((natI (outG g.es (s:Nat))).map inC):=hA.gg.rs s hsn;have hron:=hros.ln;have hron2:(X.os s).n=(outG g.es (s:Nat)).length:=by rw[hron];exact Yc _
 have hhon:=hA.gg.ro.ln;rw[Yyd] at hhon;have hjl:=(Ya.1 gi).1;obtain⟨x,hxi,hxf⟩:=outG_mem.1 (Yb gi);have hil:=(Ya.1 hxi).1;have hxe:=eA_get hxi;have hxE:=hE x (Yb hxi);unfold EdS at hxE;rw[hxe] at hI;have htt:((x.t.toNat:Nat):Int)=x.t:=by omega
 have hk9:ixI (okE LF g.es x15) (outG g.es (s:Nat))=(j:Int):=by unfold ixI;rw[hix]
 have hkl:∀k∈outG g.es (s:Nat),k<g.es.length:=fun k hk=>by
  obtain⟨y,hy,_⟩:=outG_mem.1 hk;exact (Ya.1 hy).1
 have hEt:∀y∈g.es,0<=y.t/\y.t.toNat<LF.length:=fun y hy=>by have:=hE y hy;unfold EdS at this;rw[hL];omega
 have hrow:∀ {hX:Heap},Ext h hX->∀ {F:Nat->Nat->Prop},(∀bb o,hc hX ⟨bb,o+Int.toNat ((s:Nat):Int)*1,none⟩=some (slV (X.os s))->F bb o)->NB X.ho.a fun bb o=>(0<=((s:Nat):Int)/\((s:Nat):Int)<(X.ho.n:Nat))/\F bb o:=fun {hX} E {F} hF=>by
  refine (hA.gg.ro.ext E).nbI (by omega) (by omega) fun bb o d gd u=>hF bb o ?_;replace gd:(List.range g.n.toNat)[s]?=some d:=gd;rw[Yyb hsn] at gd;cases gd;exact u.hd
 refine⟨some ⟨b,0,none⟩,hs.rd 8 rfl (i:=0) rfl,NC_i ⟨g.he,hc_ext hs.ext (hA.gg.at_.nth 6 rfl),?_⟩⟩;refine⟨some ⟨b,0,none⟩,hs.rd 8 rfl (i:=0) rfl,NC_i ⟨X.ho,hc_ext hs.ext (hA.gg.at_.nth 9 rfl),?_⟩⟩;refine⟨(s:Nat),hs.rd 2 rfl (i:=0) rfl,hrow hs.ext fun b161 o162 hr1=>⟨X.os s,hr1,?_⟩⟩;refine⟨some ⟨b,0,none⟩,hs.rd 8 rfl (i:=0) rfl,NC_i ⟨X.ho,hc_ext hs.ext (hA.gg.at_.nth 9 rfl),?_⟩⟩;refine⟨(s:Nat),hs.rd 2 rfl (i:=0) rfl,hrow hs.ext fun b168 o169 hr2=>⟨X.os s,hr2,?_⟩⟩;have hlfn:(0:Nat)<1:=by decide
 refine⟨?_,?_⟩;refine (index175 b g (outG g.es (s:Nat)) LF lf s x15 ⟨h10.size,0,none⟩ ⟨h.size,0,none⟩ ⟨h75.size,0,none⟩ (X.os s) h148 (hros.ext hs.ext) (by omega) (hs.rd 4 rfl (i:=0) rfl) (hs.rd 8 rfl (i:=0) rfl) (hs.rd 2 rfl (i:=0) rfl) (hc_ext hs.ext (hA.gg.at_.nth 6 rfl)) (hg.ext hs.ext) (hs.rows 5 rfl (by omega)) hkl hEt hx hxb).mono ?_;rintro _ h173 ⟨rfl,E⟩;replace hs:=hs.step E;rw[hk9];refine⟨_,rfl,E.sm,?_⟩;refine (hros.ext hs.ext).nbI (by omega) (by omega) fun b174 o175 d gd u=>?_;obtain⟨i',gi',rfl⟩:=natI_get gd;replace gi':(outG g.es (s:Nat))[j]?=some i':=gi';rw[gi] at gi';cases gi';refine⟨(i:Int),u.hd,?_⟩;refine (hg.e.rw.ext hs.ext).nbI (by omega) (by omega) fun b177 o178 x' gx u2=>?_;replace gx:g.es[i]?=some x':=gx;rw[hxi] at gx;cases gx;refine⟨_,_,_,_,_,_,u2,?_⟩;refine hs.newbE fun h185 E185 hs=>⟨E185.sm,?_⟩;rotate_left;refine hs.newbE fun h198 E198 hs=>⟨E198.sm,?_⟩;refine (index175 b g (outG g.es (s:Nat)) LF lf s x15 ⟨h10.size,0,none⟩ ⟨h.size,0,none⟩ ⟨h75.size,0,none⟩ (X.os s) h198 (hros.ext hs.ext) (by omega) (hs.rd 5 rfl (i:=0) rfl) (hs.rd 9 rfl (i:=0) rfl) (hs.rd 3 rfl (i:=0) rfl) (hc_ext hs.ext (hA.gg.at_.nth 6 rfl)) (hg.ext hs.ext) (hs.rows 6 rfl (by omega)) hkl hEt hx hxb).mono ?_;rintro _ h173 ⟨rfl,E⟩;replace hs:=hs.step E;rw[hk9];refine⟨_,rfl,E.sm,?_⟩;refine (hros.ext hs.ext).nbI (by omega) (by omega) fun b174 o175 d gd u=>?_;obtain⟨i',gi',rfl⟩:=natI_get gd;replace gi':(outG g.es (s:Nat))[j]?=some i':=gi';rw[gi] at gi';cases gi';refine⟨(i:Int),u.hd,?_⟩;refine (hg.e.rw.ext hs.ext).nbI (by omega) (by omega) fun b177 o178 x' gx u2=>?_;replace gx:g.es[i]?=some x':=gx;rw[hxi] at gx;cases gx;refine⟨_,_,_,_,_,_,u2,?_⟩;all_goals
  refine hs.put 0 rfl (o:=0) (vs:=x.cs) rfl (Yyt 6) fun h186 hs=>?_;refine⟨wf,hs.rd 2 rfl (i:=2) rfl,x.a,x.b,x.l,hs.at 0 rfl (o:=1) (n:=3) rfl,fun h191 e2=>?_⟩;refine hs.appgB 2 1 rfl rfl app48 (x:=x.act) e2 rfl rfl (by omega) (by decide) 2 (by show 2<14;decide) (by decide) fun s' h194 hs=>?_;refine⟨x.t,hs.rd 0 rfl (i:=4) rfl,?_⟩;refine hs.put 3 rfl (o:=0) (vs:=[.int .i64 x.t]) rfl (Yyt 1) fun h196 hs=>hI h196 s' ?_;have hs:=hs.drop 1;unfold mgL;rw[htt];exact hs
def LFok (g:Gl) (MX:Nat->Prop) (LF:List Int):Prop:=∀s:Nat,s<g.n.toNat->(LF[s]?=some farN/\∀k,¬DnS g.es MX s k)\/∃k:Nat,LF[s]?=some (k:Int)/\LstS g.es MX s k/\k<=1000
inductive MxR (g:Gl) (role:Int) (X:An) (h h':Heap):Value->Prop
 | far (hn:∀n,¬DnS g.es (MXx X) g.s.toNat n) (E:Ext h h'):MxR g role X h h' (.tuple ⟨[.agg ⟨wt0.cs⟩,.int .i64 farI]⟩)
 | hit {n:Nat} {LF:List Int} {ks:List Nat} {s:Nat} {f:Fs} {e0:Ev} {w:Wt} {L:List It} (hl:LstS g.es (MXx X) g.s.toNat n) (hn:n<=1000) (hF:LFok g (MXx X) LF) (hG:GS g.es LF g.s.toNat ks s) (h0:LF[s]?=some 0) (hf:X.fi[s]?=some f) (hm:mxB f=true)
   (hk:w.k=2) (hr:w.r=role) (hf0:f.l[0]?=some e0) (he:w.e=fullE role e0) (ho:w.o=otE role f.l)
   (hs:St h h' (.sl w.f 65 3 ((eacts g.es ks).map Ac.cs) :: .sl w.s 65 3 (([]:List Ac).map Ac.cs)::L)):MxR g role X h h' (.tuple ⟨[.agg ⟨w.cs⟩,.int .i64 ((2*n:Nat):Int)]⟩)
theorem mixed122 (b:Nat) (g:Gl) (role:Int) (X:An) (h:Heap) (hA:AnF h b g role X) (hV:ValidS g):Fn Pz 97 #[.pointer (some ⟨b,0,none⟩)] h fun v h'=>MxR g role X h h' v:=by
 refine mixed122a hA hV fun h75 h10 h1 h2 IN lf q LF Q hs hB=>?_;unfold V97b;have hN:=hV.num.n;have hE:=hV.num.e;have hE2:∀e∈g.es,0<=e.f/\0<=e.t/\e.t<g.n:=fun e he=>by have:=hE e he;unfold EdS at this;omega
 have hLF:LFok g (MXx X) LF:=fun s hs=>hB.lst (by decide) hE2 hs;have hLl:=hB.ln;have hlfn:=(hs.len 2 (s:=lf) (e:=3) (n:=1) (rows:=LF.map inC) rfl (by omega)).1;rw[Yc,hLl] at hlfn;have hss:((g.s.toNat:Nat):Int)=g.s:=Int.toNat_of_nonneg (by omega);refine⟨some ⟨b,0,none⟩,hs.rd 5 rfl (i:=0) rfl,NC_i ⟨g.s,hc_ext hs.ext (hA.gg.at_.nth 4 rfl),?_⟩⟩;refine hs.newput (vs:=[.int .i64 g.s]) rfl rfl fun h114 hs=>?_;refine⟨lf,hs.rd 2 rfl (i:=0) rfl,g.s,hs.rd 0 rfl (i:=0) rfl,?_⟩;refine (hs.rows 3 rfl (by omega)).nbI (by omega) (by omega) fun b117 o118 d gd u=>?_;replace gd:LF[g.s.toNat]?=some d:=gd;refine⟨d,u.hd,sBe (fun c=>?_) (fun c=>?_)⟩
 .subst c;have hno:∀n,¬DnS g.es (MXx X) g.s.toNat n:=by
   rcases hLF g.s.toNat (by omega) with ⟨_,h9⟩ | ⟨k,h9,_,hk⟩
   .exact h9
   .rw[gd] at h9;have:=Yyp h9;omega
  refine hs.put 5 rfl (o:=0) (vs:=wt0.cs) rfl (Yyt 14) fun h17 hs=>?_;refine rdW (w:=wt0) (Q:=fun cs=>MxR g role X h h17 (.tuple ⟨[.agg ⟨cs⟩,.int .i64 1073741824]⟩)) (hs.at 5 rfl (o:=0) (n:=14) rfl) ?_;exact .far hno hs.ext
 .obtain⟨n,hn0,hnl,hn1⟩:∃k:Nat,LF[g.s.toNat]?=some (k:Int)/\LstS g.es (MXx X) g.s.toNat k/\k<=1000:=by
   rcases hLF g.s.toNat (by omega) with ⟨h9,_⟩ | h9
   .rw[gd] at h9;exact absurd (Yyp h9) c
   .exact h9
  refine⟨lf,hs.rd 2 rfl (i:=0) rfl,g.s,hs.rd 0 rfl (i:=0) rfl,?_⟩;refine (hs.rows 3 rfl (by omega)).nbI (by omega) (by omega) fun b117 o118 d' gd' u=>?_;replace gd':LF[g.s.toNat]?=some d':=gd';rw[hn0] at gd';cases gd';refine⟨(n:Int),u.hd,some ⟨b,0,none⟩,hs.rd 6 rfl (i:=0) rfl,NC_i ⟨role,hc_ext hs.ext hA.r.ro,?_⟩⟩;refine hs.newput (vs:=Wt.cs ⟨2,role,nilS,nilS,evn0,evn0⟩) rfl rfl fun h144 hs=>?_;have hs:=hs.nil_ 65 3;refine⟨fun h' μ=>∃(ks:List Nat) (s k:Nat) (wf:Sl),k=μ/\s<g.n.toNat/\LF[s]?=some (k:Int)/\St h h' (mgL h114.size h75.size role wf s (eacts g.es ks) (mxL h2.size h10.size h1.size h.size b IN lf LF q Q))/\GS g.es LF g.s.toNat ks s/\ks.length+k<=1000,⟨_,[],g.s.toNat,n,nilS,rfl,by omega,hn0,?_,.nil,by simp only[List.length_nil];omega⟩,?_⟩
  .unfold mgL;rw[hss];exact hs
  clear hs u c gd;rintro-h148 μ ⟨ks,s,k,wf,rfl,hsn,hsk,hs,hG,hkl⟩;have hel:(eacts g.es ks).length=ks.length:=Yc _;refine⟨lf,hs.rd 4 rfl (i:=0) rfl,(s:Nat),hs.rd 2 rfl (i:=0) rfl,?_⟩;refine (hs.rows 5 rfl (by omega)).nbI (by omega) (by omega) fun b151 o152 v gv u=>?_;replace gv:LF[s]?=some v:=gv;rw[hsk] at gv;cases gv;have hLs:LstS g.es (MXx X) s k:=by
   rcases hLF s hsn with ⟨h9,_⟩ | ⟨k',h9,h10,_⟩
   .rw[hsk] at h9;have:=Yyp h9;unfold farN at this;omega
   .rw[hsk] at h9;have:=Yyp h9;have:k=k':=by omega
    subst this;exact h10
  refine⟨(k:Int),u.hd,sBi (fun c=>?_) (fun c=>?_)⟩
  .obtain⟨k',rfl⟩:∃k',k=k'+1:=⟨k-1,by omega⟩;obtain⟨e,he,hef,hel9⟩:=hLs.next;have hxe:=hE e he;unfold EdS at hxe;have hLe:LF[e.t.toNat]?=some (k':Int):=by
    rcases hLF e.t.toNat (by omega) with ⟨_,h9⟩ | ⟨k2,h9,h10,_⟩
    .exact absurd hel9.1 (h9 _)
    .rw[hel9.uniq h10];exact h9
   obtain⟨i0,hi0⟩:=Yf.1 he;have hmo:i0∈outG g.es (s:Nat):=outG_mem.2 ⟨e,hi0,hef⟩;have hok:okE LF g.es ((k'+1:Nat):Int) i0=true:=by
    unfold okE;rw[eA_get hi0,Yo,hLe];exact decide_eq_true (by simp only[Option.getD_some];omega)
   cases hix:(outG g.es (s:Nat)).findIdx? (okE LF g.es ((k'+1:Nat):Int)) with
   | none=>
    rw[List.findIdx?_eq_none_iff] at hix;rw[hix i0 hmo] at hok;cases hok
   | some j=>
    obtain⟨h1j,h2j,_⟩:=List.findIdx?_eq_some_iff_getElem.1 hix;obtain⟨i,gi⟩:=get_some h1j;have hi2:=(Ya.1 gi).2;rw[hi2] at h2j;obtain⟨x,hxi,hxf⟩:=outG_mem.1 (Yb gi);have hxE:=hE x (Yb hxi);unfold EdS at hxE;have hLx:LF[(eA g.es i).t.toNat]?=some (k':Int):=by
     have h3:LF.getD (eA g.es i).t.toNat 0=((k'+1:Nat):Int)-1:=Yyn h2j;rw[eA_get hxi] at h3 ⊢;obtain⟨y,hy⟩:=get_some (l:=LF) (i:=x.t.toNat) (by omega);rw[Yo,hy] at h3;simp only[Option.getD_some] at h3;rw[hy];congr 1;omega
    refine step122 hs hA hV hLl hsn hsk ⟨by omega,by unfold farN;omega⟩ hix gi (by omega) fun h' wf' hs=>⟨k',by omega,ks++[i],(eA g.es i).t.toNat,k',wf',rfl,by rw[eA_get hxi];omega,hLx,?_,.snoc hG hsk (by omega) hix gi,by rw[Yh,Yv];omega⟩;have e9:eacts g.es (ks++[i])=eacts g.es ks++[(eA g.es i).act]:=by unfold eacts;rw[Ym];rfl
    rw[e9];exact hs
  .have hk0:k=0:=by omega
   subst hk0;obtain⟨f,hf,hm⟩:MXx X s:=by
    have h9:=hLs.1;cases h9 with
    | base hm=>exact hm
   refine exit122 hs hA hf hm fun h' w e0 L h1 h2 h3 h4 h5 hs=>?_;have hw:IntKind.wrap .i64 (2*(n:Int))=((2*n:Nat):Int):=by rw[w64 (by omega) (by omega)];omega
   rw[hw];exact .hit hnl hn1 hLF hG hsk hf hm h1 h2 h3 h4 h5 hs
end Go.VC
end
