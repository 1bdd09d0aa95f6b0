/- KtQ KtR KtS. -/
import Derived.Test.YtknallccojglcaaGreatDoorM16
set_option linter.unusedVariables false
set_option linter.unusedSimpArgs false
set_option maxRecDepth 100000

section
namespace Go.VC
open Go.Proofs Go.LexS
theorem ev_eqb (x y:Ev):(((x.send==y.send)&&((x.peer==y.peer)&&((x.label==y.label)&&true))):Bool)=decide (x=y):=by
 cases x;cases y;simp[Bool.beq_eq_decide_eq,<-Bool.decide_and]
theorem equal89 (L M:List Ev) (a b:Sl) (h:Heap) (ha:Rw h 3 a (L.map Ev.cs)) (hb:Rw h 3 b (M.map Ev.cs)) (hm:L.length<=1048576) :
  Fn Pz 220 #[.slice a.a a.n a.c,.slice b.a b.n b.c] h fun v h'=>v=.bool (decide (L=M))/\h'=h:=by
 apply vc220;unfold W220;have hn:=ha.ln;have hn2:=hb.ln;refine sBn (fun c1=>⟨dF fun e=>c1 (by rw[hn,hn2,e]),rfl⟩) (fun c1=>?_);refine up_loop (n:=a.n) (fun i h'=>h'=h/\L.take i=M.take i) ⟨rfl,rfl⟩ ?_;rintro-i h5 hi ⟨rfl,hd⟩;refine sB_intro (fun l=>?_) (fun l=>?_)
 ·replace l:=lt_t l;refine ha.nbI (by omega) (by omega) fun b6 o7 x g6 t6=>?_;replace g6:L[i]?=some x:=g6;refine⟨_,_,_,t6,?_⟩;refine hb.nbI (by omega) (by omega) fun b11 o12 y g11 t11=>?_;replace g11:M[i]?=some y:=g11;refine⟨_,_,_,t11,?_⟩;rw[ev_eqb];refine sB_intro (fun c2=>?_) (fun c2=>?_)
  ·have hne:x≠y:=by simpa using c2
   refine⟨dF fun e=>hne ?_,rfl⟩;subst e;rw[g6] at g11;exact Yyp g11
  ·have he:x=y:=by simpa using c2
   refine Up.next l (by omega) ⟨rfl,?_⟩;rw[take_snoc g6,take_snoc g11,hd,he]
 ·replace l:=lt_f l;refine⟨dT ?_,rfl⟩
  rwa [Yj (by omega),Yj (by omega)] at hd
structure PrI (h:Heap) (p:Addr) (n:Nat) (F:Nat->List Ev) (en:Nat->Bool) (O:List Bool) (T:List Ti):Prop where
 ex:∃(sf se so st:Sl) (fs:Nat->Sl),atC h p [.slice sf.a sf.n sf.c,.slice se.a se.n se.c,.slice so.a so.n so.c,.slice st.a st.n st.c] /\
  Rw h 1 sf ((List.range n).map fun i=>slC (fs i))/\(∀i,i<n->Rw h 3 (fs i) ((F i).map Ev.cs))/\Rw h 1 se ((List.range n).map fun i=>bC (en i))/\Rw h 1 so (O.map bC)/\Rw h 5 st (T.map Ti.cs)/\O.length=n/\T.length=n
theorem made4b (n:Nat):madeL Pz 4 n=((List.replicate n false).map bC).flatten:=by
 have e:zeroC Pz 4=[.bool false]:=by kernel_rfl
 unfold madeL;rw[e,List.map_replicate];rfl
theorem made93 (n:Nat):madeL Pz 228 n=((List.replicate n ti0).map Ti.cs).flatten:=by
 have e:zeroC Pz 228=Ti.cs ti0:=by kernel_rfl
 unfold madeL;rw[e,List.map_replicate]
theorem app159:appB Pz 336 226 3 24=true:=by kernel_rfl
theorem app154:appB Pz 330 336 1 24=true:=by kernel_rfl
def prL0 (ps gb:Nat) (g:Gl) (sf se so st:Sl) (Q:List Sl) (B:List Bool) (O:List Bool) (T:List Ti):List It:=
 [.blk ps [.slice sf.a sf.n sf.c,.slice se.a se.n se.c,.slice so.a so.n so.c,.slice st.a st.n st.c] 332,.sl sf 336 1 (Q.map slC),.sl se 4 1 (B.map bC),.sl so 4 1 (O.map bC),.sl st 228 5 (T.map Ti.cs),.blk gb g.cs 77]
def prL (ps gb:Nat) (g:Gl) (sf se so st:Sl) (Q:List (Sl × List Ev)) (B:List Bool) (O:List Bool) (T:List Ti):List It:=
 prL0 ps gb g sf se so st (Q.map Prod.fst) B O T++Q.map (nest 226 3 Ev.cs)
theorem prL_fin {h h':Heap} {ps gb:Nat} {g:Gl} {sf se so st:Sl} {Q:List (Sl × List Ev)} {n:Nat} {F:Nat->List Ev} {en:Nat->Bool} {O:List Bool} {T:List Ti} (hs:St h h' (prL ps gb g sf se so st Q ((List.range n).map en) O T)) (hQ:Q.map Prod.snd=(List.range n).map F) (hO:O.length=n) (hT:T.length=n):PrI h' ⟨ps,0,none⟩ n F en O T:=by
 have hQl:Q.length=n:=by have:=congrArg List.length hQ;simpa using this
 have hget:∀i,i<n->∃q,Q[i]?=some (q,F i):=fun i hi=>by
  obtain⟨q,hq⟩:=get_some (l:=Q) (i:=i) (by omega);have:=congrArg (·[i]?) hQ;simp only[Yd,hq,Yyb hi,Option.map_some,Option.some.injEq] at this;exact⟨q.1,by rw[hq,<-this]⟩
 refine⟨sf,se,so,st,fun i=>((Q[i]?).map Prod.fst).getD ⟨none,0,0⟩,hs.at 0 rfl (n:=4) rfl,?_,fun i hi=>?_,?_,hs.rw 3 rfl (by omega),hs.rw 4 rfl (by omega),hO,hT⟩
 ·have h1:=hs.rw 1 (s:=sf) (e:=336) (n:=1) (rows:=(Q.map Prod.fst).map slC) rfl (by omega);have e:(Q.map Prod.fst).map slC=(List.range n).map fun i=>slC (((Q[i]?).map Prod.fst).getD ⟨none,0,0⟩):=by
   apply Yyr;intro i;rw[Yd,Yd,Yd];by_cases hi:i<n
   ·obtain⟨q,hq⟩:=hget i hi;rw[hq,Yyb hi,Option.map_some,Option.map_some,Option.map_some,hq];rfl
   ·rw[Yl (by omega),Yl (by rw[Yyd];omega)];rfl
  rwa [e] at h1
 ·obtain⟨q,hq⟩:=hget i hi;show Rw h' 3 ((Option.map Prod.fst Q[i]?).getD ⟨none,0,0⟩) _;rw[hq];have hm:nest 226 3 Ev.cs (q,F i)∈prL ps gb g sf se so st Q ((List.range n).map en) O T:=by
   unfold prL;rw[Yk];right;exact Yp.2 ⟨_,Yb hq,rfl⟩
  have:=(hs.ok _ hm).1;exact this.1.rw this.2 (by omega)
 ·have h1:=hs.rw 2 (s:=se) (e:=4) (n:=1) (rows:=((List.range n).map en).map bC) rfl (by omega);rw[List.map_map] at h1;exact h1
theorem arows (role:Int) (L:List Ev):∀r∈L.map (aC role),r.length=5:=fun r hr=>by obtain⟨x,_,rfl⟩:=Yp.1 hr;rfl
theorem brows (L:List Bool):∀r∈L.map bC,r.length=1:=fun r hr=>by obtain⟨x,_,rfl⟩:=Yp.1 hr;rfl
theorem tirows (L:List Ti):∀r∈L.map Ti.cs,r.length=5:=fun r hr=>by obtain⟨x,_,rfl⟩:=Yp.1 hr;rfl
set_option maxHeartbeats 4000000 in
theorem prepare40 (g:Gl) (role:Int) (h:Heap) (hg:GI h g) (hx:Gx h) (hV:ValidS g) (hr0:0<=role) (hr1:role<g.rs.length) :
  Fn Pz 146 #[g.v,.int .i64 role] h fun v h'=>Ext h h'/\∃(ps gb:Nat) (sf se so st:Sl) (Q:List (Sl × List Ev)),v=.pointer (some ⟨ps,0,none⟩)/\St h h' (prL ps gb g sf se so st Q ((List.range g.n.toNat).map fun j:Nat=>firstB g role j) (ownE g.es role g.n.toNat).1 (ownT g.es g.ts role g.n.toNat))/\Q.map Prod.snd=(List.range g.n.toNat).map fun j:Nat=>firstE g role j:=by
 apply vc146 (bs g.nm) g.hr g.hd g.n g.s g.e g.he g.ht;unfold W146 V146a V146b;have hs:=St.refl h;have hN:=hV.num.n;have hM:=hV.num.m;have hmx:g.n.toNat<=maxLen:=by simp only[maxLen];omega
 refine hs.newb fun h9 hs=>?_;refine⟨_,hs.rd 0 rfl rfl,_,hs.rd 0 rfl rfl,?_⟩;rw[made4b,made93];refine⟨?_,?_⟩;refine⟨by omega,?_⟩;refine hs.newbE fun h12 E12 hs=>⟨E12.sm,?_⟩;have hs:=hs.blkS g.n.toNat 1 _ rfl (brows _) (by rw[Yc,Yg]) hmx;refine⟨by omega,?_⟩;refine hs.newbE fun h13 E13 hs=>⟨E13.sm,?_⟩;have hs:=hs.blkS g.n.toNat 5 _ rfl (tirows _) (by rw[Yc,Yg]) hmx;have hsz:h.size<=h13.size:=hs.ext.1;refine hs.newb fun h14 hs=>?_;have hs:St h h14 (prL h13.size h.size g ⟨none,0,0⟩ ⟨none,0,0⟩ ⟨some ⟨h9.size,0,none⟩,g.n.toNat,g.n.toNat⟩ ⟨some ⟨h12.size,0,none⟩,g.n.toNat,g.n.toNat⟩ [] [] (List.replicate g.n.toNat false) (List.replicate g.n.toNat ti0)):=
  ((hs.nil_ 4 1).nil_ 336 1).perm (((List.perm_append_comm (l₁:=[_,_]) (l₂:=[_])).append_right _).trans (List.Perm.cons _ (List.Perm.cons _ (List.Perm.cons _ (List.Perm.swap _ _ _)))))
 generalize (⟨some ⟨h9.size,0,none⟩,g.n.toNat,g.n.toNat⟩:Sl)=so at hs;generalize (⟨some ⟨h12.size,0,none⟩,g.n.toNat,g.n.toNat⟩:Sl)=st at hs;rotate_left;refine⟨by omega,?_⟩;refine hs.newbE fun h12 E12 hs=>⟨E12.sm,?_⟩;have hs:=hs.blkS g.n.toNat 5 _ rfl (tirows _) (by rw[Yc,Yg]) hmx;refine⟨by omega,?_⟩;refine hs.newbE fun h13 E13 hs=>⟨E13.sm,?_⟩;have hs:=hs.blkS g.n.toNat 1 _ rfl (brows _) (by rw[Yc,Yg]) hmx;have hsz:h.size<=h13.size:=hs.ext.1;refine hs.newb fun h14 hs=>?_;have hs:St h h14 (prL h13.size h.size g ⟨none,0,0⟩ ⟨none,0,0⟩ ⟨some ⟨h12.size,0,none⟩,g.n.toNat,g.n.toNat⟩ ⟨some ⟨h9.size,0,none⟩,g.n.toNat,g.n.toNat⟩ [] [] (List.replicate g.n.toNat false) (List.replicate g.n.toNat ti0)):=
  ((hs.nil_ 4 1).nil_ 336 1).perm ((List.perm_append_comm (l₁:=[_,_]) (l₂:=[_])).append_right _)
 generalize (⟨some ⟨h12.size,0,none⟩,g.n.toNat,g.n.toNat⟩:Sl)=so at hs;generalize (⟨some ⟨h9.size,0,none⟩,g.n.toNat,g.n.toNat⟩:Sl)=st at hs;all_goals
  refine⟨_,hs.rd 5 rfl rfl,?_⟩;refine⟨fun x h' m=>∃(i:Nat) (sf se:Sl) (Q:List (Sl × List Ev)),x=i/\m=g.n.toNat-i/\i<=g.n.toNat/\St h h' (prL h13.size h.size g sf se so st Q ((List.range i).map fun j:Nat=>firstB g role j) (List.replicate g.n.toNat false) (List.replicate g.n.toNat ti0))/\Q.map Prod.snd=(List.range i).map fun j:Nat=>firstE g role j,⟨_,0,_,_,[],rfl,rfl,by omega,hs,rfl⟩,?_⟩;rintro-_ h20 m ⟨i,sf,se,Q,rfl,rfl,hi,hs,hQ⟩;have hQl:Q.length=i:=by have:=congrArg List.length hQ;simpa using this
  have hsfl:=hs.len 1 (s:=sf) (e:=336) (n:=1) rfl (by omega);have hsel:=hs.len 2 (s:=se) (e:=4) (n:=1) rfl (by omega);rw[Yc,Yc] at hsfl;rw[Yc,Yc,Yyd] at hsel;refine sBi (fun c1=>?_) (fun c1=>?_)
  ·refine⟨_,_,_,_,_,_,_,_,hs.at 5 rfl (n:=8) rfl,?_⟩;refine (first88 g role i h20 (hg.ext hs.ext) (hx.ext hs.ext) hV hr0 hr1 (by omega) (by omega)).mono ?_;rintro _ h33 ⟨E33,x30,rfl,ho30⟩;replace hs:=hs.gift E33 ho30 (arows role _);refine⟨x30,_,_,rfl,?_⟩;have hlen:=(hs.rows 0 (cs:=aC role) rfl (by omega)).ln;have hev:(firstE g role i).length<=400:=evs_len hV;generalize hL:firstE g role i=L at *;have hs:=hs.nil_ 226 3;refine up_loopA (n:=x30.n) hs (fun i rows=>rows=(L.take i).map Ev.cs) rfl ?_;clear hs;rintro-j out h39 rows hj hs rfl;have holn:=(hs.rows 0 (cs:=Ev.cs) rfl (by omega)).ln;rw[Yu] at holn;refine sB_intro (fun l2=>?_) (fun l2=>?_)
   ·replace l2:=lt_t l2;refine (hs.rows 1 (cs:=aC role) rfl (by omega)).nbI (by omega) (by omega) fun b40 o41 y g40 t40=>?_;replace g40:L[j]?=some y:=g40;refine⟨_,_,_,_,⟨none,0,0⟩,t40,?_⟩;refine hs.newput (vs:=aC role y) rfl rfl fun h48 hs=>?_;refine⟨_,hs.rd 0 rfl rfl,?_⟩;refine⟨_,hs.rd 0 rfl rfl,?_⟩;refine⟨_,hs.rd 0 rfl rfl,?_⟩;refine hs.app 1 rfl app159 (m:=1) [Ev.cs y] rfl rfl (fun r hr=>by rw[Ye] at hr;rw[hr];rfl) rfl (by omega) (by simp only[maxLen];omega) fun s53 h54 ns hs=>?_;refine UpA.next l2 (by omega) ⟨_,hs.drop 1,?_⟩;rw[take_snoc g40,Ym];rfl
   ·replace l2:=lt_f l2;rw[Yj (by omega)] at hs;replace hs:=hs.eras 1;refine⟨sf,hs.rd 1 rfl rfl,se,hs.rd 1 rfl rfl,?_⟩;have fin:∀ {h':Heap} {sf' se':Sl},St h h' (.sl out 226 3 (L.map Ev.cs)::prL0 h13.size h.size g sf' se' so st (Q.map Prod.fst++[out]) (((List.range i).map fun j:Nat=>firstB g role j)++[firstB g role i]) (List.replicate g.n.toNat false) (List.replicate g.n.toNat ti0)++Q.map (nest 226 3 Ev.cs)) ->
      ∃m,m<g.n.toNat-i/\∃(i2:Nat) (sf se:Sl) (Q:List (Sl × List Ev)),IntKind.wrap .i64 ((i:Int)+1)=i2/\m=g.n.toNat-i2/\i2<=g.n.toNat/\St h h' (prL h13.size h.size g sf se so st Q ((List.range i2).map fun j:Nat=>firstB g role j) (List.replicate g.n.toNat false) (List.replicate g.n.toNat ti0))/\Q.map Prod.snd=(List.range i2).map fun j:Nat=>firstE g role j:=by
     intro h' sf' se' h1;refine⟨_,by omega,i+1,sf',se',Q++[(out,L)],by rw[w64 (by omega) (by omega)];omega,rfl,by omega,?_,?_⟩
     ·have e1:(List.range (i+1)).map (fun j:Nat=>firstB g role j)=((List.range i).map fun j:Nat=>firstB g role j)++[firstB g role i]:=by rw[List.range_succ,Ym];rfl
      unfold prL;rw[e1,Ym (f:=Prod.fst),Ym (f:=nest 226 3 Ev.cs),<-Yz];refine h1.perm ?_;exact (List.perm_append_singleton _ _).symm
     ·rw[Ym,hQ,List.range_succ,Ym,<-hL];rfl
    have hrow1:∀r∈[slC out],r.length=1:=fun r hr=>by rw[Ye] at hr;rw[hr];rfl
    have hrow2:∀r∈[bC (firstB g role i)],r.length=1:=fun r hr=>by rw[Ye] at hr;rw[hr];rfl
    have fin2:∀ {h':Heap} {sf' se':Sl} {a b:It},St h h' (a::b :: .sl out 226 3 (L.map Ev.cs) :: .blk h13.size [.slice sf'.a sf'.n sf'.c,.slice se'.a se'.n se'.c,.slice so.a so.n so.c,.slice st.a st.n st.c] 332 :: .sl sf' 336 1 ((Q.map Prod.fst).map slC++[slC out]) :: .sl se' 4 1 (((List.range i).map fun j:Nat=>firstB g role j).map bC++[bC (firstB g role i)]) :: .sl so 4 1 ((List.replicate g.n.toNat false).map bC) :: .sl st 228 5 ((List.replicate g.n.toNat ti0).map Ti.cs) :: .blk h.size g.cs 77::Q.map (nest 226 3 Ev.cs)) ->
      ∃m,m<g.n.toNat-i/\∃(i2:Nat) (sf se:Sl) (Q:List (Sl × List Ev)),IntKind.wrap .i64 ((i:Int)+1)=i2/\m=g.n.toNat-i2/\i2<=g.n.toNat/\St h h' (prL h13.size h.size g sf se so st Q ((List.range i2).map fun j:Nat=>firstB g role j) (List.replicate g.n.toNat false) (List.replicate g.n.toNat ti0))/\Q.map Prod.snd=(List.range i2).map fun j:Nat=>firstE g role j:=by
     intro h' sf' se' a b h1;refine fin (sf':=sf') (se':=se') ?_;unfold prL0;rw[Ym (f:=slC),Ym (f:=bC)];exact h1.drop 2
    refine⟨?_,?_⟩
    ·refine hs.newbE fun h58 E58 hs=>⟨E58.sm,?_⟩;refine⟨?_,?_⟩
     ·refine hs.appended 3 (rows:=(Q.map Prod.fst).map slC) rfl app154 (m:=1) (news:=[slC out]) (hs.at 0 rfl (n:=1) rfl) rfl hrow1 rfl (by omega) (by simp only[maxLen];omega) fun s59 h60 n59 hs60=>?_;refine⟨sm_cons (hs.same hs60 2 2 rfl rfl) sm_nil,?_⟩;clear hs;refine hs60.newbE fun h61 E61 hs=>⟨E61.sm,?_⟩;refine hs.appended 5 (rows:=((List.range i).map fun j:Nat=>firstB g role j).map bC) rfl app30 (m:=1) (news:=[bC (firstB g role i)]) (hs.at 0 rfl (n:=1) rfl) rfl hrow2 rfl (by omega) (by simp only[maxLen];omega) fun s62 h63 n62 hs63=>?_;refine⟨sm_cons (hs.same hs63 3 3 rfl rfl) sm_nil,?_⟩;refine hs63.put 3 rfl (o:=0) (vs:=[.slice s59.a s59.n s59.c]) rfl (show 1<=4 by decide) fun h64 hs=>?_;refine hs.put 3 rfl (o:=1) (vs:=[.slice s62.a s62.n s62.c]) rfl (show 2<=4 by decide) fun h65 hs=>?_;exact fin2 hs
     ·refine hs.newbE fun h67 E67 hs=>⟨E67.sm,?_⟩;refine hs.appended 4 (rows:=(Q.map Prod.fst).map slC) rfl app154 (m:=1) (news:=[slC out]) (hs.at 1 rfl (n:=1) rfl) rfl hrow1 rfl (by omega) (by simp only[maxLen];omega) fun s59 h60 n59 hs60=>?_;refine⟨sm_cons (hs.same hs60 3 3 rfl rfl) sm_nil,?_⟩;refine hs60.appended 5 (rows:=((List.range i).map fun j:Nat=>firstB g role j).map bC) rfl app30 (m:=1) (news:=[bC (firstB g role i)]) (hs60.at 0 rfl (n:=1) rfl) rfl hrow2 rfl (by omega) (by simp only[maxLen];omega) fun s62 h63 n62 hs63=>?_;refine⟨sm_cons (hs60.same hs63 3 3 rfl rfl) sm_nil,?_⟩;refine hs63.put 3 rfl (o:=0) (vs:=[.slice s59.a s59.n s59.c]) rfl (show 1<=4 by decide) fun h64 hs=>?_;refine hs.put 3 rfl (o:=1) (vs:=[.slice s62.a s62.n s62.c]) rfl (show 2<=4 by decide) fun h65 hs=>?_;exact fin2 hs
    ·refine hs.newbE fun h75 E75 hs=>⟨E75.sm,?_⟩;refine hs.newbE fun h76 E76 hs=>⟨E76.sm,?_⟩;refine hs.appended 4 (rows:=(Q.map Prod.fst).map slC) rfl app154 (m:=1) (news:=[slC out]) (hs.at 0 rfl (n:=1) rfl) rfl hrow1 rfl (by omega) (by simp only[maxLen];omega) fun s59 h60 n59 hs60=>?_;refine⟨sm_cons (hs.same hs60 3 3 rfl rfl) sm_nil,?_⟩;refine hs60.appended 5 (rows:=((List.range i).map fun j:Nat=>firstB g role j).map bC) rfl app30 (m:=1) (news:=[bC (firstB g role i)]) (hs60.at 1 rfl (n:=1) rfl) rfl hrow2 rfl (by omega) (by simp only[maxLen];omega) fun s62 h63 n62 hs63=>?_;refine⟨sm_cons (hs60.same hs63 3 3 rfl rfl) sm_nil,?_⟩;refine hs63.put 3 rfl (o:=0) (vs:=[.slice s59.a s59.n s59.c]) rfl (show 1<=4 by decide) fun h64 hs=>?_;refine hs.put 3 rfl (o:=1) (vs:=[.slice s62.a s62.n s62.c]) rfl (show 2<=4 by decide) fun h65 hs=>?_;exact fin2 hs
  ·have hi2:i=g.n.toNat:=by omega
   subst hi2;refine⟨_,hs.rd 5 rfl rfl,?_⟩;have hE:=hg.e.ln;refine up_loop (n:=g.he.n) (fun i h'=>St h h' (prL h13.size h.size g sf se so st Q ((List.range g.n.toNat).map fun j:Nat=>firstB g role j) (ownE (g.es.take i) role g.n.toNat).1 (ownE (g.es.take i) role g.n.toNat).2)) hs ?_;clear hs;rintro-j h89 hj hs;have hol:=ownE_len (g.es.take j) role g.n.toNat;have hso:=hs.len 3 (s:=so) (e:=4) (n:=1) rfl (by omega);have hst:=hs.len 4 (s:=st) (e:=228) (n:=5) rfl (by omega);rw[Yc] at hso hst;refine sB_intro (fun l=>?_) (fun l=>?_)
   ·replace l:=lt_t l;refine (hg.e.ext hs.ext).rw.nbI (by omega) (by omega) fun b90 o91 x g90 t90=>?_;replace g90:g.es[j]?=some x:=g90;have hEx:=hV.num.e x (Yb g90);unfold EdS at hEx;have hstep:ownE (g.es.take (j+1)) role g.n.toNat=own1 role (ownE (g.es.take j) role g.n.toNat) x:=by unfold ownE;exact foldl_snoc g90
    refine⟨_,_,_,_,_,_,t90,?_⟩;refine hs.newput (vs:=x.cs) rfl rfl fun h99 hs=>?_;refine⟨_,hs.rd 0 rfl rfl,?_⟩;refine sBe (fun c2=>?_) (fun c2=>?_)
    ·refine⟨so,hs.rd 1 rfl rfl,_,hs.rd 0 rfl rfl,st,hs.rd 1 rfl rfl,_,hs.rd 0 rfl rfl,_,hs.rd 0 rfl rfl,?_⟩;obtain⟨t0,ht0⟩:=get_some (l:=(ownE (g.es.take j) role g.n.toNat).2) (i:=x.f.toNat) (by omega);refine hs.set 4 rfl (by omega) (by omega) (by omega) true rfl rfl (fun b106 o107 h108 hs2=>?_) rfl;refine⟨sm_cons (hs.same hs2 0 0 rfl rfl) (sm_cons (hs.same hs2 0 0 rfl rfl) sm_nil),?_⟩;refine hs2.setf 5 rfl (by omega) (by omega) (by omega) 0 ht0 { t0 with ag:=x.ag } (vs:=[.bool x.ag]) rfl (show 1<=5 by decide) rfl fun b109 o110 h111 hs3=>?_;refine Up.next l (by omega) ?_;rw[hstep];unfold own1;rw[if_pos c2,updT_get ht0];exact hs3.drop 1
    ·refine Up.next l (by omega) ?_;rw[hstep];unfold own1;rw[if_neg c2];exact hs.drop 1
   ·replace l:=lt_f l;rw[Yj (by omega)] at hs;clear hol hso hst;refine⟨_,hs.rd 5 rfl rfl,?_⟩;have hTl:=hg.t.ln;have hTs:=hg.t.sm;have hO:(ownE g.es role g.n.toNat).1.length=g.n.toNat:=(ownE_len _ _ _).1;refine up_loop (n:=g.ht.n) (fun i h'=>St h h' (prL h13.size h.size g sf se so st Q ((List.range g.n.toNat).map fun j:Nat=>firstB g role j) (ownE g.es role g.n.toNat).1 (ownT g.es (g.ts.take i) role g.n.toNat))) hs ?_;clear hs;rintro-k h119 hk hs;have hol:=ownT_len g.es (g.ts.take k) role g.n.toNat;have hso:=hs.len 3 (s:=so) (e:=4) (n:=1) rfl (by omega);have hst:=hs.len 4 (s:=st) (e:=228) (n:=5) rfl (by omega);rw[Yc] at hso hst;refine sB_intro (fun l=>?_) (fun l=>?_)
    ·replace l:=lt_t l;refine (hg.t.ext hs.ext).rw.nbI (by omega) (by omega) fun b120 o121 t g120 t120=>?_;replace g120:g.ts[k]?=some t:=g120;obtain⟨ht1,ht2,ht3,x,ht4,ht5,ht6⟩:=hV.tim k t g120;have hEx:=hV.num.e x (Yb ht4);unfold EdS at hEx;have hstep:ownT g.es (g.ts.take (k+1)) role g.n.toNat=own2 g.es (ownE g.es role g.n.toNat).1 (ownT g.es (g.ts.take k) role g.n.toNat) t:=by unfold ownT;exact foldl_snoc g120
     refine⟨_,_,_,t120,?_⟩;refine hs.newput (vs:=t.cs) rfl rfl fun h126 hs=>?_;refine⟨so,hs.rd 1 rfl rfl,_,hs.rd 0 rfl rfl,?_⟩;refine (hs.rows 4 (cs:=bC) rfl (by omega)).nbI (by omega) (by omega) fun b129 o130 ob g129 t129=>?_;refine⟨_,t129.hd,?_⟩;refine sB_intro (fun c2=>?_) (fun c2=>?_)
     ·subst c2;refine⟨_,hs.rd 6 rfl rfl,_,hs.rd 0 rfl rfl,?_⟩;have hee:=(Ya.1 ht4).1;refine (hg.e.ext hs.ext).rw.nbI (by omega) (by omega) fun b134 o135 x' g134 t134=>?_;rw[ht4] at g134;cases g134;refine⟨_,_,_,t134.sub 1 3 rfl,?_⟩;refine hs.newput (vs:=[.int .i64 x.a,.int .i64 x.b,.int .i64 x.l]) rfl rfl fun h140 hs=>?_;refine⟨st,hs.rd 2 rfl rfl,_,hs.rd 1 rfl rfl,st,hs.rd 2 rfl rfl,_,hs.rd 1 rfl rfl,_,hs.rd 1 rfl rfl,_,hs.rd 0 rfl rfl,_,hs.rd 0 rfl rfl,?_⟩;obtain⟨t0,ht0⟩:=get_some (l:=ownT g.es (g.ts.take k) role g.n.toNat) (i:=t.s.toNat) (by omega);refine hs.setf 6 rfl (by omega) (by omega) (by omega) 1 ht0 { t0 with k:=t.k } (vs:=[.int .i64 t.k]) rfl (show 2<=5 by decide) rfl fun b148 o149 h150 hs2=>?_;refine⟨sm_cons (hs.same hs2 0 0 rfl rfl) (sm_cons (hs.same hs2 0 0 rfl rfl) (sm_cons (hs.same hs2 1 1 rfl rfl) sm_nil)),?_⟩;refine hs2.setf 6 rfl (by omega) (by omega) (by omega) 2 (Yq (by omega)) ⟨t0.ag,t.k,⟨true,x.b,x.l⟩⟩ (vs:=[.bool true,.int .i64 x.b,.int .i64 x.l]) rfl (show 5<=5 by decide) rfl fun b151 o152 h153 hs3=>?_;refine Up.next l (by omega) ?_;rw[hstep];unfold own2;rw[g129,ht4];show St h h153 (prL _ _ _ _ _ _ _ _ _ _ (updT _ _ _));rw[updT_get ht0];rw[List.set_set,List.set_set] at hs3;exact hs3.drop 2
     ·subst c2;refine Up.next l (by omega) ?_;rw[hstep];unfold own2;rw[g129,ht4];exact hs.drop 1
    ·replace l:=lt_f l;rw[Yj (by omega)] at hs;exact⟨hs.ext,h13.size,h.size,sf,se,so,st,Q,rfl,hs,hQ⟩
theorem rangeG {n i k:Nat} (h:(List.range n)[i]?=some k):i=k/\i<n:=by
 obtain⟨h1,h2⟩:=Ya.1 h;rw[List.getElem_range] at h2;rw[Yyd] at h1;exact⟨h2,h1⟩
set_option maxHeartbeats 1000000 in
theorem view41 (p:Nat) (n:Nat) (F:Nat->List Ev) (en:Nat->Bool) (O:List Bool) (T:List Ti) (l:List Nat) (s:Sl) (h:Heap) (hP:PrI h ⟨p,0,none⟩ n F en O T) (hl:Rw h 1 s ((l.map fun k:Nat=>(k:Int)).map inC)) (hln:∀k∈l,k<n) (hll:l.length<=4096) (hF:∀k,k<n->(F k).length<=400) :
  Fn Pz 147 #[.pointer (some ⟨p,0,none⟩),.slice s.a s.n s.c] h fun v h'=>Ext h h'/\∃(o:Ti) (ok:Bool),v=.tuple ⟨[.agg ⟨Ti.cs o⟩,.bool ok]⟩/\viewV F en O T l=if ok then some o else none:=by
 apply vc147;unfold W147 V147b V147a;obtain⟨sf,se,so,st,fs,h1,h2,h3,h4,h5,h6,hO,hT⟩:=hP.ex;have hs:=St.refl h;refine hs.newb fun h1' hs=>?_;refine hs.newb fun h2' hs=>?_;have hsn:=hl.ln;rw[Yc] at hsn;have hfn:=h2.ln;have hen:=h4.ln;have hon:=h5.ln;have htn:=h6.ln;rw[Yyd] at hfn hen;refine⟨fun known x h' m=>∃(i:Nat) (o:Ti),x=i/\m=l.length-i/\i<=l.length/\St h h' [.blk h1'.size o.cs 228,.blk h.size ti0.cs 228]/\(l.take i).foldl (stepV F en O T l) (some (false,ti0))=some (known,o),⟨_,0,ti0,rfl,rfl,by omega,hs,rfl⟩,?_⟩;clear hs;rintro-known _ h8 m ⟨i,o,rfl,rfl,hi,hs,hst⟩;refine sBi (fun c1=>?_) (fun c1=>?_)
 ·refine (hl.ext hs.ext).nbI (by omega) (by omega) fun b9 o10 d9 g9 t9=>?_;rw[Ys,Yd] at g9;obtain⟨k,gk,rfl⟩:=Yya.1 g9;have hk:=hln k (Yb gk);refine⟨_,t9.hd,?_⟩;have nth0:=(atC_ext hs.ext h1).nth 0 rfl;have nth1:=(atC_ext hs.ext h1).nth 1 rfl;have nth2:=(atC_ext hs.ext h1).nth 2 rfl;have nth3:=(atC_ext hs.ext h1).nth 3 rfl;have h2e:=h2.ext hs.ext;have h4e:=h4.ext hs.ext;have h5e:=h5.ext hs.ext;have h6e:=h6.ext hs.ext;have h3e:∀i,i<n->Rw h8 3 (fs i) ((F i).map Ev.cs):=fun i hi=>(h3 i hi).ext hs.ext;have hfk:=(h3e k hk).ln;have hFk:=hF k hk;have hsk:stepV F en O T l (some (known,o)) k=if badV F en l k then none else match O[k]?,T[k]? with | some true,some t=>if known&&decide (t≠o) then none else some (true,t) | _,_=>some (known,o):=rfl
  refine⟨fun h'=>h'=h8/\badV F en l k=false,?_,?_⟩
  ·refine⟨sf,nth0,?_⟩;refine h2e.nbI (by omega) (by omega) fun b14 o15 d g14 t14=>?_;obtain⟨rfl,_⟩:=rangeG g14
   (try rw[Ys] at t14);(try rw[Ys])
   refine⟨_,t14.hd,?_⟩;refine sBi (fun c2=>?_) (fun c2=>?_)
   ·refine⟨sf,nth0,?_⟩;refine h2e.nbI (by omega) (by omega) fun b18 o19 d g18 t18=>?_;obtain⟨rfl,_⟩:=rangeG g18
    (try rw[Ys] at t18);(try rw[Ys])
    refine⟨_,t18.hd,?_⟩;refine (h3e k hk).nbI (by omega) (by omega) fun b21 o22 e0 g21 t21=>?_;replace g21:(F k)[0]?=some e0:=g21;refine⟨_,t21.hd,?_⟩;have hs0:sndAt (F k) 0=e0.send:=by unfold sndAt;rw[g21]
    refine sB_intro (fun c3=>?_) (fun c3=>?_)
    ·refine⟨se,nth1,?_⟩;refine h4e.nbI (by omega) (by omega) fun b25 o26 d g25 t25=>?_;obtain⟨rfl,_⟩:=rangeG g25
     (try rw[Ys] at t25);(try rw[Ys])
     refine⟨_,t25.hd,?_⟩;refine sB_intro (fun c4=>?_) (fun c4=>?_)
     ·refine⟨_,_,_,_,_,hs.at 0 rfl (n:=5) rfl,?_⟩;refine hs.put 1 rfl (o:=0) (vs:=Ti.cs o) rfl (show 5<=5 by decide) fun h33 hs=>?_;refine⟨_,_,_,_,_,hs.at 1 rfl (n:=5) rfl,hs.ext,o,false,rfl,?_⟩;exact viewV_none hst gk (by rw[hsk,if_pos];unfold badV;rw[hs0,c3,c4];rfl)
     ·refine⟨sf,nth0,?_⟩;refine h2e.nbI (by omega) (by omega) fun b40 o41 d g40 t40=>?_;obtain⟨rfl,_⟩:=rangeG g40
      (try rw[Ys] at t40);(try rw[Ys])
      refine⟨_,t40.hd,?_⟩;refine⟨sf,nth0,?_⟩;refine h2e.nbI (by omega) (by omega) fun b44 o45 d g44 t44=>?_;obtain⟨rfl,_⟩:=rangeG g44
      (try rw[Ys] at t44);(try rw[Ys])
      refine⟨_,t44.hd,?_⟩;rw[w64 (by omega) (by omega)];refine (h3e k hk).nbI (by omega) (by omega) fun b47 o48 e1 g47 t47=>?_;replace g47:(F k)[((fs k).n-1:Int).toNat]?=some e1:=g47;refine⟨_,t47.hd,?_⟩;have hs1:sndAt (F k) ((F k).length-1)=e1.send:=by
       unfold sndAt;rw[show (F k).length-1=((fs k).n-1:Int).toNat by omega,g47]
      refine sB_intro (fun c5=>?_) (fun c5=>?_)
      ·refine⟨_,_,_,_,_,hs.at 0 rfl (n:=5) rfl,?_⟩;refine hs.put 1 rfl (o:=0) (vs:=Ti.cs o) rfl (show 5<=5 by decide) fun h33 hs=>?_;refine⟨_,_,_,_,_,hs.at 1 rfl (n:=5) rfl,hs.ext,o,false,rfl,?_⟩;have c5:=bF c5;exact viewV_none hst gk (by rw[hsk,if_pos];unfold badV;rw[hs0,c3,hs1,c5];simp)
      ·have c5:=bT c5;refine up_loop (n:=s.n) (fun j h'=>h'=h8/\(l.take j).any (fun q=>en q||decide (F k≠F q))=false) ⟨rfl,rfl⟩ ?_;rintro-j h65 hj ⟨rfl,hany⟩;refine sB_intro (fun l6=>?_) (fun l6=>?_)
       ·replace l6:=lt_t l6;refine (hl.ext hs.ext).nbI (by omega) (by omega) fun b66 o67 d66 g66 t66=>?_;rw[Ys,Yd] at g66;obtain⟨q,gq,rfl⟩:=Yya.1 g66;have hq:=hln q (Yb gq);have hnone:(en q||decide (F k≠F q))=true->viewV F en O T l=none:=fun hc=>viewV_none hst gk (by
         rw[hsk,if_pos];unfold badV;have:(l.any fun k'=>en k'||decide (F k≠F k'))=true:=List.any_eq_true.2 ⟨q,Yb gq,hc⟩;rw[hs0,c3,this];simp)
        refine⟨_,t66.hd,se,nth1,?_⟩;refine h4e.nbI (by omega) (by omega) fun b70 o71 d g70 t70=>?_;obtain⟨rfl,_⟩:=rangeG g70
        (try rw[Ys] at t70);(try rw[Ys])
        refine⟨_,t70.hd,?_⟩;refine sB_intro (fun c7=>?_) (fun c7=>?_)
        ·refine⟨_,_,_,_,_,hs.at 0 rfl (n:=5) rfl,?_⟩;refine hs.put 1 rfl (o:=0) (vs:=Ti.cs o) rfl (show 5<=5 by decide) fun h33 hs=>?_;refine⟨_,_,_,_,_,hs.at 1 rfl (n:=5) rfl,hs.ext,o,false,rfl,?_⟩;exact hnone (by rw[c7];rfl)
        ·refine⟨sf,nth0,?_⟩;refine h2e.nbI (by omega) (by omega) fun b85 o86 d g85 t85=>?_;obtain⟨rfl,_⟩:=rangeG g85
         (try rw[Ys] at t85);(try rw[Ys])
         refine⟨_,t85.hd,sf,nth0,?_⟩;refine h2e.nbI (by omega) (by omega) fun b89 o90 d g89 t89=>?_;obtain⟨rfl,_⟩:=rangeG g89
         (try rw[Ys] at t89);(try rw[Ys])
         refine⟨_,t89.hd,?_⟩;refine (equal89 (F k) (F q) _ _ h65 (h3e k hk) (h3e q hq) (by omega)).mono ?_;rintro _ _ ⟨rfl,rfl⟩;refine⟨_,rfl,fun _ _ _ _ hv=>hv,?_⟩;refine sB_intro (fun c8=>?_) (fun c8=>?_)
         ·refine⟨_,_,_,_,_,hs.at 0 rfl (n:=5) rfl,?_⟩;refine hs.put 1 rfl (o:=0) (vs:=Ti.cs o) rfl (show 5<=5 by decide) fun h33 hs=>?_;refine⟨_,_,_,_,_,hs.at 1 rfl (n:=5) rfl,hs.ext,o,false,rfl,?_⟩;exact hnone (by simp at c8 ⊢;exact .inr c8)
         ·refine Up.next (by omega) (by omega) ⟨rfl,?_⟩;rw[take_snoc gq,List.any_append,hany,Bool.false_or];simp at c8 ⊢;exact⟨c7,c8⟩
       ·replace l6:=lt_f l6;rw[Yj (by omega)] at hany;refine⟨rfl,?_⟩;unfold badV;rw[c4,hs1,c5,hany];simp
    ·exact⟨rfl,by unfold badV;rw[hs0,c3];rfl⟩
   ·have hs0:sndAt (F k) 0=false:=by
     have:F k=[]:=List.length_eq_zero_iff.1 (by omega);unfold sndAt;rw[this];rfl
    exact⟨rfl,by unfold badV;rw[hs0];rfl⟩
  ·rintro-h107 ⟨rfl,hbad⟩;rw[hbad,if_neg (by simp)] at hsk;refine⟨so,nth2,?_⟩;refine h5e.nbI (by omega) (by omega) fun b109 o110 ob g109 t109=>?_;rw[Ys] at g109;refine⟨_,t109.hd,?_⟩;refine sB_intro (fun c2=>?_) (fun c2=>?_)
   ·have c2:=bF c2;subst c2;refine⟨_,by omega,i+1,o,by rw[w64 (by omega) (by omega)];omega,rfl,by omega,hs,?_⟩;rw[foldl_snoc gk,hst,hsk,g109]
   ·have c2:=bT c2;subst c2;obtain⟨t,gt⟩:=get_some (l:=T) (i:=k) (by omega);rw[g109,gt] at hsk;replace hsk:stepV F en O T l (some (known,o)) k=if known&&decide (t≠o) then none else some (true,t):=hsk
    refine sB_intro (fun c3=>?_) (fun c3=>?_)
    ·refine⟨st,nth3,?_⟩;refine h6e.nbI (by omega) (by omega) fun b114 o115 t' g114 t114=>?_;rw[Ys,gt] at g114;cases g114;refine⟨_,_,_,_,_,t114,_,_,_,_,_,hs.at 0 rfl (n:=5) rfl,?_⟩;rw[ti_eqb];refine sB_intro (fun c4=>?_) (fun c4=>?_)
     ·refine⟨_,_,_,_,_,hs.at 0 rfl (n:=5) rfl,?_⟩;refine hs.put 1 rfl (o:=0) (vs:=Ti.cs o) rfl (show 5<=5 by decide) fun h33 hs=>?_;refine⟨_,_,_,_,_,hs.at 1 rfl (n:=5) rfl,hs.ext,o,false,rfl,?_⟩;exact viewV_none hst gk (by rw[hsk,if_pos (by rw[c3];simpa using c4)])
     ·have he:t=o:=by simpa using c4
      refine⟨st,nth3,?_⟩;refine h6e.nbI (by omega) (by omega) fun b138 o139 t' g138 t138=>?_;rw[Ys,gt] at g138;cases g138;refine⟨_,_,_,_,_,t138,?_⟩;refine hs.put 0 rfl (o:=0) (vs:=Ti.cs t) rfl (show 5<=5 by decide) fun h145 hs=>?_;refine⟨_,by omega,i+1,t,by rw[w64 (by omega) (by omega)];omega,rfl,by omega,hs,?_⟩;rw[foldl_snoc gk,hst,hsk,if_neg (by rw[he];simp)]
    ·refine⟨st,nth3,?_⟩;refine h6e.nbI (by omega) (by omega) fun b148 o149 t' g148 t148=>?_;rw[Ys,gt] at g148;cases g148;refine⟨_,_,_,_,_,t148,?_⟩;refine hs.put 0 rfl (o:=0) (vs:=Ti.cs t) rfl (show 5<=5 by decide) fun h155 hs=>?_;refine⟨_,by omega,i+1,t,by rw[w64 (by omega) (by omega)];omega,rfl,by omega,hs,?_⟩;rw[foldl_snoc gk,hst,hsk,if_neg (by rw[c3];simp)]
 ·rw[Yj (by omega)] at hst;refine⟨_,_,_,_,_,hs.at 0 rfl (n:=5) rfl,?_⟩;refine hs.put 1 rfl (o:=0) (vs:=Ti.cs o) rfl (show 5<=5 by decide) fun h33 hs=>?_;refine⟨_,_,_,_,_,hs.at 1 rfl (n:=5) rfl,hs.ext,o,true,rfl,?_⟩;unfold viewV;rw[hst];rfl
theorem app25:appB Pz 75 199 3 24=true:=by kernel_rfl
noncomputable def vwG (g:Gl) (role:Int):List Nat->Option Ti:=viewV (fun j:Nat=>firstE g role j) (fun j:Nat=>firstB g role j) (ownE g.es role g.n.toNat).1 (ownT g.es g.ts role g.n.toNat)
noncomputable def raw (g:Gl) (role:Int):Option Mch × Int:=
 if ¬(ValidS g/\0<=role/\role<g.rs.length) then (none,1) else
 match views g role with
 | none=>(none,6)
 | some (S,M)=>if M.length>400 then (none,6) else
  match rawL (vwG g role) 0 S M [] with
  | none=>(none,18)
  | some (M',L)=>(some ⟨role,S.length,0,S.map (fun p=>p g.e.toNat),M',L⟩,0)
def m0:List Value:=[.int .i64 0,.int .i64 0,.int .i64 0,.slice none 0 0,.slice none 0 0,.slice none 0 0]
def mC (m:Mch) (sf sm sl:Sl):List Value:=[.int .i64 m.role,.int .i64 m.n,.int .i64 m.s,.slice sf.a sf.n sf.c,.slice sm.a sm.n sm.c,.slice sl.a sl.n sl.c]
def mL (m:Mch) (sf sm sl:Sl):List It:=[.sl sf 4 1 (m.fin.map bC),.sl sm 116 6 (m.mv.map Mv.cs),.sl sl 199 3 (m.li.map To.cs)]
inductive MaR (o:Option Mch × Int) (h h':Heap):Value->Prop
 | err {e:Int} (he:o=(none,e)) (h0:e≠0):MaR o h h' (.tuple ⟨[.agg ⟨m0⟩,.int .i64 e]⟩)
 | ok {m:Mch} {sf sm sl:Sl} (he:o=(some m,0)) (hs:St h h' (mL m sf sm sl)):MaR o h h' (.tuple ⟨[.agg ⟨mC m sf sm sl⟩,.int .i64 0]⟩)
def rwL (mb tb rb gb:Nat) (g:Gl) (role:Int) (ss fs ars sl:Sl) (E:List SE) (M:List Mv) (L:List To):List It:=
 [.blk mb [.int .i64 role,.int .i64 (ss.n:Nat),.int .i64 0,.slice fs.a fs.n fs.c,.slice ars.a ars.n ars.c,.slice sl.a sl.n sl.c] 88,.blk tb [.slice ss.a ss.n ss.c,.slice fs.a fs.n fs.c,.slice ars.a ars.n ars.c] 218,.sl ss 224 1 (E.map SE.hd),
  .sl fs 4 1 ((E.map fun e:SE=>e.p g.e.toNat).map bC),.sl ars 116 6 (M.map Mv.cs),.sl sl 199 3 (L.map To.cs),.blk rb m0 88,.blk gb g.cs 77]++E.map SE.it
theorem rwL.set {h0 h:Heap} {A:List It} {mb tb rb gb:Nat} {g:Gl} {role:Int} {ss fs ars sl:Sl} {E:List SE} {M:List Mv} {L:List To} (hs:St h0 h (A++rwL mb tb rb gb g role ss fs ars sl E M L)) (hE:∀e∈E,SI e.ws e.k e.p):∀e∈E,SetV h e.s e.p:=by
 intro e he;have hm:e.it∈A++rwL mb tb rb gb g role ss fs ars sl E M L:=by
  rw[Yk];right;unfold rwL;rw[Yk];right;exact List.mem_map_of_mem he
 have:=(hs.ok _ hm).1;exact (hE e he).v this e.k
theorem perm8 {α:Type} (f a b g i c d e:α) (R:List α):(f::a::b::g::i::c::d::e::R).Perm (a::b::c::d::e::f::g::i::R):=
 (List.perm_append_comm_assoc [f] [a,b] _).trans (List.Perm.append_left [a,b] (List.perm_append_comm_assoc [f,g,i] [c,d,e] R))
theorem get_split2 {α:Type} {i:Nat} {f:α->α} {M:List α} {y:α} (h:M[i]?=some y):((M.take (i+1)).map f++M.drop (i+1))[i]?=some (f y):=by
 have h1:=(Ya.1 h).1;rw[Yyi (by rw[Yc,Yu];omega),Yd,Yyf,if_pos (by omega),h];rfl
set_option maxHeartbeats 4000000 in
theorem raw14 (g:Gl) (role:Int) (h:Heap) (hg:GI h g) (hx:Gx h) :
  Fn Pz 105 #[g.v,.int .i64 role] h fun v h'=>Ext h h'/\MaR (raw g role) h h' v:=by
 apply vc105 (bs g.nm) g.hr g.hd g.n g.s g.e g.he g.ht;unfold W105 V105a;have hs:=St.refl h;have hrn:=hg.r.ln;refine hs.newb fun h9 hs=>?_;refine hs.newb fun h10 hs=>?_;refine⟨_,_,_,_,_,_,_,_,hs.at 1 rfl (n:=8) rfl,?_⟩;refine (valid38 g h10 (hg.ext hs.ext) (hx.ext hs.ext)).mono ?_;rintro _ h21 ⟨rfl,E21⟩;replace hs:=hs.step E21;refine⟨_,rfl,?_⟩;have hbad:∀ {o:Prop},¬(ValidS g/\0<=role/\role<g.rs.length)->raw g role=(none,1):=fun h=>by unfold raw;rw[if_pos h]
 refine sB_intro (fun c1=>?_) (fun c1=>?_)
 ·have c1:=Yyo (bF c1);refine hs.put 0 rfl (o:=0) (vs:=m0) rfl (by decide) fun h22 hs=>?_;refine⟨0,0,0,⟨none,0,0⟩,⟨none,0,0⟩,⟨none,0,0⟩,hs.at 0 rfl (n:=6) rfl,hs.ext,?_⟩;exact .err (hbad (o:=True) fun hc=>c1 hc.1) (by decide)
 have hV:ValidS g:=Yyn (bT c1);refine sBi (fun c2=>?_) (fun c2=>?_)
 ·refine hs.put 0 rfl (o:=0) (vs:=m0) rfl (by decide) fun h22 hs=>?_;refine⟨0,0,0,⟨none,0,0⟩,⟨none,0,0⟩,⟨none,0,0⟩,hs.at 0 rfl (n:=6) rfl,hs.ext,?_⟩;exact .err (hbad (o:=True) fun hc=>by omega) (by decide)
 refine⟨_,hs.rd 1 rfl rfl,?_⟩;refine sBi (fun c3=>?_) (fun c3=>?_)
 ·refine hs.put 0 rfl (o:=0) (vs:=m0) rfl (by decide) fun h22 hs=>?_;refine⟨0,0,0,⟨none,0,0⟩,⟨none,0,0⟩,⟨none,0,0⟩,hs.at 0 rfl (n:=6) rfl,hs.ext,?_⟩;exact .err (hbad (o:=True) fun hc=>by omega) (by decide)
 have hgood:ValidS g/\0<=role/\role<g.rs.length:=⟨hV,by omega,by omega⟩;have hraw:raw g role=(match views g role with
  | none=>(none,6)
  | some (S,M)=>if M.length>400 then (none,6) else
   match rawL (vwG g role) 0 S M [] with
   | none=>(none,18)
   | some (M',L)=>(some ⟨role,S.length,0,S.map (fun p=>p g.e.toNat),M',L⟩,0)):=by unfold raw;rw[if_neg (by simpa using hgood)]
 have hN:=hV.num.n;refine⟨_,_,_,_,_,_,_,_,hs.at 1 rfl (n:=8) rfl,?_⟩;refine (views39 g role h21 (hg.ext hs.ext) (hx.ext hs.ext)).mono ?_;rintro _ h57 ⟨E57,hvi⟩;cases hvi with
 | bad hn=>exact absurd hgood hn
 | limit hv hn=>
  replace hs:=hs.step E57;refine⟨⟨none,0,0⟩,⟨none,0,0⟩,⟨none,0,0⟩,_,rfl,?_⟩;refine hs.newput (vs:=sl0) rfl rfl fun h59 hs=>?_;refine sBn (fun c4=>?_) (fun c4=>by omega);refine hs.put 1 rfl (o:=0) (vs:=m0) rfl (by decide) fun h22 hs=>?_;refine⟨0,0,0,⟨none,0,0⟩,⟨none,0,0⟩,⟨none,0,0⟩,hs.at 1 rfl (n:=6) rfl,hs.ext,?_⟩;exact .err (by rw[hraw,hn]) (by decide)
 | @good _ ss fs ars E M hvw hsT hSI hEl hlt hMl=>
  rw[hvw] at hraw;replace hs:=hs.join hsT;clear hsT E57 E21 hvw;refine⟨ss,fs,ars,_,rfl,?_⟩;refine hs.newput (vs:=[.slice ss.a ss.n ss.c,.slice fs.a fs.n fs.c,.slice ars.a ars.n ars.c]) rfl rfl fun h59 hs=>?_;refine sBn (fun c4=>absurd rfl c4) (fun _=>?_);have har:=(hs.rows 5 (s:=ars) (cs:=Mv.cs) rfl (by omega)).ln;have hsl:=(hs.rows 3 (s:=ss) (cs:=SE.hd) rfl (by omega)).ln;refine⟨ars,hs.rd 0 rfl rfl,?_⟩;refine sBi (fun c5=>?_) (fun c5=>?_)
  ·refine hs.put 1 rfl (o:=0) (vs:=m0) rfl (by decide) fun h22 hs=>?_;refine⟨0,0,0,⟨none,0,0⟩,⟨none,0,0⟩,⟨none,0,0⟩,hs.at 1 rfl (n:=6) rfl,hs.ext,?_⟩;exact .err (by rw[hraw];show (if _ then _ else _)=_;rw[if_pos (by omega)]) (by decide)
  replace hraw:raw g role=(match rawL (vwG g role) 0 (E.map (·.p)) M [] with
   | none=>(none,18)
   | some (M',L)=>(some ⟨role,(E.map (·.p)).length,0,(E.map (·.p)).map (fun p=>p g.e.toNat),M',L⟩,0)):=by
   rw[hraw];show (if _ then _ else _)=_;rw[if_neg (by omega)]
  refine⟨_,_,_,_,_,_,_,_,hs.at 2 rfl (n:=8) rfl,?_⟩;refine (prepare40 g role h59 (hg.ext hs.ext) (hx.ext hs.ext) hV hgood.2.1 hgood.2.2).mono ?_;rintro _ h85 ⟨E85,pb,pg,sf,se,so,st,Q,rfl,hsP,hQ⟩;replace hs:=hs.join hsP;clear hsP E85;have hev:∀k,k<g.n.toNat->(firstE g role k).length<=400:=fun k _=>evs_len hV;have hprx:∀ {h':Heap} {A B:List It},St h h' (A++(B++prL pb pg g sf se so st Q ((List.range g.n.toNat).map fun j:Nat=>firstB g role j) (ownE g.es role g.n.toNat).1 (ownT g.es g.ts role g.n.toNat)))->PrI h' ⟨pb,0,none⟩ g.n.toNat (fun j:Nat=>firstE g role j) (fun j:Nat=>firstB g role j) (ownE g.es role g.n.toNat).1 (ownT g.es g.ts role g.n.toNat):=
   fun h1=>prL_fin (h1.sub ((List.sublist_append_right _ _).trans (List.sublist_append_right _ _))) hQ (ownE_len _ _ _).1 (ownT_len _ _ _ _)
  generalize prL pb pg g sf se so st Q ((List.range g.n.toNat).map fun j:Nat=>firstB g role j) (ownE g.es role g.n.toNat).1 (ownT g.es g.ts role g.n.toNat)=PL at *;clear hQ;refine⟨_,rfl,ss,hs.rd 0 rfl rfl,fs,hs.rd 0 rfl rfl,ars,hs.rd 0 rfl rfl,?_⟩;refine hs.newput (vs:=[.int .i64 role,.int .i64 (ss.n:Int),.int .i64 0,.slice fs.a fs.n fs.c,.slice ars.a ars.n ars.c,.slice none 0 0]) rfl rfl fun h90 hs=>?_;have hs:St h h90 (rwL h85.size h57.size h9.size h.size g role ss fs ars ⟨none,0,0⟩ E M []++PL):=by
   have h1:=hs.nil_ 199 3;exact h1.perm (perm8 _ _ _ _ _ _ _ _ (E.map SE.it++PL))
  refine⟨ss,hs.rd 1 rfl rfl,?_⟩;refine⟨fun x h' m=>∃(n:Nat) (sl:Sl) (M':List Mv) (L:List To),x=n/\m=E.length-n/\n<=E.length/\St h h' (rwL h85.size h57.size h9.size h.size g role ss fs ars sl E M' L++PL)/\M'.length=M.length/\L.length<=n*400 /\
   rawL (vwG g role) 0 (E.map (·.p)) M []=rawL (vwG g role) n ((E.drop n).map (·.p)) M' L,⟨_,0,_,M,[],rfl,rfl,by omega,hs,rfl,by decide,by rw[List.drop_zero]⟩,?_⟩
  clear hs;rintro-_ h96 m ⟨n,sl,M',L,rfl,rfl,hn,hs,hM',hL,hst⟩;refine sBi (fun c6=>?_) (fun c6=>?_)
  ·refine (hs.rows 2 (s:=ss) (cs:=SE.hd) rfl (by omega)).nbI (by omega) (by omega) fun b97 o98 e g97 t97=>?_;replace g97:E[n]?=some e:=g97;have heE:=Yb g97;have hep:∀j:Nat,e.p j=true->(j:Int)<g.n:=hlt e.p (Yp.2 ⟨e,heE,rfl⟩);rw[drop_get g97,Yyl,rawL] at hst;refine⟨e.s,t97.hd,?_⟩;refine (list42 e.p e.s h96 (hx.ext hs.ext) (rwL.set (A:=[]) (hs.sub (List.sublist_append_left _ _)) hSI e heE)).mono ?_;rintro _ h102 ⟨E102,x101,rfl,ho101⟩;replace hs:=hs.gift E102 ho101 (inrows _);refine⟨x101,rfl,?_⟩;have hel:∀k∈elems e.p,k<g.n.toNat:=fun k hk=>by have:=hep k (elems_mem.1 hk).2;omega
   have hell:(elems e.p).length<=4096:=by unfold elems;exact Yys (List.length_filter_le _ _) (by rw[Yyd];exact Yyt _)
   refine (view41 pb g.n.toNat _ _ _ _ (elems e.p) x101 h102 (hprx (A:=[_]) (B:=rwL _ _ _ _ _ _ _ _ _ _ _ _ _) hs) (hs.rows 0 rfl (by omega)) hel hell hev).mono ?_;rintro _ h110 ⟨E110,o,ok,rfl,hvw⟩;replace hs:=(hs.step E110).eras 0;refine⟨_,_,_,_,_,_,rfl,?_⟩;refine hs.newput (vs:=Ti.cs o) rfl rfl fun h112 hs=>?_;rw[show vwG g role (elems e.p)=if ok then some o else none from hvw] at hst;refine sB_intro (fun c7=>?_) (fun c7=>?_)
   ·have c7:=bF c7;subst c7;refine hs.put 7 rfl (o:=0) (vs:=m0) rfl (by decide) fun h22 hs=>?_;refine⟨0,0,0,⟨none,0,0⟩,⟨none,0,0⟩,⟨none,0,0⟩,hs.at 7 rfl (n:=6) rfl,hs.ext,?_⟩;exact .err (by rw[hraw,hst];rfl) (by decide)
   ·have c7:=bT c7;subst c7;replace hst:rawL (vwG g role) 0 (E.map (·.p)) M []=rawL (vwG g role) (n+1) ((E.drop (n+1)).map (·.p)) (M'.map (updR n o)) (L++limR n o M'):=hst;refine⟨ars,hs.rd 1 rfl rfl,?_⟩;have har':=(hs.rows 5 (s:=ars) (cs:=Mv.cs) rfl (by omega)).ln;refine⟨fun x h' m=>∃(i:Nat) (sl:Sl),x=i/\m=M'.length-i/\i<=M'.length/\St h h' (.blk h110.size o.cs 228::(rwL h85.size h57.size h9.size h.size g role ss fs ars sl E ((M'.take i).map (updR n o)++M'.drop i) (L++limR n o (M'.take i))++PL)),⟨_,0,sl,rfl,rfl,by omega,?_⟩,?_⟩
    ·have e1:limR n o (M'.take 0)=[]:=rfl;rw[e1,Yw,Yyk,List.drop_zero];exact hs
    clear hs;rintro-_ h125 m ⟨i,sl2,rfl,rfl,hi,hs⟩;have hll:=(hs.rows 6 (s:=sl2) (cs:=To.cs) rfl (by omega)).ln;rw[Yh] at hll;have hlr:=limR_len n o (M'.take i);rw[Yu] at hlr;refine sBi (fun c8=>?_) (fun c8=>?_)
    ·refine⟨ars,hs.rd 1 rfl rfl,?_⟩;have hal:=(hs.rows 5 (s:=ars) (cs:=Mv.cs) rfl (by omega)).ln;obtain⟨y,gy⟩:=get_some (l:=M') (i:=i) (by omega);have hnext:∀ {h':Heap} {sl3:Sl} {q:List To},limC n o (y,i)=q[0]?->q.length<=1->St h h' (.blk h110.size o.cs 228::(rwL h85.size h57.size h9.size h.size g role ss fs ars sl3 E ((M'.take (i+1)).map (updR n o)++M'.drop (i+1)) (L++limR n o (M'.take i)++q)++PL)) ->
       ∃m,m<M'.length-i/\∃(i2:Nat) (sl:Sl),IntKind.wrap .i64 ((i:Int)+1)=i2/\m=M'.length-i2/\i2<=M'.length/\St h h' (.blk h110.size o.cs 228::(rwL h85.size h57.size h9.size h.size g role ss fs ars sl E ((M'.take i2).map (updR n o)++M'.drop i2) (L++limR n o (M'.take i2))++PL)):=by
      intro h' sl3 q hq hql h1;refine⟨_,by omega,i+1,sl3,by rw[w64 (by omega) (by omega)];omega,rfl,by omega,?_⟩;have e1:limR n o (M'.take (i+1))=limR n o (M'.take i)++q:=by
       unfold limR;rw[zip_snoc gy,List.filterMap_append];congr 1;rw[List.filterMap_cons,hq]
       match q,hql with
       | [],_=>rfl
       | [a],_=>rfl
      rw[e1,<-Yz];exact h1
     refine hs.nbw 5 (s:=ars) (cs:=Mv.cs) rfl (by omega) (by omega) (by omega) fun b127 o128 y' g127 ha127 t127 wr=>?_;rw[Ys,get_split,gy] at g127;cases g127;refine⟨_,t127.hd,?_⟩;refine sBn (fun c9=>?_) (fun c9=>?_)
     ·have e2:updR n o y=y:=by unfold updR;rw[if_neg (fun hc=>c9 hc.1)]
      refine hnext (sl3:=sl2) (q:=[]) ?_ (by decide) ?_
      ·unfold limC;rw[if_neg (fun hc=>c9 hc.1)];rfl
      ·rw[Yw,take_snoc gy,Ym,Yz,List.map_singleton,e2,List.singleton_append,<-drop_get gy];exact hs
     refine⟨_,t127.nth 1 rfl,?_⟩;refine sB_intro (fun c10=>?_) (fun c10=>?_)
     ·have c10:=bF c10;have e2:updR n o y=y:=by unfold updR;rw[if_neg (fun hc=>by rw[c10] at hc;cases hc.2)]
      refine hnext (sl3:=sl2) (q:=[]) ?_ (by decide) ?_
      ·unfold limC;rw[if_neg (fun hc=>by rw[c10] at hc;cases hc.2.1)];rfl
      ·rw[Yw,take_snoc gy,Ym,Yz,List.map_singleton,e2,List.singleton_append,<-drop_get gy];exact hs
     have c10:=bT c10;refine⟨_,hs.rd 0 rfl rfl,?_⟩;have e2:updR n o y={ y with ag:=o.ag }:=by unfold updR;rw[if_pos ⟨c9,c10⟩]
     refine wr 5 { y with ag:=o.ag } [.bool o.ag] rfl (show 6<=6 by decide) rfl fun h134 hs=>?_;rw[Ys,set_split (f:=updR n o) gy e2] at hs;have hat:=(hs.rows 5 (s:=ars) (cs:=Mv.cs) rfl (by omega)).atI ha127 (get_split2 (f:=updR n o) gy);rw[e2] at hat;refine⟨_,hs.rd 0 rfl rfl,?_⟩;have hno:¬(o.k>0/\o.x=⟨true,y.peer,y.label⟩)->limC n o (y,i)=([]:List To)[0]?:=fun hc=>by unfold limC;rw[if_neg (fun h=>hc ⟨h.2.2.1,h.2.2.2⟩)];rfl
     refine sBi (fun c11=>?_) (fun c11=>?_)
     ·refine⟨_,_,_,hs.at 0 rfl (o:=2) (n:=3) rfl,_,hat.nth 2 rfl,_,hat.nth 3 rfl,?_⟩;refine sB_intro (fun c12=>?_) (fun c12=>?_)
      ·have c12:=Yyn ((ev_eqb o.x ⟨true,y.peer,y.label⟩).symm.trans c12);refine⟨_,hs.rd 1 rfl rfl,_,hs.rd 0 rfl rfl,?_⟩;refine hs.app 6 rfl app25 (m:=1) [To.cs ⟨n,o.k,i⟩] rfl rfl (fun r hr=>by rw[Ye] at hr;rw[hr];rfl) rfl (by omega) (by simp only[maxLen];omega) fun s144 h145 ns hs=>?_;refine hs.put 1 rfl (o:=5) (vs:=[.slice s144.a s144.n s144.c]) rfl (show 6<=6 by decide) fun h146 hs=>?_;refine hnext (sl3:=s144) (q:=[⟨n,o.k,i⟩]) ?_ (by show 1<=1;decide) ?_
       ·unfold limC;rw[if_pos ⟨c9,c10,c11,c12⟩];rfl
       ·unfold rwL;rw[Ym (l₁:=L++limR n o (M'.take i))];exact hs
      ·have c12:=Yyo ((ev_eqb o.x ⟨true,y.peer,y.label⟩).symm.trans c12);refine hnext (sl3:=sl2) (q:=[]) (hno fun hc=>c12 hc.2) (by decide) ?_;rw[Yw];exact hs
     ·refine hnext (sl3:=sl2) (q:=[]) (hno fun hc=>c11 hc.1) (by decide) ?_;rw[Yw];exact hs
    ·have hi2:i=M'.length:=by omega
     subst hi2;rw[Yye,List.drop_length,Yw] at hs;refine⟨_,by omega,n+1,sl2,M'.map (updR n o),L++limR n o M',by rw[w64 (by omega) (by omega)];omega,rfl,by omega,hs.drop 1,by rw[Yc];exact hM',by rw[Yh];have:=limR_len n o M';omega,hst⟩
  ·have hn2:n=E.length:=by omega
   subst hn2;rw[List.drop_length] at hst;replace hst:rawL (vwG g role) 0 (E.map (·.p)) M []=some (M',L):=hst;refine⟨_,_,_,fs,ars,sl,hs.at 0 rfl (n:=6) rfl,?_⟩;refine hs.put 6 rfl (o:=0) (vs:=[.int .i64 role,.int .i64 (ss.n:Nat),.int .i64 0,.slice fs.a fs.n fs.c,.slice ars.a ars.n ars.c,.slice sl.a sl.n sl.c]) rfl (show 6<=6 by decide) fun h157 hs=>?_;refine⟨_,_,_,fs,ars,sl,hs.at 6 rfl (n:=6) rfl,hs.ext,?_⟩;have hfin:(E.map (·.p)).map (fun p=>p g.e.toNat)=E.map fun e:SE=>e.p g.e.toNat:=by rw[List.map_map];rfl
   have hm:raw g role=(some ⟨role,ss.n,0,E.map fun e:SE=>e.p g.e.toNat,M',L⟩,0):=by rw[hraw,hst,hsl,<-hfin,Yc]
   exact .ok (m:=⟨role,ss.n,0,E.map fun e:SE=>e.p g.e.toNat,M',L⟩) hm ((hs.drop 3).sub (List.sublist_append_left [_,_,_] _))
end Go.VC
end
