/- QjR QjS QjT1 QjStubB QjT QjU QjV0 QjV QjW0 QjW RjB RjSort RjC RjD RjE RjG. -/
import Derived.Test.YtkebghjhekoecaaGreatDoorAM05
import Derived.DeepKeys4
set_option linter.all false
set_option maxRecDepth 100000
set_option maxHeartbeats 8000000

section
namespace Go.VC
open Go.Proofs Go.LexS
theorem rangeG {n i k:Nat} (h:(List.range n)[i]?=some k):i=k/\i<n:=by
 obtain⟨h1,h2⟩:=Ya.1 h;rw[List.getElem_range] at h2;rw[Yyd] at h1;exact⟨h2,h1⟩
theorem view41 (p:Nat) (n:Nat) (F:Nat->List Ev) (en:Nat->Bool) (O:List Bool) (T:List Ti) (l:List Nat) (s:Sl) (h:Heap) (hP:PrI h ⟨p,0,none⟩ n F en O T) (hl:Rw h 1 s ((l.map fun k:Nat=>(k:Int)).map inC)) (hln:∀k∈l,k<n) (hll:l.length<=4096) (hF:∀k,k<n->(F k).length<=400) :
  Fn Pz 72 #[.pointer (some ⟨p,0,none⟩),.slice s.a s.n s.c] h fun v h'=>Ext h h'/\∃(o:Ti) (ok:Bool),v=.tuple ⟨[.agg ⟨Ti.cs o⟩,.bool ok]⟩/\viewV F en O T l=if ok then some o else none:=by
 apply vc72;unfold W72 V72b V72a;obtain⟨sf,se,so,st,fs,h1,h2,h3,h4,h5,h6,hO,hT⟩:=hP.ex;have hs:=St.refl h;refine hs.newb fun h1' hs=>?_;refine hs.newb fun h2' hs=>?_;have hsn:=hl.ln;rw[Yc] at hsn;have hfn:=h2.ln;have hen:=h4.ln;have hon:=h5.ln;have htn:=h6.ln;rw[Yyd] at hfn hen;refine⟨fun known x h' m=>∃(i:Nat) (o:Ti),x=i/\m=l.length-i/\i<=l.length/\St h h' [.blk h1'.size o.cs 119,.blk h.size ti0.cs 119]/\(l.take i).foldl (stepV F en O T l) (some (false,ti0))=some (known,o),⟨_,0,ti0,rfl,rfl,by omega,hs,rfl⟩,?_⟩;clear hs;rintro-known _ h8 m ⟨i,o,rfl,rfl,hi,hs,hst⟩;refine sBi (fun c1=>?_) (fun c1=>?_)
 .refine (hl.ext hs.ext).nbI (by omega) (by omega) fun b9 o10 d9 g9 t9=>?_;rw[Ys,Yd] at g9;obtain⟨k,gk,rfl⟩:=Yya.1 g9;have hk:=hln k (Yb gk);refine⟨_,t9.hd,?_⟩;have nth0:=(atC_ext hs.ext h1).nth 0 rfl;have nth1:=(atC_ext hs.ext h1).nth 1 rfl;have nth2:=(atC_ext hs.ext h1).nth 2 rfl;have nth3:=(atC_ext hs.ext h1).nth 3 rfl;have h2e:=h2.ext hs.ext;have h4e:=h4.ext hs.ext;have h5e:=h5.ext hs.ext;have h6e:=h6.ext hs.ext;have h3e:∀i,i<n->Rw h8 3 (fs i) ((F i).map Ev.cs):=fun i hi=>(h3 i hi).ext hs.ext;have hfk:=(h3e k hk).ln;have hFk:=hF k hk;have hsk:stepV F en O T l (some (known,o)) k=if badV F en l k then none else match O[k]?,T[k]? with | some true,some t=>if known&&decide (t≠o) then none else some (true,t) | _,_=>some (known,o):=rfl
  refine⟨fun h'=>h'=h8/\badV F en l k=false,?_,?_⟩
  .refine⟨sf,nth0,?_⟩;refine h2e.nbI (by omega) (by omega) fun b14 o15 d g14 t14=>?_;obtain⟨rfl,_⟩:=rangeG g14
   (try rw[Ys] at t14);(try rw[Ys])
   refine⟨_,t14.hd,?_⟩;refine sBi (fun c2=>?_) (fun c2=>?_)
   .refine⟨sf,nth0,?_⟩;refine h2e.nbI (by omega) (by omega) fun b18 o19 d g18 t18=>?_;obtain⟨rfl,_⟩:=rangeG g18
    (try rw[Ys] at t18);(try rw[Ys])
    refine⟨_,t18.hd,?_⟩;refine (h3e k hk).nbI (by omega) (by omega) fun b21 o22 e0 g21 t21=>?_;replace g21:(F k)[0]?=some e0:=g21;refine⟨_,t21.hd,?_⟩;have hs0:sndAt (F k) 0=e0.send:=by unfold sndAt;rw[g21]
    refine sB_intro (fun c3=>?_) (fun c3=>?_)
    .refine⟨se,nth1,?_⟩;refine h4e.nbI (by omega) (by omega) fun b25 o26 d g25 t25=>?_;obtain⟨rfl,_⟩:=rangeG g25
     (try rw[Ys] at t25);(try rw[Ys])
     refine⟨_,t25.hd,?_⟩;refine sB_intro (fun c4=>?_) (fun c4=>?_)
     .refine⟨_,_,_,_,_,hs.at 0 rfl (n:=5) rfl,?_⟩;refine hs.put 1 rfl (o:=0) (vs:=Ti.cs o) rfl (show 5<=5 by decide) fun h33 hs=>?_;refine⟨_,_,_,_,_,hs.at 1 rfl (n:=5) rfl,hs.ext,o,false,rfl,?_⟩;exact viewV_none hst gk (by rw[hsk,if_pos];unfold badV;rw[hs0,c3,c4];rfl)
     .refine⟨sf,nth0,?_⟩;refine h2e.nbI (by omega) (by omega) fun b40 o41 d g40 t40=>?_;obtain⟨rfl,_⟩:=rangeG g40
      (try rw[Ys] at t40);(try rw[Ys])
      refine⟨_,t40.hd,?_⟩;refine⟨sf,nth0,?_⟩;refine h2e.nbI (by omega) (by omega) fun b44 o45 d g44 t44=>?_;obtain⟨rfl,_⟩:=rangeG g44
      (try rw[Ys] at t44);(try rw[Ys])
      refine⟨_,t44.hd,?_⟩;rw[w64 (by omega) (by omega)];refine (h3e k hk).nbI (by omega) (by omega) fun b47 o48 e1 g47 t47=>?_;replace g47:(F k)[((fs k).n-1:Int).toNat]?=some e1:=g47;refine⟨_,t47.hd,?_⟩;have hs1:sndAt (F k) ((F k).length-1)=e1.send:=by
       unfold sndAt;rw[show (F k).length-1=((fs k).n-1:Int).toNat by omega,g47]
      refine sB_intro (fun c5=>?_) (fun c5=>?_)
      .refine⟨_,_,_,_,_,hs.at 0 rfl (n:=5) rfl,?_⟩;refine hs.put 1 rfl (o:=0) (vs:=Ti.cs o) rfl (show 5<=5 by decide) fun h33 hs=>?_;refine⟨_,_,_,_,_,hs.at 1 rfl (n:=5) rfl,hs.ext,o,false,rfl,?_⟩;have c5:=bF c5;exact viewV_none hst gk (by rw[hsk,if_pos];unfold badV;rw[hs0,c3,hs1,c5];simp)
      .have c5:=bT c5;refine up_loop (n:=s.n) (fun j h'=>h'=h8/\(l.take j).any (fun q=>en q||decide (F k≠F q))=false) ⟨rfl,rfl⟩ ?_;rintro-j h65 hj ⟨rfl,hany⟩;refine sB_intro (fun l6=>?_) (fun l6=>?_)
       .replace l6:=lt_t l6;refine (hl.ext hs.ext).nbI (by omega) (by omega) fun b66 o67 d66 g66 t66=>?_;rw[Ys,Yd] at g66;obtain⟨q,gq,rfl⟩:=Yya.1 g66;have hq:=hln q (Yb gq);have hnone:(en q||decide (F k≠F q))=true->viewV F en O T l=none:=fun hc=>viewV_none hst gk (by
         rw[hsk,if_pos];unfold badV;have:(l.any fun k'=>en k'||decide (F k≠F k'))=true:=List.any_eq_true.2 ⟨q,Yb gq,hc⟩;rw[hs0,c3,this];simp)
        refine⟨_,t66.hd,se,nth1,?_⟩;refine h4e.nbI (by omega) (by omega) fun b70 o71 d g70 t70=>?_;obtain⟨rfl,_⟩:=rangeG g70
        (try rw[Ys] at t70);(try rw[Ys])
        refine⟨_,t70.hd,?_⟩;refine sB_intro (fun c7=>?_) (fun c7=>?_)
        .refine⟨_,_,_,_,_,hs.at 0 rfl (n:=5) rfl,?_⟩;refine hs.put 1 rfl (o:=0) (vs:=Ti.cs o) rfl (show 5<=5 by decide) fun h33 hs=>?_;refine⟨_,_,_,_,_,hs.at 1 rfl (n:=5) rfl,hs.ext,o,false,rfl,?_⟩;exact hnone (by rw[c7];rfl)
        .refine⟨sf,nth0,?_⟩;refine h2e.nbI (by omega) (by omega) fun b85 o86 d g85 t85=>?_;obtain⟨rfl,_⟩:=rangeG g85
         (try rw[Ys] at t85);(try rw[Ys])
         refine⟨_,t85.hd,sf,nth0,?_⟩;refine h2e.nbI (by omega) (by omega) fun b89 o90 d g89 t89=>?_;obtain⟨rfl,_⟩:=rangeG g89
         (try rw[Ys] at t89);(try rw[Ys])
         refine⟨_,t89.hd,?_⟩;refine (equal89 (F k) (F q) _ _ h65 (h3e k hk) (h3e q hq) (by omega)).mono ?_;rintro _ _ ⟨rfl,rfl⟩;refine⟨_,rfl,fun _ _ _ _ hv=>hv,?_⟩;refine sB_intro (fun c8=>?_) (fun c8=>?_)
         .refine⟨_,_,_,_,_,hs.at 0 rfl (n:=5) rfl,?_⟩;refine hs.put 1 rfl (o:=0) (vs:=Ti.cs o) rfl (show 5<=5 by decide) fun h33 hs=>?_;refine⟨_,_,_,_,_,hs.at 1 rfl (n:=5) rfl,hs.ext,o,false,rfl,?_⟩;exact hnone (by simp at c8 ⊢;exact .inr c8)
         .refine Up.next (by omega) (by omega) ⟨rfl,?_⟩;rw[take_snoc gq,List.any_append,hany,Bool.false_or];simp at c8 ⊢;exact⟨c7,c8⟩
       .replace l6:=lt_f l6;rw[Yj (by omega)] at hany;refine⟨rfl,?_⟩;unfold badV;rw[c4,hs1,c5,hany];simp
    .exact⟨rfl,by unfold badV;rw[hs0,c3];rfl⟩
   .have hs0:sndAt (F k) 0=false:=by
     have:F k=[]:=List.length_eq_zero_iff.1 (by omega);unfold sndAt;rw[this];rfl
    exact⟨rfl,by unfold badV;rw[hs0];rfl⟩
  .rintro-h107 ⟨rfl,hbad⟩;rw[hbad,if_neg (by simp)] at hsk;refine⟨so,nth2,?_⟩;refine h5e.nbI (by omega) (by omega) fun b109 o110 ob g109 t109=>?_;rw[Ys] at g109;refine⟨_,t109.hd,?_⟩;refine sB_intro (fun c2=>?_) (fun c2=>?_)
   .have c2:=bF c2;subst c2;refine⟨_,by omega,i+1,o,by rw[w64 (by omega) (by omega)];omega,rfl,by omega,hs,?_⟩;rw[foldl_snoc gk,hst,hsk,g109]
   .have c2:=bT c2;subst c2;obtain⟨t,gt⟩:=get_some (l:=T) (i:=k) (by omega);rw[g109,gt] at hsk;replace hsk:stepV F en O T l (some (known,o)) k=if known&&decide (t≠o) then none else some (true,t):=hsk
    refine sB_intro (fun c3=>?_) (fun c3=>?_)
    .refine⟨st,nth3,?_⟩;refine h6e.nbI (by omega) (by omega) fun b114 o115 t' g114 t114=>?_;rw[Ys,gt] at g114;cases g114;refine⟨_,_,_,_,_,t114,_,_,_,_,_,hs.at 0 rfl (n:=5) rfl,?_⟩;rw[ti_eqb];refine sB_intro (fun c4=>?_) (fun c4=>?_)
     .refine⟨_,_,_,_,_,hs.at 0 rfl (n:=5) rfl,?_⟩;refine hs.put 1 rfl (o:=0) (vs:=Ti.cs o) rfl (show 5<=5 by decide) fun h33 hs=>?_;refine⟨_,_,_,_,_,hs.at 1 rfl (n:=5) rfl,hs.ext,o,false,rfl,?_⟩;exact viewV_none hst gk (by rw[hsk,if_pos (by rw[c3];simpa using c4)])
     .have he:t=o:=by simpa using c4
      refine⟨st,nth3,?_⟩;refine h6e.nbI (by omega) (by omega) fun b138 o139 t' g138 t138=>?_;rw[Ys,gt] at g138;cases g138;refine⟨_,_,_,_,_,t138,?_⟩;refine hs.put 0 rfl (o:=0) (vs:=Ti.cs t) rfl (show 5<=5 by decide) fun h145 hs=>?_;refine⟨_,by omega,i+1,t,by rw[w64 (by omega) (by omega)];omega,rfl,by omega,hs,?_⟩;rw[foldl_snoc gk,hst,hsk,if_neg (by rw[he];simp)]
    .refine⟨st,nth3,?_⟩;refine h6e.nbI (by omega) (by omega) fun b148 o149 t' g148 t148=>?_;rw[Ys,gt] at g148;cases g148;refine⟨_,_,_,_,_,t148,?_⟩;refine hs.put 0 rfl (o:=0) (vs:=Ti.cs t) rfl (show 5<=5 by decide) fun h155 hs=>?_;refine⟨_,by omega,i+1,t,by rw[w64 (by omega) (by omega)];omega,rfl,by omega,hs,?_⟩;rw[foldl_snoc gk,hst,hsk,if_neg (by rw[c3];simp)]
 .rw[Yj (by omega)] at hst;refine⟨_,_,_,_,_,hs.at 0 rfl (n:=5) rfl,?_⟩;refine hs.put 1 rfl (o:=0) (vs:=Ti.cs o) rfl (show 5<=5 by decide) fun h33 hs=>?_;refine⟨_,_,_,_,_,hs.at 1 rfl (n:=5) rfl,hs.ext,o,true,rfl,?_⟩;unfold viewV;rw[hst];rfl
theorem app25:appB Pz 24 44 3 24=true:=by kernel_rfl
noncomputable def vwG (g:Gl) (role:Int):List Nat->Option Ti:=viewV (fun j:Nat=>firstE g role j) (fun j:Nat=>firstB g role j) (ownE g.es role g.n.toNat).1 (ownT g.es g.ts role g.n.toNat)
noncomputable def raw (g:Gl) (role:Int):Option Mch × Int:=
 if ¬(ValidS g/\0<=role/\role<g.rs.length) then (none,1) else
 match views g role with
 | none=>(none,6)
 | some (S,M)=>if M.length>400 then (none,6) else
  match rawL (vwG g role) 0 S M [] with
  | none=>(none,18)
  | some (M',L)=>(some ⟨role,S.length,0,S.map (fun p=>p g.e.toNat),M',L⟩,0)
def m0:List Value:=[.int .i64 0,.int .i64 0,.int .i64 0,.slice none 0 0,.slice none 0 0,.slice none 0 0]
def mC (m:Mch) (sf sm sl:Sl):List Value:=[.int .i64 m.role,.int .i64 m.n,.int .i64 m.s,.slice sf.a sf.n sf.c,.slice sm.a sm.n sm.c,.slice sl.a sl.n sl.c]
def mL (m:Mch) (sf sm sl:Sl):List It:=[.sl sf 4 1 (m.fin.map bC),.sl sm 81 6 (m.mv.map Mv.cs),.sl sl 44 3 (m.li.map To.cs)]
inductive MaR (o:Option Mch × Int) (h h':Heap):Value->Prop
 | err {e:Int} (he:o=(none,e)) (h0:e≠0):MaR o h h' (.tuple ⟨[.agg ⟨m0⟩,.int .i64 e]⟩)
 | ok {m:Mch} {sf sm sl:Sl} (he:o=(some m,0)) (hs:St h h' (mL m sf sm sl)):MaR o h h' (.tuple ⟨[.agg ⟨mC m sf sm sl⟩,.int .i64 0]⟩)
def rwL (mb tb rb gb:Nat) (g:Gl) (role:Int) (ss fs ars sl:Sl) (E:List SE) (M:List Mv) (L:List To):List It:=
 [.blk mb [.int .i64 role,.int .i64 (ss.n:Nat),.int .i64 0,.slice fs.a fs.n fs.c,.slice ars.a ars.n ars.c,.slice sl.a sl.n sl.c] 26,.blk tb [.slice ss.a ss.n ss.c,.slice fs.a fs.n fs.c,.slice ars.a ars.n ars.c] 109,.sl ss 115 1 (E.map SE.hd),
  .sl fs 4 1 ((E.map fun e:SE=>e.p g.e.toNat).map bC),.sl ars 81 6 (M.map Mv.cs),.sl sl 44 3 (L.map To.cs),.blk rb m0 26,.blk gb g.cs 59]++E.map SE.it
theorem rwL.set {h0 h:Heap} {A:List It} {mb tb rb gb:Nat} {g:Gl} {role:Int} {ss fs ars sl:Sl} {E:List SE} {M:List Mv} {L:List To} (hs:St h0 h (A++rwL mb tb rb gb g role ss fs ars sl E M L)) (hE:∀e∈E,SI e.ws e.k e.p):∀e∈E,SetV h e.s e.p:=by
 intro e he;have hm:e.it∈A++rwL mb tb rb gb g role ss fs ars sl E M L:=by
  rw[Yk];right;unfold rwL;rw[Yk];right;exact List.mem_map_of_mem he
 have:=(hs.ok _ hm).1;exact (hE e he).v this e.k
theorem perm8 {α:Type} (f a b g i c d e:α) (R:List α):(f::a::b::g::i::c::d::e::R).Perm (a::b::c::d::e::f::g::i::R):=
 (List.perm_append_comm_assoc [f] [a,b] _).trans (List.Perm.append_left [a,b] (List.perm_append_comm_assoc [f,g,i] [c,d,e] R))
theorem get_split2 {α:Type} {i:Nat} {f:α->α} {M:List α} {y:α} (h:M[i]?=some y):((M.take (i+1)).map f++M.drop (i+1))[i]?=some (f y):=by
 have h1:=(Ya.1 h).1;rw[Yyi (by rw[Yc,Yu];omega),Yd,Yyf,if_pos (by omega),h];rfl
theorem raw14 (g:Gl) (role:Int) (h:Heap) (hg:GI h g) (hx:Gx h) :
  Fn Pz 36 #[g.v,.int .i64 role] h fun v h'=>Ext h h'/\MaR (raw g role) h h' v:=by
 apply vc36 (bs g.nm) g.hr g.hd g.n g.s g.e g.he g.ht;unfold W36 V36a;have hs:=St.refl h;have hrn:=hg.r.ln;refine hs.newb fun h9 hs=>?_;refine hs.newb fun h10 hs=>?_;refine⟨_,_,_,_,_,_,_,_,hs.at 1 rfl (n:=8) rfl,?_⟩;refine (valid38 g h10 (hg.ext hs.ext) (hx.ext hs.ext)).mono ?_;rintro _ h21 ⟨rfl,E21⟩;replace hs:=hs.step E21;refine⟨_,rfl,?_⟩;have hbad:∀ {o:Prop},¬(ValidS g/\0<=role/\role<g.rs.length)->raw g role=(none,1):=fun h=>by unfold raw;rw[if_pos h]
 refine sB_intro (fun c1=>?_) (fun c1=>?_)
 .have c1:=Yyo (bF c1);refine hs.put 0 rfl (o:=0) (vs:=m0) rfl (by decide) fun h22 hs=>?_;refine⟨0,0,0,⟨none,0,0⟩,⟨none,0,0⟩,⟨none,0,0⟩,hs.at 0 rfl (n:=6) rfl,hs.ext,?_⟩;exact .err (hbad (o:=True) fun hc=>c1 hc.1) (by decide)
 have hV:ValidS g:=Yyn (bT c1);refine sBi (fun c2=>?_) (fun c2=>?_)
 .refine hs.put 0 rfl (o:=0) (vs:=m0) rfl (by decide) fun h22 hs=>?_;refine⟨0,0,0,⟨none,0,0⟩,⟨none,0,0⟩,⟨none,0,0⟩,hs.at 0 rfl (n:=6) rfl,hs.ext,?_⟩;exact .err (hbad (o:=True) fun hc=>by omega) (by decide)
 refine⟨_,hs.rd 1 rfl rfl,?_⟩;refine sBi (fun c3=>?_) (fun c3=>?_)
 .refine hs.put 0 rfl (o:=0) (vs:=m0) rfl (by decide) fun h22 hs=>?_;refine⟨0,0,0,⟨none,0,0⟩,⟨none,0,0⟩,⟨none,0,0⟩,hs.at 0 rfl (n:=6) rfl,hs.ext,?_⟩;exact .err (hbad (o:=True) fun hc=>by omega) (by decide)
 have hgood:ValidS g/\0<=role/\role<g.rs.length:=⟨hV,by omega,by omega⟩;have hraw:raw g role=(match views g role with
  | none=>(none,6)
  | some (S,M)=>if M.length>400 then (none,6) else
   match rawL (vwG g role) 0 S M [] with
   | none=>(none,18)
   | some (M',L)=>(some ⟨role,S.length,0,S.map (fun p=>p g.e.toNat),M',L⟩,0)):=by unfold raw;rw[if_neg (by simpa using hgood)]
 have hN:=hV.num.n;refine⟨_,_,_,_,_,_,_,_,hs.at 1 rfl (n:=8) rfl,?_⟩;refine (views39 g role h21 (hg.ext hs.ext) (hx.ext hs.ext)).mono ?_;rintro _ h57 ⟨E57,hvi⟩;cases hvi with
 | bad hn=>exact absurd hgood hn
 | limit hv hn=>
  replace hs:=hs.step E57;refine⟨⟨none,0,0⟩,⟨none,0,0⟩,⟨none,0,0⟩,_,rfl,?_⟩;refine hs.newput (vs:=sl0) rfl rfl fun h59 hs=>?_;refine sBn (fun c4=>?_) (fun c4=>by omega);refine hs.put 1 rfl (o:=0) (vs:=m0) rfl (by decide) fun h22 hs=>?_;refine⟨0,0,0,⟨none,0,0⟩,⟨none,0,0⟩,⟨none,0,0⟩,hs.at 1 rfl (n:=6) rfl,hs.ext,?_⟩;exact .err (by rw[hraw,hn]) (by decide)
 | @good _ ss fs ars E M hvw hsT hSI hEl hlt hMl=>
  rw[hvw] at hraw;replace hs:=hs.join hsT;clear hsT E57 E21 hvw;refine⟨ss,fs,ars,_,rfl,?_⟩;refine hs.newput (vs:=[.slice ss.a ss.n ss.c,.slice fs.a fs.n fs.c,.slice ars.a ars.n ars.c]) rfl rfl fun h59 hs=>?_;refine sBn (fun c4=>absurd rfl c4) (fun _=>?_);have har:=(hs.rows 5 (s:=ars) (cs:=Mv.cs) rfl (by omega)).ln;have hsl:=(hs.rows 3 (s:=ss) (cs:=SE.hd) rfl (by omega)).ln;refine⟨ars,hs.rd 0 rfl rfl,?_⟩;refine sBi (fun c5=>?_) (fun c5=>?_)
  .refine hs.put 1 rfl (o:=0) (vs:=m0) rfl (by decide) fun h22 hs=>?_;refine⟨0,0,0,⟨none,0,0⟩,⟨none,0,0⟩,⟨none,0,0⟩,hs.at 1 rfl (n:=6) rfl,hs.ext,?_⟩;exact .err (by rw[hraw];show (if _ then _ else _)=_;rw[if_pos (by omega)]) (by decide)
  replace hraw:raw g role=(match rawL (vwG g role) 0 (E.map (·.p)) M [] with
   | none=>(none,18)
   | some (M',L)=>(some ⟨role,(E.map (·.p)).length,0,(E.map (·.p)).map (fun p=>p g.e.toNat),M',L⟩,0)):=by
   rw[hraw];show (if _ then _ else _)=_;rw[if_neg (by omega)]
  refine⟨_,_,_,_,_,_,_,_,hs.at 2 rfl (n:=8) rfl,?_⟩;refine (prepare40 g role h59 (hg.ext hs.ext) (hx.ext hs.ext) hV hgood.2.1 hgood.2.2).mono ?_;rintro _ h85 ⟨E85,pb,pg,sf,se,so,st,Q,rfl,hsP,hQ⟩;replace hs:=hs.join hsP;clear hsP E85;have hev:∀k,k<g.n.toNat->(firstE g role k).length<=400:=fun k _=>evs_len hV;have hprx:∀ {h':Heap} {A B:List It},St h h' (A++(B++prL pb pg g sf se so st Q ((List.range g.n.toNat).map fun j:Nat=>firstB g role j) (ownE g.es role g.n.toNat).1 (ownT g.es g.ts role g.n.toNat)))->PrI h' ⟨pb,0,none⟩ g.n.toNat (fun j:Nat=>firstE g role j) (fun j:Nat=>firstB g role j) (ownE g.es role g.n.toNat).1 (ownT g.es g.ts role g.n.toNat):=
   fun h1=>prL_fin (h1.sub ((List.sublist_append_right _ _).trans (List.sublist_append_right _ _))) hQ (ownE_len _ _ _).1 (ownT_len _ _ _ _)
  generalize prL pb pg g sf se so st Q ((List.range g.n.toNat).map fun j:Nat=>firstB g role j) (ownE g.es role g.n.toNat).1 (ownT g.es g.ts role g.n.toNat)=PL at *;clear hQ;refine⟨_,rfl,ss,hs.rd 0 rfl rfl,fs,hs.rd 0 rfl rfl,ars,hs.rd 0 rfl rfl,?_⟩;refine hs.newput (vs:=[.int .i64 role,.int .i64 (ss.n:Int),.int .i64 0,.slice fs.a fs.n fs.c,.slice ars.a ars.n ars.c,.slice none 0 0]) rfl rfl fun h90 hs=>?_;have hs:St h h90 (rwL h85.size h57.size h9.size h.size g role ss fs ars ⟨none,0,0⟩ E M []++PL):=by
   have h1:=hs.nil_ 44 3;exact h1.perm (perm8 _ _ _ _ _ _ _ _ (E.map SE.it++PL))
  refine⟨ss,hs.rd 1 rfl rfl,?_⟩;refine⟨fun x h' m=>∃(n:Nat) (sl:Sl) (M':List Mv) (L:List To),x=n/\m=E.length-n/\n<=E.length/\St h h' (rwL h85.size h57.size h9.size h.size g role ss fs ars sl E M' L++PL)/\M'.length=M.length/\L.length<=n*400 /\
   rawL (vwG g role) 0 (E.map (·.p)) M []=rawL (vwG g role) n ((E.drop n).map (·.p)) M' L,⟨_,0,_,M,[],rfl,rfl,by omega,hs,rfl,by decide,by rw[List.drop_zero]⟩,?_⟩
  clear hs;rintro-_ h96 m ⟨n,sl,M',L,rfl,rfl,hn,hs,hM',hL,hst⟩;refine sBi (fun c6=>?_) (fun c6=>?_)
  .refine (hs.rows 2 (s:=ss) (cs:=SE.hd) rfl (by omega)).nbI (by omega) (by omega) fun b97 o98 e g97 t97=>?_;replace g97:E[n]?=some e:=g97;have heE:=Yb g97;have hep:∀j:Nat,e.p j=true->(j:Int)<g.n:=hlt e.p (Yp.2 ⟨e,heE,rfl⟩);rw[drop_get g97,Yyl,rawL] at hst;refine⟨e.s,t97.hd,?_⟩;refine (list42 e.p e.s h96 (hx.ext hs.ext) (rwL.set (A:=[]) (hs.sub (List.sublist_append_left _ _)) hSI e heE)).mono ?_;rintro _ h102 ⟨E102,x101,rfl,ho101⟩;replace hs:=hs.gift E102 ho101 (inrows _);refine⟨x101,rfl,?_⟩;have hel:∀k∈elems e.p,k<g.n.toNat:=fun k hk=>by have:=hep k (elems_mem.1 hk).2;omega
   have hell:(elems e.p).length<=4096:=by unfold elems;exact Yys (List.length_filter_le _ _) (by rw[Yyd];exact Yyt _)
   refine (view41 pb g.n.toNat _ _ _ _ (elems e.p) x101 h102 (hprx (A:=[_]) (B:=rwL _ _ _ _ _ _ _ _ _ _ _ _ _) hs) (hs.rows 0 rfl (by omega)) hel hell hev).mono ?_;rintro _ h110 ⟨E110,o,ok,rfl,hvw⟩;replace hs:=(hs.step E110).eras 0;refine⟨_,_,_,_,_,_,rfl,?_⟩;refine hs.newput (vs:=Ti.cs o) rfl rfl fun h112 hs=>?_;rw[show vwG g role (elems e.p)=if ok then some o else none from hvw] at hst;refine sB_intro (fun c7=>?_) (fun c7=>?_)
   .have c7:=bF c7;subst c7;refine hs.put 7 rfl (o:=0) (vs:=m0) rfl (by decide) fun h22 hs=>?_;refine⟨0,0,0,⟨none,0,0⟩,⟨none,0,0⟩,⟨none,0,0⟩,hs.at 7 rfl (n:=6) rfl,hs.ext,?_⟩;exact .err (by rw[hraw,hst];rfl) (by decide)
   .have c7:=bT c7;subst c7;replace hst:rawL (vwG g role) 0 (E.map (·.p)) M []=rawL (vwG g role) (n+1) ((E.drop (n+1)).map (·.p)) (M'.map (updR n o)) (L++limR n o M'):=hst;refine⟨ars,hs.rd 1 rfl rfl,?_⟩;have har':=(hs.rows 5 (s:=ars) (cs:=Mv.cs) rfl (by omega)).ln;refine⟨fun x h' m=>∃(i:Nat) (sl:Sl),x=i/\m=M'.length-i/\i<=M'.length/\St h h' (.blk h110.size o.cs 119::(rwL h85.size h57.size h9.size h.size g role ss fs ars sl E ((M'.take i).map (updR n o)++M'.drop i) (L++limR n o (M'.take i))++PL)),⟨_,0,sl,rfl,rfl,by omega,?_⟩,?_⟩
    .have e1:limR n o (M'.take 0)=[]:=rfl;rw[e1,Yw,Yyk,List.drop_zero];exact hs
    clear hs;rintro-_ h125 m ⟨i,sl2,rfl,rfl,hi,hs⟩;have hll:=(hs.rows 6 (s:=sl2) (cs:=To.cs) rfl (by omega)).ln;rw[Yh] at hll;have hlr:=limR_len n o (M'.take i);rw[Yu] at hlr;refine sBi (fun c8=>?_) (fun c8=>?_)
    .refine⟨ars,hs.rd 1 rfl rfl,?_⟩;have hal:=(hs.rows 5 (s:=ars) (cs:=Mv.cs) rfl (by omega)).ln;obtain⟨y,gy⟩:=get_some (l:=M') (i:=i) (by omega);have hnext:∀ {h':Heap} {sl3:Sl} {q:List To},limC n o (y,i)=q[0]?->q.length<=1->St h h' (.blk h110.size o.cs 119::(rwL h85.size h57.size h9.size h.size g role ss fs ars sl3 E ((M'.take (i+1)).map (updR n o)++M'.drop (i+1)) (L++limR n o (M'.take i)++q)++PL)) ->
       ∃m,m<M'.length-i/\∃(i2:Nat) (sl:Sl),IntKind.wrap .i64 ((i:Int)+1)=i2/\m=M'.length-i2/\i2<=M'.length/\St h h' (.blk h110.size o.cs 119::(rwL h85.size h57.size h9.size h.size g role ss fs ars sl E ((M'.take i2).map (updR n o)++M'.drop i2) (L++limR n o (M'.take i2))++PL)):=by
      intro h' sl3 q hq hql h1;refine⟨_,by omega,i+1,sl3,by rw[w64 (by omega) (by omega)];omega,rfl,by omega,?_⟩;have e1:limR n o (M'.take (i+1))=limR n o (M'.take i)++q:=by
       unfold limR;rw[zip_snoc gy,List.filterMap_append];congr 1;rw[List.filterMap_cons,hq]
       match q,hql with
       | [],_=>rfl
       | [a],_=>rfl
      rw[e1,<-Yz];exact h1
     refine hs.nbw 5 (s:=ars) (cs:=Mv.cs) rfl (by omega) (by omega) (by omega) fun b127 o128 y' g127 ha127 t127 wr=>?_;rw[Ys,get_split,gy] at g127;cases g127;refine⟨_,t127.hd,?_⟩;refine sBn (fun c9=>?_) (fun c9=>?_)
     .have e2:updR n o y=y:=by unfold updR;rw[if_neg (fun hc=>c9 hc.1)]
      refine hnext (sl3:=sl2) (q:=[]) ?_ (by decide) ?_
      .unfold limC;rw[if_neg (fun hc=>c9 hc.1)];rfl
      .rw[Yw,take_snoc gy,Ym,Yz,List.map_singleton,e2,List.singleton_append,<-drop_get gy];exact hs
     refine⟨_,t127.nth 1 rfl,?_⟩;refine sB_intro (fun c10=>?_) (fun c10=>?_)
     .have c10:=bF c10;have e2:updR n o y=y:=by unfold updR;rw[if_neg (fun hc=>by rw[c10] at hc;cases hc.2)]
      refine hnext (sl3:=sl2) (q:=[]) ?_ (by decide) ?_
      .unfold limC;rw[if_neg (fun hc=>by rw[c10] at hc;cases hc.2.1)];rfl
      .rw[Yw,take_snoc gy,Ym,Yz,List.map_singleton,e2,List.singleton_append,<-drop_get gy];exact hs
     have c10:=bT c10;refine⟨_,hs.rd 0 rfl rfl,?_⟩;have e2:updR n o y={ y with ag:=o.ag }:=by unfold updR;rw[if_pos ⟨c9,c10⟩]
     refine wr 5 { y with ag:=o.ag } [.bool o.ag] rfl (show 6<=6 by decide) rfl fun h134 hs=>?_;rw[Ys,set_split (f:=updR n o) gy e2] at hs;have hat:=(hs.rows 5 (s:=ars) (cs:=Mv.cs) rfl (by omega)).atI ha127 (get_split2 (f:=updR n o) gy);rw[e2] at hat;refine⟨_,hs.rd 0 rfl rfl,?_⟩;have hno:¬(o.k>0/\o.x=⟨true,y.peer,y.label⟩)->limC n o (y,i)=([]:List To)[0]?:=fun hc=>by unfold limC;rw[if_neg (fun h=>hc ⟨h.2.2.1,h.2.2.2⟩)];rfl
     refine sBi (fun c11=>?_) (fun c11=>?_)
     .refine⟨_,_,_,hs.at 0 rfl (o:=2) (n:=3) rfl,_,hat.nth 2 rfl,_,hat.nth 3 rfl,?_⟩;refine sB_intro (fun c12=>?_) (fun c12=>?_)
      .have c12:=Yyn ((ev_eqb o.x ⟨true,y.peer,y.label⟩).symm.trans c12);refine⟨_,hs.rd 1 rfl rfl,_,hs.rd 0 rfl rfl,?_⟩;refine hs.app 6 rfl app25 (m:=1) [To.cs ⟨n,o.k,i⟩] rfl rfl (fun r hr=>by rw[Ye] at hr;rw[hr];rfl) rfl (by omega) (by simp only[maxLen];omega) fun s144 h145 ns hs=>?_;refine hs.put 1 rfl (o:=5) (vs:=[.slice s144.a s144.n s144.c]) rfl (show 6<=6 by decide) fun h146 hs=>?_;refine hnext (sl3:=s144) (q:=[⟨n,o.k,i⟩]) ?_ (by show 1<=1;decide) ?_
       .unfold limC;rw[if_pos ⟨c9,c10,c11,c12⟩];rfl
       .unfold rwL;rw[Ym (l₁:=L++limR n o (M'.take i))];exact hs
      .have c12:=Yyo ((ev_eqb o.x ⟨true,y.peer,y.label⟩).symm.trans c12);refine hnext (sl3:=sl2) (q:=[]) (hno fun hc=>c12 hc.2) (by decide) ?_;rw[Yw];exact hs
     .refine hnext (sl3:=sl2) (q:=[]) (hno fun hc=>c11 hc.1) (by decide) ?_;rw[Yw];exact hs
    .have hi2:i=M'.length:=by omega
     subst hi2;rw[Yye,List.drop_length,Yw] at hs;refine⟨_,by omega,n+1,sl2,M'.map (updR n o),L++limR n o M',by rw[w64 (by omega) (by omega)];omega,rfl,by omega,hs.drop 1,by rw[Yc];exact hM',by rw[Yh];have:=limR_len n o M';omega,hst⟩
  .have hn2:n=E.length:=by omega
   subst hn2;rw[List.drop_length] at hst;replace hst:rawL (vwG g role) 0 (E.map (·.p)) M []=some (M',L):=hst;refine⟨_,_,_,fs,ars,sl,hs.at 0 rfl (n:=6) rfl,?_⟩;refine hs.put 6 rfl (o:=0) (vs:=[.int .i64 role,.int .i64 (ss.n:Nat),.int .i64 0,.slice fs.a fs.n fs.c,.slice ars.a ars.n ars.c,.slice sl.a sl.n sl.c]) rfl (show 6<=6 by decide) fun h157 hs=>?_;refine⟨_,_,_,fs,ars,sl,hs.at 6 rfl (n:=6) rfl,hs.ext,?_⟩;have hfin:(E.map (·.p)).map (fun p=>p g.e.toNat)=E.map fun e:SE=>e.p g.e.toNat:=by rw[List.map_map];rfl
   have hm:raw g role=(some ⟨role,ss.n,0,E.map fun e:SE=>e.p g.e.toNat,M',L⟩,0):=by rw[hraw,hst,hsl,<-hfin,Yc]
   exact .ok (m:=⟨role,ss.n,0,E.map fun e:SE=>e.p g.e.toNat,M',L⟩) hm ((hs.drop 3).sub (List.sublist_append_left [_,_,_] _))
end Go.VC
end

section
namespace Go.VC
open Go.Proofs Go.Maps
theorem kl_int {P:Program} {d t:Nat} {q:IntKind} {n:Int} (hu:P.underlying t=some (.int q)) (hw:(Lit.int q n).wf=true):P.keyLits (d+1) t [.int q n]=some [.int q n]:=by simp[Program.keyLits,hu,hw]
theorem kl_bool {P:Program} {d t:Nat} {b:Bool} (hu:P.underlying t=some .bool):P.keyLits (d+1) t [.bool b]=some [.bool b]:=by simp[Program.keyLits,hu]
theorem kl_struct {P : Program} {d t : Nat} {fs : Array Field} {cs : List Value} (hu : P.underlying t = some (.struct fs)) (hl : cs.length = P.cellsOf t) (hn : fs.all (·.name != "_") = true) {l : List (TypeId × Nat)} (hf : fs.toList.map (fun f => (f.type, f.offset)) = l)
  {r:List (List Lit)} (hr:l.mapM (fun q=>P.keyLits d q.1 ((cs.drop q.2).take (P.cellsOf q.1)))=some r):P.keyLits (d+1) t cs=some r.flatten:=by
 have e:fs.toList.mapM (fun f=>P.keyLits d f.type ((cs.drop f.offset).take (P.cellsOf f.type)))=some r:=by
  rw[<-hr,<-hf,List.mapM_map];rfl
 unfold Program.keyLits;simp only[hu];rw[if_pos ⟨hl,hn⟩,e];rfl
def inR (n:Int):Prop:=-9223372036854775808<=n/\n<=9223372036854775807
theorem inR.wf {n:Int} (h:inR n):(Lit.int .i64 n).wf=true:=by
 unfold Lit.wf;simp only[Yt,decide_eq_true_eq];have e1:IntKind.i64.min=-9223372036854775808:=by decide
 have e2:IntKind.i64.max=9223372036854775807:=by decide
 rw[e1,e2];exact h
theorem u3:Pz.underlying 3=some (.int .i64):=by kernel_rfl
theorem u4:Pz.underlying 4=some .bool:=by kernel_rfl
theorem su {P : Program} {t : Nat} {l : List (TypeId × Nat)} (h : (match P.underlying t with | some (.struct fs) => decide (fs.toList.map (fun f => (f.type, f.offset)) = l) && fs.all (·.name != "_") | _ => false) = true) :
  ∃ fs, P.underlying t = some (.struct fs) /\ fs.all (·.name != "_") = true /\ fs.toList.map (fun f => (f.type, f.offset)) = l := by
 split at h
 .rename_i fs hu;simp only[Yt,decide_eq_true_eq] at h;exact⟨fs,hu,h.2,h.1⟩
 .cases h
theorem s91 : ∃ fs, Pz.underlying 117 = some (.struct fs) /\ fs.all (·.name != "_") = true /\ fs.toList.map (fun f => (f.type, f.offset)) = [(4, 0), (3, 1), (3, 2)] := su (by kernel_rfl)
theorem s212 : ∃ fs, Pz.underlying 217 = some (.struct fs) /\ fs.all (·.name != "_") = true /\ fs.toList.map (fun f => (f.type, f.offset)) = [(3, 0), (3, 1), (117, 2), (4, 5), (3, 6)] := su (by kernel_rfl)
theorem c3:Pz.cellsOf 3=1:=by kernel_rfl
theorem c4:Pz.cellsOf 4=1:=by kernel_rfl
theorem c91:Pz.cellsOf 117=3:=by kernel_rfl
theorem c212:Pz.cellsOf 217=7:=by kernel_rfl
def kokS (s:Sg):Prop:=inR s.b/\inR s.k/\inR s.x.peer/\inR s.x.label/\inR s.num
theorem lits_ev (x:Ev) (h1:inR x.peer) (h2:inR x.label) (d:Nat):∃r,Pz.keyLits (d+2) 117 x.cs=some r:=by
 obtain⟨fs,hu,hn,hf⟩:=s91;refine⟨_,kl_struct hu (by rw[c91];rfl) hn hf (r:=[[.bool x.send],[.int .i64 x.peer],[.int .i64 x.label]]) ?_⟩;simp only[List.mapM_cons,List.mapM_nil,c3,c4,Ev.cs,List.drop_zero,List.take_succ_cons,Yyk,List.drop_succ_cons,kl_bool u4,kl_int u3 h1.wf,kl_int u3 h2.wf];rfl
theorem key_sg (s:Sg) (h:kokS s):∃l,keyOf Pz 217 s.v=some l:=by
 obtain⟨fs,hu,hn,hf⟩:=s212;obtain⟨h1,h2,h3,h4,h5⟩:=h;have hsz:∃n,Pz.types.size+1=n+3:=⟨343,by kernel_rfl⟩;obtain⟨n,hsz⟩:=hsz;obtain⟨r,hr⟩:=lits_ev s.x h3 h4 n;have hl:Pz.keyLits (n+3) 217 [.int .i64 s.b,.int .i64 s.k,.bool s.x.send,.int .i64 s.x.peer,.int .i64 s.x.label,.bool s.ag,.int .i64 s.num]=some [[.int .i64 s.b],[.int .i64 s.k],r,[.bool s.ag],[.int .i64 s.num]].flatten:=by
  refine kl_struct hu (by rw[c212];rfl) hn hf ?_;simp only[List.mapM_cons,List.mapM_nil,c3,c4,c91,List.drop_zero,List.take_succ_cons,Yyk,List.drop_succ_cons,kl_bool u4,kl_int u3 h1.wf,kl_int u3 h2.wf,kl_int u3 h5.wf];unfold Ev.cs at hr;rw[hr];rfl
 have hkt:Pz.keyType 217=true:=by kernel_rfl
 have hfo:s.v.formed Pz 217=true:=by
  unfold Sg.v Value.formed;simp only[hu,c212];rfl
 have e:keyOf Pz 217 s.v=(Pz.keyLits (n+3) 217 [.int .i64 s.b,.int .i64 s.k,.bool s.x.send,.int .i64 s.x.peer,.int .i64 s.x.label,.bool s.ag,.int .i64 s.num]).map fun ls=>.string (keyBytes ls):=by
  unfold keyOf;simp only[hu,hkt,hfo,Bool.and_self,if_true,hsz];rfl
 rw[e,hl];exact⟨_,rfl⟩
theorem laid25:laidOutB Pz=true:=by kernel_rfl
def iv (n:Int):Value:=.int .i64 n
theorem M210:MT Pz 215 217 3 Sg.v kokS (.int .i64 0) where
 K:=Keyed.of_law (deep_law_laid laid25 (m:=3) (by omega) (Yyn (by kernel_rfl)) (by kernel_rfl) (by kernel_rfl))
 ht:=by kernel_rfl
 key:=key_sg
 inj:=Sg.v_inj
 z:=fun w=>by kernel_rfl
theorem key_int (n:Int) (h:inR n):∃l,keyOf Pz 3 (iv n)=some l:=⟨_,keyOf_int_mk u3 h.wf⟩
theorem iv_inj (a b:Int) (h:iv a=iv b):a=b:=by unfold iv at h;simpa using h
theorem M215:MT Pz 195 3 3 iv inR (.int .i64 0) where
 K:=int_keyed u3
 ht:=by kernel_rfl
 key:=key_int
 inj:=iv_inj
 z:=fun w=>by kernel_rfl
theorem M140:MT Pz 162 3 44 iv inR (.agg ⟨[.int .i64 0,.int .i64 0,.int .i64 0]⟩) where
 K:=int_keyed u3
 ht:=by kernel_rfl
 key:=key_int
 inj:=iv_inj
 z:=fun w=>by kernel_rfl
end Go.VC
end

section

end

section
namespace Go.VC
open Go.Proofs Go.LexS
theorem mvrows (L:List Mv):∀r∈L.map Mv.cs,r.length=6:=fun r hr=>by obtain⟨x,_,rfl⟩:=Yp.1 hr;rfl
theorem mv1 (x:Mv):x.cs.all oneB=true:=rfl
theorem flat_oneB {α:Type} {cs:α->List Value} (h:∀x,(cs x).all oneB=true):∀L:List α,(L.map cs).flatten.all oneB=true
 | []=>rfl
 | a::L=>by rw[Yyl,Yyu,List.all_append,h a,flat_oneB h L];rfl
theorem clone125 (L:List Mv) (s:Sl) (h:Heap) (hr:Rw h 6 s (L.map Mv.cs)) (hn0:s.a=none->s.n=0/\s.c=0) (hm:L.length<=1048576) :
  Fn Pz 162 #[.slice s.a s.n s.c] h fun v h'=>∃r:Sl,v=.slice r.a r.n r.c/\St h h' [.sl r 81 6 (L.map Mv.cs)]:=by
 apply vc162;unfold W162;have hs:=St.refl h;have hn:=hr.ln;refine sB_intro (fun c1=>?_) (fun c1=>?_)
 .have:L=[]:=by
   have:=hn0 (Option.isNone_iff_eq_none.1 c1);exact List.length_eq_zero_iff.1 (by omega)
  subst this;exact⟨⟨none,0,0⟩,rfl,hs.nil_ 81 6⟩
 .refine hs.newb fun h1 hs=>?_;have hs:=hs.blkS 0 6 [] rfl (by simp) rfl (by decide);refine hs.appRw 0 rfl app31 (y:=s) (hr.ext hs.ext) (mvrows L) hn0 (flat_oneB mv1 L) (by show (0+s.n)*48<=_;omega) (by show 0+s.n<=_;simp only[maxLen];omega) fun r h3 _ hs=>?_;exact⟨r,rfl,hs⟩
def Nv (N:List (Sg × Int)):List (Value × Value):=N.map fun q=>(q.1.v,iv q.2)
theorem next126 {h0 h:Heap} {L:List It} (hs:St h0 h L) (k1 k2:Nat) {nb b mb:Nat} {n:Int} {N:List (Sg × Int)} (hk1:L[k1]?=some (.blk nb [.map (some b)] 215)) (hk2:L[k2]?=some (.mp b (Nv N))) (hn:hc h ⟨mb,1,none⟩=some (.int .i64 n)) (hn0:0<=n/\n<=200)
  (hN:NOk n N) (hok:∀q∈N,kokS q.1) (s:Sg) (hsk:kokS s) (hl:N.length<=1048576) :
  Fn Pz 163 #[s.v,.pointer (some ⟨nb,0,none⟩),.pointer (some ⟨mb,0,none⟩)] h fun v h'=>v=.int .i64 (nextF n N s).1/\St h0 h' (L.set k2 (.mp b (Nv (nextF n N s).2))):=by
 apply vc163 s.b s.k s.x.send s.x.peer s.x.label s.ag s.num;unfold W163;refine hs.newbE fun h8 E8 hs=>?_;refine⟨_,hs.rd (k1+1) hk1 rfl,?_⟩;refine⟨_,_,_,_,_,_,_,hs.at 0 rfl (n:=7) rfl,?_⟩;refine hs.mlook (ck:=Sg.v) (cv:=iv) M210 (k2+1) (l:=N) hk2 hok hN.nd (a:=s) hsk true ?_;unfold nextF;cases hg:mget N s with
 | some v=>
  refine⟨v,true,rfl,?_⟩;refine sB_f rfl ?_;refine⟨rfl,?_⟩;have e:L.set k2 (.mp b (Nv N))=L:=by
   apply Yyr;intro m;by_cases hm:k2=m
   .subst hm;rw[Yq (Ya.1 hk2).1,hk2]
   .rw[Yy hm]
  show St h0 h8 (L.set k2 (.mp b (Nv N)));rw[e];exact hs.drop 1
 | none=>
  refine⟨0,false,rfl,?_⟩;refine sB_t rfl ?_;refine⟨_,hs.rd (k1+1) hk1 rfl,?_⟩;refine hs.mlen (ck:=Sg.v) (cv:=iv) M210 (k2+1) (l:=N) hk2 ?_;refine⟨_,rfl,n,hc_ext E8 hn,_,hs.rd (k1+1) hk1 rfl,_,_,_,_,_,_,_,hs.at 0 rfl (n:=7) rfl,?_⟩;have ew:IntKind.wrap .i64 (IntKind.wrap .i64 ((N.length:Int)+n)+2)=(N.length:Int)+n+2:=by rw[w64 (n:=(N.length:Int)+n) (by omega) (by omega),w64 (by omega) (by omega)]
  rw[ew];refine hs.mput (ck:=Sg.v) (cv:=iv) M210 (k2+1) (l:=N) hk2 hok hN.nd (a:=s) hsk ((N.length:Int)+n+2) fun h34 hs=>?_;rw[mset_none (mget_not hg)] at hs;exact⟨rfl,hs.drop 1⟩
structure MI (h:Heap) (m:Mch) (sf sm sl:Sl):Prop where
 pf:RL h 1 sf bC m.fin
 pm:RL h 6 sm Mv.cs m.mv
 pl:RL h 3 sl To.cs m.li
theorem MI.ext {h h':Heap} {m:Mch} {sf sm sl:Sl} (hm:MI h m sf sm sl) (E:Ext h h'):MI h' m sf sm sl:=⟨hm.pf.ext E,hm.pm.ext E,hm.pl.ext E⟩
def natV (c:Nat):Value:=.int .i64 (c:Int)
theorem made3n (n:Nat):madeL Pz 3 n=(List.replicate n 0).map natV:=by
 have e:zeroC Pz 3=[.int .i64 0]:=by kernel_rfl
 unfold madeL;rw[e,List.map_replicate]
 induction n with
 | zero=>rfl
 | succ n ih=>rw[List.replicate_succ,List.replicate_succ,Yyu,ih];rfl
theorem made3i (n:Nat):madeL Pz 3 n=(List.replicate n (0:Int)).map iv:=by
 rw[made3n,List.map_replicate,List.map_replicate];rfl
def HsA (N:List (Sg × Int)) (A:List Int) (n:Nat) (H:Nat->List Sg):Prop:=∀s,s<n->∃v,A[s]?=some v/\HsN N v (H s)
theorem HsA.step {n:Nat} {N:List (Sg × Int)} {A:List Int} {H H':Nat->List Sg} (hA:HsA N A n H) (hN:NOk n N) (hAl:A.length=n) {s0:Nat} (hs0:s0<n) {v0:Int} (hv0:A[s0]?=some v0) (sg:Sg) (hb:sg.b=v0) (hk:sg.k≠0) (sg0:Sg) (hsg0:({ sg with b:=0 }:Sg)=sg0)
  (hH:∀s:Nat,H' s=if s=s0 then sg0::H s else H s):HsA (nextF n N sg).2 (A.set s0 (nextF n N sg).1) n H':=by
 obtain⟨h1,h2,h3,_,_⟩:=nextF_spec hN sg;intro s hs;obtain⟨v,hv,hh⟩:=hA s hs;rw[hH];by_cases e:s=s0
 .subst e;rw[hv0] at hv;cases hv;rw[if_pos rfl,<-hsg0];exact⟨_,Yq (by omega),.step h3 hk (by rw[hb];exact hh.mono h2)⟩
 .rw[if_neg e];exact⟨v,by rw[Yy (fun h=>e h.symm)];exact hv,hh.mono h2⟩
def clL (ab nb mb cb gb:Nat) (m:Mch) (sf sm sl x10:Sl) (N:List (Sg × Int)) (A:List Int) (C:List Nat):List It:=
 [.blk ab (A.map iv) 3,.blk nb [.map (some mb)] 215,.mp mb (Nv N),.blk cb (C.map natV) 3,.sl x10 81 6 (m.mv.map Mv.cs),.blk gb (mC m sf sm sl) 26]
theorem getD_some {α:Type} {l:List α} {i:Nat} {d x:α} (h:l[i]?=some x):l.getD i d=x:=by rw[Yo,h];rfl
theorem HsN.bound {n:Int} {N:List (Sg × Int)} (hN:NOk n N) {v:Int} {l:List Sg} (h:HsN N v l):n+2<=v/\v<(N.length:Int)+n+2:=by
 cases h with
 | base hm _=>exact hN.bound hm
 | step hm _ _=>exact hN.bound hm
theorem class_step {A:List Int} {C:List Nat} {i:Nat} {a:Int} (ha:A[i]?=some a) (hC:C.length=A.length):((A.take i).map (idxF (dedF (A.take i)))++C.drop i).set i (idxF (dedF (A.take (i+1))) a)=(A.take (i+1)).map (idxF (dedF (A.take (i+1))))++C.drop (i+1):=by
 obtain⟨h1,h2⟩:=Ya.1 ha;have hl:((A.take i).map (idxF (dedF (A.take i)))).length=i:=by rw[Yc,Yu];omega
 have hm:(A.take i).map (idxF (dedF (A.take i)))=(A.take i).map (idxF (dedF (A.take (i+1)))):=by
  apply List.map_congr_left;intro x hx;have hx':=(dedF_mem _ _).2 hx;rw[dedF_take ha];split
  .rfl
  .rw[idxF_mem hx']
 rw[List.drop_eq_getElem_cons (by omega:i<C.length),List.set_append_right _ _ (by omega),hl,Nat.sub_self,List.set_cons_zero,hm];generalize idxF (dedF (A.take (i+1)))=F;rw[take_snoc ha,Ym,Yz];rfl
theorem inR0:inR 0:=⟨by decide,by decide⟩
theorem inR1:inR 1:=⟨by decide,by decide⟩
theorem inR2:inR 2:=⟨by decide,by decide⟩
theorem inRn {n:Int} (h0:0<=n) (h1:n<=1000000000):inR n:=⟨by omega,by omega⟩
theorem natflat (L:List Nat):L.map natV=((L.map fun c:Nat=>(c:Int)).map inC).flatten:=by
 induction L with
 | nil=>rfl
 | cons a L ih=>rw[Yyl,Yyl,Yyl,Yyu,<-ih];rfl
def Fv (F:List (Int × Int)):List (Value × Value):=F.map fun q=>(iv q.1,iv q.2)
theorem classes71 (m:Mch) (sf sm sl:Sl) (h:Heap) (hM:MI h m sf sm sl) (hO:MOk m) (hS:m.mv.Pairwise mvLt) :
  Fn Pz 113 #[.agg ⟨mC m sf sm sl⟩] h fun v h'=>∃sc:Sl,v=.tuple ⟨[.slice sc.a sc.n sc.c,.int .i64 ((cls m).2:Nat)]⟩/\St h h' [.sl sc 3 1 (((cls m).1.map fun c:Nat=>(c:Int)).map inC)]:=by
 apply vc113 m.role m.n m.s sf sm sl;unfold W113 V113b V113a;have hs:=St.refl h;have hn:=hO.n;have hfl:=hO.fl;have hml:=hO.ml;have hll:=hO.ll;have hMl:=hM.pl.ln;have hMf:=hM.pf.ln;have hMm:=hM.pm.ln;refine hs.newb fun h7 hs=>?_;refine⟨sm,hs.rd 0 rfl rfl,?_⟩;refine (clone125 m.mv sm h7 (hM.pm.ext hs.ext).rw hM.pm.nil (by omega)).mono ?_;rintro _ h11 ⟨x10,rfl,hsc⟩;have hs:=(hs.join hsc).perm (List.perm_append_comm (l₁:=[_]) (l₂:=[_]));refine⟨x10,rfl,?_⟩;refine (sort72 hs 0 rfl (by omega)).mono ?_;rintro _ h13 ⟨rfl,l',hp,hso,hs⟩;have hle:=mvSorted_same hp hS hso;subst hle;refine⟨rfl,?_⟩;refine⟨_,hs.rd 1 rfl rfl,by omega,?_⟩;rw[made3n];refine hs.newb fun h15 hs=>?_;have hx10:=(hs.rows 1 (s:=x10) (cs:=Mv.cs) rfl (by omega)).ln;have hsz13:h13.size<h15.size:=hs.get (k:=0) rfl |>.lt rfl
 refine⟨fun count h' μ=>∃(C:List Nat) (c f:Nat),count=(c:Int)/\μ=201-c/\c<=200/\202<=f+c/\C.length=m.n.toNat/\(∀x∈C,x<=200)/\(c=0\/(dedF C).length=c)/\cls m=clsN m f C c/\St h h' [.blk h13.size (C.map natV) 3,.sl x10 81 6 (m.mv.map Mv.cs),.blk h.size (mC m sf sm sl) 26],
  ⟨_,List.replicate m.n.toNat 0,0,202,rfl,rfl,by omega,by omega,Yg,fun x hx=>(by rw[List.mem_replicate] at hx;omega),.inl rfl,rfl,hs⟩,?_⟩
 clear hs;rintro-_ h20 μ ⟨C,c,f,rfl,rfl,hc,hf,hCl,hCb,hcd,hcls,hs⟩;refine hs.mmake 215 fun h23 E23 hs=>?_;refine⟨_,rfl,?_⟩;refine hs.newput (vs:=[.map (some h20.size)]) rfl rfl fun h25 hs=>?_;refine⟨_,hs.rd 4 rfl rfl,by omega,?_⟩;rw[made3i];refine hs.newb fun h27 hs=>?_;have hs:St h h27 (clL h25.size h23.size h20.size h13.size h.size m sf sm sl x10 [] (List.replicate m.n.toNat 0) C):=hs;refine⟨fun x h' μ=>∃(i:Nat) (N:List (Sg × Int)) (A:List Int),x=i/\μ=m.n.toNat-i/\i<=m.n.toNat/\St h h' (clL h25.size h23.size h20.size h13.size h.size m sf sm sl x10 N A C)/\NOk m.n.toNat N/\(∀q∈N,kokS q.1)/\N.length<=i/\A.length=m.n.toNat/\HsA N A i (keyH m C [] []),
  ⟨_,0,[],_,rfl,rfl,by omega,hs,.nil _,fun q hq=>(by cases hq),by decide,Yg,fun s hs=>(by omega)⟩,?_⟩
 clear hs;rintro-_ h32 μ ⟨i,N,A,rfl,rfl,hi,hs,hN,hok,hNl,hAl,hA⟩;refine sBi (fun c1=>?_) (fun c1=>?_)
 .obtain⟨ci,hci⟩:=get_some (l:=C) (i:=i) (by omega);have hcid:C.getD i 0=ci:=getD_some hci;refine⟨⟨by omega,by omega⟩,?_⟩;rw[show 0+Int.toNat (i:Int)*1=i by omega];refine⟨_,hs.rd 3 rfl (by rw[Yd,hci];rfl),sf,hs.rd 5 rfl rfl,?_⟩;refine (hM.pf.ext hs.ext).rw.nbI (by omega) (by omega) fun b35 o36 bf g35 t35=>?_;replace g35:m.fin[i]?=some bf:=g35;refine⟨_,t35.hd,?_⟩;have hsg:sgB C m.fin i=⟨(ci:Int),0,ev0,bf,0⟩:=by unfold sgB;rw[hcid,getD_some g35]
  have hcb:ci<=200:=hCb ci (Yb hci);have hkk:kokS ⟨(ci:Int),0,ev0,bf,0⟩:=⟨inRn (n:=(ci:Int)) (by omega) (by omega),inR0,inR0,inR0,inR0⟩;refine Fn.mono (next126 hs 1 2 (mb:=h.size) (n:=((m.n.toNat:Nat):Int)) rfl rfl (by rw[show ((m.n.toNat:Nat):Int)=m.n by omega];exact hs.rd 5 rfl rfl) (by omega) hN hok ⟨(ci:Int),0,ev0,bf,0⟩ hkk (by omega)) ?_;rintro _ h40 ⟨rfl,hs⟩;refine⟨_,rfl,⟨by omega,by omega⟩,?_⟩;rw[<-hsg] at hs hkk ⊢;obtain⟨e1,e2,e3,e4,e5⟩:=nextF_spec hN (sgB C m.fin i);refine hs.put 0 rfl (o:=i) (vs:=[iv (nextF m.n.toNat N (sgB C m.fin i)).1]) rfl (by rw[Yc,Yv];omega) fun h41 hs=>?_;rw[map_splice iv (by omega)] at hs;refine⟨_,by omega,i+1,_,_,by rw[w64 (by omega) (by omega)];omega,rfl,by omega,hs,e1,fun q hq=>?_,by omega,by rw[Yyh];exact hAl,fun s hs'=>?_⟩
  .rcases e5 q hq with h | h
   .exact hok q h
   .rw[h];exact hkk
  .by_cases e:s=i
   .subst e;exact⟨_,Yq (by omega),.base e3 rfl⟩
   .obtain⟨v,hv,hh⟩:=hA s (by omega);exact⟨v,by rw[Yy (fun h=>e h.symm)];exact hv,hh.mono e2⟩
 have hin:i=m.n.toNat:=by omega
 subst hin;refine⟨sl,hs.rd 5 rfl rfl,?_⟩;refine⟨fun x h' μ=>∃(j:Nat) (N:List (Sg × Int)) (A:List Int),x=j/\μ=m.li.length-j/\j<=m.li.length/\St h h' (clL h25.size h23.size h20.size h13.size h.size m sf sm sl x10 N A C)/\NOk m.n.toNat N/\(∀q∈N,kokS q.1)/\N.length<=m.n.toNat+j/\A.length=m.n.toNat/\HsA N A m.n.toNat (keyH m C (m.li.take j) []),
  ⟨_,0,N,A,rfl,rfl,by omega,hs,hN,hok,hNl,hAl,hA⟩,?_⟩
 clear hs hN hok hNl hAl hA hi c1;rintro-_ h48 μ ⟨j,N,A,rfl,rfl,hj,hs,hN,hok,hNl,hAl,hA⟩;refine sBi (fun c1=>?_) (fun c1=>?_)
 .refine (hM.pl.ext hs.ext).rw.nbI (by omega) (by omega) fun b49 o50 t g49 t49=>?_;replace g49:m.li[j]?=some t:=g49;obtain⟨ht1,ht2,ht3,ht4,ht5⟩:=hO.li t (Yb g49);refine⟨_,_,_,t49,?_⟩;refine hs.newput (vs:=t.cs) rfl rfl fun h55 hs=>?_;refine⟨sm,hs.rd 6 rfl rfl,_,hs.rd 0 rfl rfl,?_⟩;refine (hM.pm.ext hs.ext).rw.nbI (by omega) (by omega) fun b58 o59 y g58 t58=>?_;obtain⟨_,_,_,_,hy1,hy2⟩:=hO.mv y (Yb g58);refine⟨_,_,_,_,_,_,t58,?_⟩;refine hs.newput (vs:=y.cs) rfl rfl fun h67 hs=>?_;refine⟨_,hs.rd 1 rfl rfl,_,hs.rd 1 rfl rfl,⟨by omega,by omega⟩,?_⟩;obtain⟨v,hv,hh⟩:=hA t.s.toNat (by omega);have hvb:=hh.bound hN;rw[show 0+Int.toNat t.s*1=t.s.toNat by omega];refine⟨v,hs.rd 2 rfl (by rw[Yd,hv];rfl),_,hs.rd 0 rfl rfl,_,hs.rd 0 rfl rfl,_,hs.rd 0 rfl rfl,_,hs.rd 1 rfl rfl,?_⟩;have hkk:kokS ⟨v,1,y.ev,false,t.k⟩:=⟨inRn (n:=v) (by omega) (by omega),inR1,hy1,hy2,ht5⟩;refine Fn.mono (next126 hs 3 4 (mb:=h.size) (n:=((m.n.toNat:Nat):Int)) rfl rfl (by rw[show ((m.n.toNat:Nat):Int)=m.n by omega];exact hs.rd 7 rfl rfl) (by omega) hN hok ⟨v,1,y.ev,false,t.k⟩ hkk (by omega)) ?_;rintro _ h77 ⟨rfl,hs2⟩;refine⟨_,rfl,sm_cons (hs.same hs2 1 1 rfl rfl) sm_nil,⟨by omega,by omega⟩,?_⟩;obtain⟨e1,e2,e3,e4,e5⟩:=nextF_spec hN ⟨v,1,y.ev,false,t.k⟩;refine hs2.put 2 rfl (o:=t.s.toNat) (vs:=[iv (nextF m.n.toNat N ⟨v,1,y.ev,false,t.k⟩).1]) rfl (by rw[Yc,Yv];omega) fun h78 hs=>?_;rw[map_splice iv (by omega)] at hs;refine⟨_,by omega,j+1,_,_,by rw[w64 (by omega) (by omega)];omega,rfl,by omega,hs.drop 2,e1,fun q hq=>?_,by omega,by rw[Yyh];exact hAl,?_⟩
  .rcases e5 q hq with h | h
   .exact hok q h
   .rw[h];exact hkk
  .refine hA.step hN hAl (by omega) hv _ rfl (show (1:Int)≠0 by decide) (sgL m.mv t) ?_ fun s=>?_
   .unfold sgL;rw[g58]
   .rw[keyH_li g49];by_cases e:t.s=(s:Int)
    .rw[if_pos e,if_pos (by omega)]
    .rw[if_neg e,if_neg (by omega)]
 have hjn:j=m.li.length:=by omega
 subst hjn;rw[Yye] at hA;refine⟨fun x h' μ=>∃(j:Nat) (N:List (Sg × Int)) (A:List Int),x=j/\μ=m.mv.length-j/\j<=m.mv.length/\St h h' (clL h25.size h23.size h20.size h13.size h.size m sf sm sl x10 N A C)/\NOk m.n.toNat N/\(∀q∈N,kokS q.1)/\N.length<=m.n.toNat+m.li.length+j/\A.length=m.n.toNat/\HsA N A m.n.toNat (keyH m C m.li (m.mv.take j)),
  ⟨_,0,N,A,rfl,rfl,by omega,hs,hN,hok,hNl,hAl,hA⟩,?_⟩
 clear hs hN hok hNl hAl hA hj c1;rintro-_ h84 μ ⟨j,N,A,rfl,rfl,hj,hs,hN,hok,hNl,hAl,hA⟩;refine sBi (fun c1=>?_) (fun c1=>?_)
 .refine (hs.rows 4 (s:=x10) (cs:=Mv.cs) rfl (by omega)).nbI (by omega) (by omega) fun b85 o86 x g85 t85=>?_;replace g85:m.mv[j]?=some x:=g85;obtain⟨hx1,hx2,hx3,hx4,hx5,hx6⟩:=hO.mv x (Yb g85);refine⟨_,_,_,_,_,_,t85,?_⟩;refine hs.newput (vs:=x.cs) rfl rfl fun h94 hs=>?_;refine⟨_,hs.rd 0 rfl rfl,_,hs.rd 0 rfl rfl,⟨by omega,by omega⟩,?_⟩;obtain⟨v,hv,hh⟩:=hA x.f.toNat (by omega);have hvb:=hh.bound hN;obtain⟨ct,hct⟩:=get_some (l:=C) (i:=x.t.toNat) (by omega);have hcb:ct<=200:=hCb ct (Yb hct);rw[show 0+Int.toNat x.f*1=x.f.toNat by omega];refine⟨v,hs.rd 1 rfl (by rw[Yd,hv];rfl),_,hs.rd 0 rfl rfl,_,hs.rd 0 rfl rfl,_,hs.rd 0 rfl rfl,_,hs.rd 0 rfl rfl,_,hs.rd 0 rfl rfl,⟨by omega,by omega⟩,?_⟩;rw[show 0+Int.toNat x.t*1=x.t.toNat by omega];refine⟨_,hs.rd 4 rfl (by rw[Yd,hct];rfl),?_⟩;have hkk:kokS ⟨v,2,x.ev,x.ag,(ct:Int)⟩:=⟨inRn (n:=v) (by omega) (by omega),inR2,hx5,hx6,inRn (n:=(ct:Int)) (by omega) (by omega)⟩;refine Fn.mono (next126 hs 2 3 (mb:=h.size) (n:=((m.n.toNat:Nat):Int)) rfl rfl (by rw[show ((m.n.toNat:Nat):Int)=m.n by omega];exact hs.rd 6 rfl rfl) (by omega) hN hok ⟨v,2,x.ev,x.ag,(ct:Int)⟩ hkk (by omega)) ?_;rintro _ h106 ⟨rfl,hs2⟩;refine⟨_,rfl,sm_cons (hs.same hs2 0 0 rfl rfl) sm_nil,⟨by omega,by omega⟩,?_⟩;obtain⟨e1,e2,e3,e4,e5⟩:=nextF_spec hN ⟨v,2,x.ev,x.ag,(ct:Int)⟩;refine hs2.put 1 rfl (o:=x.f.toNat) (vs:=[iv (nextF m.n.toNat N ⟨v,2,x.ev,x.ag,(ct:Int)⟩).1]) rfl (by rw[Yc,Yv];omega) fun h78 hs=>?_;rw[map_splice iv (by omega)] at hs;refine⟨_,by omega,j+1,_,_,by rw[w64 (by omega) (by omega)];omega,rfl,by omega,hs.drop 1,e1,fun q hq=>?_,by omega,by rw[Yyh];exact hAl,?_⟩
  .rcases e5 q hq with h | h
   .exact hok q h
   .rw[h];exact hkk
  .refine hA.step hN hAl (by omega) hv _ rfl (show (2:Int)≠0 by decide) (sgM C x) ?_ fun s=>?_
   .unfold sgM;rw[getD_some hct]
   .rw[keyH_mv g85];by_cases e:x.f=(s:Int)
    .rw[if_pos e,if_pos (by omega)]
    .rw[if_neg e,if_neg (by omega)]
 have hjn:j=m.mv.length:=by omega
 subst hjn;rw[Yye] at hA;have hpat:canonL A=canonL (clsK m C)/\(dedF A).length=(dedF (clsK m C)).length:=by
  refine canon_eq (by rw[clsK_len,hAl]) fun i j a b a' b' h1 h2 h3 h4=>?_;have hi:=(Ya.1 h1).1;have hj:=(Ya.1 h2).1;obtain⟨v,hv,hh⟩:=hA i (by omega);obtain⟨v',hv',hh'⟩:=hA j (by omega);rw[h1] at hv;cases hv;rw[h2] at hv';cases hv';unfold clsK at h3 h4;rw[Yd,Yyb (by omega)] at h3 h4;cases h3;cases h4;constructor
  .intro e;subst e;exact HsN.func hN hh hh'
  .intro e;exact HsN.inj hN hh (by rw[show keyH m C m.li m.mv i=_ from e];exact hh')
 have hAr:∀a∈A,inR a:=fun a ha=>by
  obtain⟨i,hi⟩:=Yf.1 ha;have:=(Ya.1 hi).1;obtain⟨v,hv,hh⟩:=hA i (by omega);rw[hi] at hv;cases hv;have:=hh.bound hN;exact⟨by omega,by omega⟩
 have hge:=clsK_ge hCl;have hle:=dedF_len_le (clsK m C);rw[clsK_len] at hle;refine hs.mmake 195 fun h111 E111 hs=>?_;refine⟨_,rfl,?_⟩;refine⟨fun x h' μ=>∃i:Nat,x=i/\μ=m.n.toNat-i/\i<=m.n.toNat/\St h h' (.mp h84.size (Fv (zipI (dedF (A.take i)) 0))::clL h25.size h23.size h20.size h13.size h.size m sf sm sl x10 N A ((A.take i).map (idxF (dedF (A.take i)))++C.drop i)),⟨_,0,rfl,rfl,by omega,hs⟩,?_⟩;clear hs;rintro-_ h116 μ ⟨i,rfl,rfl,hi,hs⟩;have hDr:∀ {i:Nat},∀q∈zipI (dedF (A.take i)) 0,inR q.1:=fun q hq=>by
  have:q.1∈(zipI (dedF (A.take _)) 0).map Prod.fst:=Yp.2 ⟨q,hq,rfl⟩;rw[zipI_fst,dedF_mem] at this;exact hAr _ (List.mem_of_mem_take this)
 have hDn:∀ {i:Nat},((zipI (dedF (A.take i)) 0).map Prod.fst).Nodup:=fun {_}=>by rw[zipI_fst];exact dedF_nodup _
 refine sBi (fun c2=>?_) (fun c2=>?_)
 .obtain⟨a,ha⟩:=get_some (l:=A) (i:=i) (by omega);have har:=hAr a (Yb ha);have hCl2:((A.take i).map (idxF (dedF (A.take i)))++C.drop i).length=m.n.toNat:=by rw[Yh,Yc,Yu,List.length_drop];omega
  refine⟨⟨by omega,by omega⟩,?_⟩;rw[show 0+Int.toNat (i:Int)*1=i by omega];refine⟨a,hs.rd 1 rfl (by rw[Yd,ha];rfl),?_⟩;refine hs.mlook (ck:=iv) (cv:=iv) M215 0 rfl hDr hDn (a:=a) har true ?_;have hlast:∀ {h':Heap},St h h' (.mp h84.size (Fv (zipI (dedF (A.take (i+1))) 0))::clL h25.size h23.size h20.size h13.size h.size m sf sm sl x10 N A ((A.take (i+1)).map (idxF (dedF (A.take (i+1))))++C.drop (i+1))) ->
    ∃μ,μ<m.n.toNat-i/\∃i2:Nat,IntKind.wrap .i64 ((i:Int)+1)=i2/\μ=m.n.toNat-i2/\i2<=m.n.toNat/\St h h' (.mp h84.size (Fv (zipI (dedF (A.take i2)) 0))::clL h25.size h23.size h20.size h13.size h.size m sf sm sl x10 N A ((A.take i2).map (idxF (dedF (A.take i2)))++C.drop i2)):=
   fun h2=>⟨_,by omega,i+1,by rw[w64 (by omega) (by omega)];omega,rfl,by omega,h2⟩
  rw[mget_zipI];have hD:=dedF_take ha;have hcs:=class_step (C:=C) ha (by omega);by_cases hm:a∈dedF (A.take i)
  .rw[if_pos hm] at hD ⊢;refine⟨_,true,rfl,?_⟩;refine sB_f rfl ?_;refine hs.mlook (ck:=iv) (cv:=iv) M215 0 rfl hDr hDn (a:=a) har false ?_;rw[mget_zipI,if_pos hm];refine⟨_,rfl,⟨by omega,by omega⟩,?_⟩;refine hs.put 4 rfl (o:=i) (vs:=[natV (idxF (dedF (A.take i)) a)]) rfl (by rw[Yc,Yv];omega) fun h134 hs=>?_;rw[map_splice natV (by omega)] at hs;rw[hD] at hcs;rw[hcs] at hs;refine hlast ?_;rw[hD];exact hs
  .rw[if_neg hm] at hD ⊢;have hnone:∀q∈zipI (dedF (A.take i)) 0,q.1≠a:=fun q hq e=>hm (by
    have h1:q.1∈(zipI (dedF (A.take i)) 0).map Prod.fst:=Yp.2 ⟨q,hq,rfl⟩
    rwa [zipI_fst,e] at h1)
   refine⟨0,false,rfl,?_⟩;refine sB_t rfl ?_;refine hs.mlen (ck:=iv) (cv:=iv) M215 0 rfl ?_;refine⟨_,rfl,?_⟩;refine hs.mput (ck:=iv) (cv:=iv) M215 0 rfl hDr hDn (a:=a) har (((zipI (dedF (A.take i)) 0).length:Nat):Int) fun h125 hs=>?_;rw[mset_none hnone,zipI_len,<-zipI_snoc,<-hD] at hs;refine hs.mlook (ck:=iv) (cv:=iv) M215 0 rfl hDr hDn (a:=a) har false ?_;rw[mget_zipI,if_pos (by rw[hD,Yk];exact .inr (Ye.2 rfl))];refine⟨_,rfl,⟨by omega,by omega⟩,?_⟩;refine hs.put 4 rfl (o:=i) (vs:=[natV (idxF (dedF (A.take (i+1))) a)]) rfl (by rw[Yc,Yv];omega) fun h134 hs=>?_;rw[map_splice natV (by omega),hcs] at hs;exact hlast hs
 have hin:i=m.n.toNat:=by omega
 subst hin;rw[Yj (by omega),List.drop_eq_nil_of_le (by omega),Yw] at hs;have hcl2:A.map (idxF (dedF A))=canonL (clsK m C):=hpat.1;obtain⟨f',rfl⟩:∃f',f=f'+1:=⟨f-1,by omega⟩;rw[clsN] at hcls;refine hs.mlen (ck:=iv) (cv:=iv) M215 0 rfl ?_;refine⟨_,rfl,?_⟩;refine sBe (fun c3=>?_) (fun c3=>?_)
 .rw[zipI_len,hpat.2] at c3;rw[if_pos (by omega)] at hcls;rw[hcls];refine⟨⟨some ⟨h13.size,0,none⟩,m.n.toNat,m.n.toNat⟩,rfl,?_⟩;rw[hcl2] at hs;have h1:=(hs.drop 4).sub (List.sublist_append_left [_] _);exact h1.blkS m.n.toNat 1 _ (natflat _) (inrows _) (by rw[Yc,Yc,canonL_len,clsK_len]) (by simp only[maxLen];omega)
 .refine hs.mlen (ck:=iv) (cv:=iv) M215 0 rfl ?_;refine⟨_,rfl,?_⟩;rw[zipI_len,hpat.2] at c3 ⊢;rw[if_neg (by omega)] at hcls;rw[hcl2] at hs;refine⟨_,?_,canonL (clsK m C),(dedF (clsK m C)).length,f',rfl,rfl,by omega,by omega,by rw[canonL_len,clsK_len],fun x hx=>by have:=canonL_lt hx;omega,.inr (dedF_canon _),hcls,(hs.drop 4)⟩;omega
end Go.VC
end

section
namespace Go.VC
def addQ (Q:List Nat) (c:Nat):List Nat:=if c∈Q then Q else Q++[c]
def minX (m:Mch) (C:List Nat) (hd:Nat) (tl:Option To) (st:List Nat × List Mv × List To) (x:Mv):List Nat × List Mv × List To:=
 (addQ st.1 (C.getD x.t.toNat 0),st.2.1++[⟨hd,x.send,x.peer,x.label,(idxF (addQ st.1 (C.getD x.t.toNat 0)) (C.getD x.t.toNat 0):Nat),x.ag⟩],
  st.2.2++(match tl with
   | none=>[]
   | some t=>match m.mv[t.e.toNat]? with
    | some y=>if x.ev=y.ev then [⟨hd,t.k,(st.2.1.length:Nat)⟩] else []
    | none=>[]))
def limM (li:List To):List (Int × To):=li.foldl (fun l t=>mset l t.s t) []
def outM (m:Mch) (s:Nat):List Mv:=m.mv.filter fun x=>x.f=(s:Int)
def minN (m:Mch) (C:List Nat):Nat->Nat->List Nat->List Bool->List Mv->List To->Mch
 | 0,_,Q,fin,mv,li=>⟨m.role,(Q.length:Nat),0,fin,mv,li⟩
 | f+1,hd,Q,fin,mv,li=>match Q[hd]? with
  | none=>⟨m.role,(Q.length:Nat),0,fin,mv,li⟩
  | some c=>minN m C f (hd+1) ((outM m (idxF C c)).foldl (minX m C hd (mget (limM m.li) (idxF C c:Nat))) (Q,mv,li)).1 (fin++[m.fin.getD (idxF C c) false])
    ((outM m (idxF C c)).foldl (minX m C hd (mget (limM m.li) (idxF C c:Nat))) (Q,mv,li)).2.1 ((outM m (idxF C c)).foldl (minX m C hd (mget (limM m.li) (idxF C c:Nat))) (Q,mv,li)).2.2
def minF (m:Mch):Mch:=minN m (cls m).1 202 0 [(cls m).1.getD m.s.toNat 0] [] [] []
structure CsOk (m:Mch) (C:List Nat) (cnt:Nat):Prop where
 cl:C.length=m.n.toNat
 cb:∀c∈C,c<cnt
 cc:cnt<=m.n.toNat
 cs:∀c,c<cnt->c∈C
theorem idxF_get {K:Type} [DecidableEq K]:∀ {l:List K} {k:K},k∈l->l[idxF l k]?=some k
 | [],_,h=>by cases h
 | x::r,k,h=>by
  rw[idxF];split
  .rename_i e;rw[e];rfl
  .rename_i e;rw[List.getElem?_cons_succ];exact idxF_get (by rcases Yr.1 h with h | h;exact absurd h.symm e;exact h)
theorem canon_surj {K:Type} [DecidableEq K] (l:List K):∀c,c<(dedF l).length->c∈canonL l:=by
 intro c hc;obtain⟨k,hk⟩:=get_some (l:=dedF l) (i:=c) hc;have hkm:=Yb hk;have hkl:=(dedF_mem _ _).1 hkm;refine Yp.2 ⟨k,hkl,?_⟩;have h1:=idxF_get hkm;have h2:=idxF_lt hkm;exact (List.getElem?_inj h2 (dedF_nodup l)).1 (h1.trans hk.symm)
theorem cls_ok {m:Mch} (hO:MOk m):CsOk m (cls m).1 (cls m).2:=by
 have hn:=hO.n;have key:∀(f:Nat) (C:List Nat) (c:Nat),C.length=m.n.toNat->202<=f+c->c<=m.n.toNat->(c=0\/(dedF C).length=c)->CsOk m (clsN m f C c).1 (clsN m f C c).2:=by
  intro f
  induction f with
  | zero=>intro C c _ h _ _;omega
  | succ f ih=>
   intro C c hC hf hc hd;have hge:=clsK_ge hC;have hle:=dedF_len_le (clsK m C);rw[clsK_len] at hle;rw[clsN];by_cases e:(dedF (clsK m C)).length=c
   .rw[if_pos e];exact⟨by rw[canonL_len,clsK_len],fun x hx=>by have:=canonL_lt hx;omega,hc,fun x hx=>canon_surj _ x (by omega)⟩
   .rw[if_neg e];exact ih _ _ (by rw[canonL_len,clsK_len]) (by omega) hle (.inr (dedF_canon _))
 exact key 202 _ 0 Yg (by omega) (by omega) (.inl rfl)
structure QOk (Q:List Nat) (cnt:Nat):Prop where
 nd:Q.Nodup
 lt:∀c∈Q,c<cnt
theorem QOk.le {Q:List Nat} {cnt:Nat} (h:QOk Q cnt):Q.length<=cnt:=by
 have:=List.Nodup.length_le_of_subset h.nd (l₂:=List.range cnt) fun c hc=>List.mem_range.2 (h.lt c hc)
 rwa [Yyd] at this
theorem QOk.add {Q:List Nat} {cnt c:Nat} (h:QOk Q cnt) (hc:c<cnt):QOk (addQ Q c) cnt:=by
 unfold addQ;split
 .exact h
 .rename_i hn;refine⟨?_,fun x hx=>?_⟩
  .rw[List.nodup_append];exact⟨h.nd,by simp,fun a ha b hb=>by rw[Ye] at hb;subst hb;exact fun e=>hn (e ▸ ha)⟩
  .rcases Yk.1 hx with hx | hx
   .exact h.lt x hx
   .rw[Ye] at hx;rw[hx];exact hc
theorem addQ_mem {Q:List Nat} {c:Nat}:c∈addQ Q c:=by unfold addQ;split;assumption;simp
theorem addQ_len {Q:List Nat} {c:Nat}:Q.length<=(addQ Q c).length:=by unfold addQ;split;omega;simp
def NumQ (NUM:List Int) (Q:List Nat) (cnt:Nat):Prop:=NUM.length=cnt/\∀c,c<cnt->NUM[c]?=some (if c∈Q then (idxF Q c:Int) else -1)
theorem NumQ.add {NUM:List Int} {Q:List Nat} {cnt c:Nat} (h:NumQ NUM Q cnt) (hc:c<cnt) (hn:c∉Q):NumQ (NUM.set c (Q.length:Nat)) (Q++[c]) cnt:=by
 obtain⟨h1,h2⟩:=h;refine⟨by rw[Yyh,h1],fun x hx=>?_⟩;by_cases e:x=c
 .subst e;rw[Yq (by omega),if_pos (by simp)];congr 2;have:∀(l:List Nat),x∉l->idxF (l++[x]) x=l.length:=by
   intro l hl
   induction l with
   | nil=>rw[List.nil_append,idxF,if_pos rfl];rfl
   | cons y r ih=>
    rw[Yr,not_or] at hl;rw[List.cons_append,idxF,if_neg (fun e=>hl.1 e.symm),ih hl.2,Yyj]
  exact (this Q hn).symm
 .rw[Yy (fun h=>e h.symm),h2 x hx];by_cases hm:x∈Q
  .rw[if_pos hm,if_pos (Yk.2 (.inl hm)),idxF_mem hm]
  .rw[if_neg hm,if_neg (fun hc=>by rcases Yk.1 hc with hc | hc;exact hm hc;exact e (Ye.1 hc))]
theorem limM_nd (li:List To):((limM li).map Prod.fst).Nodup:=by
 unfold limM
 suffices h:∀(l:List To) (a:List (Int × To)),(a.map Prod.fst).Nodup->((l.foldl (fun l t=>mset l t.s t) a).map Prod.fst).Nodup from h li [] List.nodup_nil
 intro l
 induction l with
 | nil=>intro a h;exact h
 | cons x r ih=>intro a h;rw[List.foldl_cons];exact ih _ (mset_nodup _ _ _ h)
theorem mset_mem {α β:Type} [DecidableEq α] {a:α} {b:β}:∀ {l:List (α × β)} {q:α × β},q∈mset l a b->q∈l\/q=(a,b)
 | [],q,h=>by rw[mset,Ye] at h;exact .inr h
 | (x,y)::r,q,h=>by
  rw[mset] at h;split at h
  .rename_i e;rcases Yr.1 h with h | h
   .rw[h,e];exact .inr rfl
   .exact .inl (Yn _ h)
  .rcases Yr.1 h with h | h
   .rw[h];exact .inl (Yx ..)
   .rcases mset_mem h with h | h
    .exact .inl (Yn _ h)
    .exact .inr h
theorem limM_mem {li:List To} {q:Int × To} (h:q∈limM li):q.2∈li/\q.2.s=q.1:=by
 have key:∀n,∀q∈limM (li.take n),q.2∈li/\q.2.s=q.1:=by
  intro n
  induction n with
  | zero=>intro q hq;cases hq
  | succ n ih=>
   intro q hq;by_cases hn:n<li.length
   .obtain⟨t,ht⟩:=get_some (l:=li) (i:=n) hn;have e:limM (li.take (n+1))=mset (limM (li.take n)) t.s t:=by unfold limM;rw[take_snoc ht,List.foldl_append];rfl
    rw[e] at hq;rcases mset_mem hq with h | h
    .exact ih q h
    .rw[h];exact⟨Yb ht,rfl⟩
   .rw[Yj (by omega)] at hq;refine ih q ?_;rw[Yj (by omega)];exact hq
 have:=key li.length q;rw[Yye] at this;exact this h
theorem limM_snoc {li:List To} {j:Nat} {t:To} (h:li[j]?=some t):limM (li.take (j+1))=mset (limM (li.take j)) t.s t:=by unfold limM;rw[take_snoc h,List.foldl_append];rfl
theorem outM_snoc {mv:List Mv} {j:Nat} {x:Mv} (h:mv[j]?=some x) (s:Nat):(mv.take (j+1)).filter (fun y=>y.f=(s:Int))=if x.f=(s:Int) then (mv.take j).filter (fun y=>y.f=(s:Int))++[x] else (mv.take j).filter (fun y=>y.f=(s:Int)):=by
 rw[take_snoc h,List.filter_append];by_cases e:x.f=(s:Int)
 .rw[if_pos e,List.filter_cons_of_pos (by simpa using e)];rfl
 .rw[if_neg e,List.filter_cons_of_neg (by simpa using e)];simp
theorem minX_len (m:Mch) (C:List Nat) (hd:Nat) (tl:Option To) (st:List Nat × List Mv × List To) (x:Mv):(minX m C hd tl st x).2.1.length=st.2.1.length+1/\(minX m C hd tl st x).2.2.length<=st.2.2.length+1:=by
 unfold minX;refine⟨by simp,?_⟩;rw[Yh];split
 .simp
 .split
  .split<;>simp
  .simp
end Go.VC
end

section
namespace Go.VC
open Go.Proofs Go.LexS
theorem St.nestLn {α:Type} {h0 h:Heap} {A B:List It} {Q:List (Sl × List α)} {e:TypeId} {n:Nat} {cs:α->List Value} (hs:St h0 h (A++Q.map (nest e n cs)++B)) {i:Nat} {q:Sl × List α} (hi:Q[i]?=some q) (hn:0<n):Rw h n q.1 (q.2.map cs):=by
 have hil:i<(Q.map (nest e n cs)).length:=by rw[Yc];exact (Ya.1 hi).1
 exact hs.rw (A.length+i) (rows:=q.2.map cs) (by rw[get_mid hil,Yd,hi];rfl) hn
theorem made31 (n:Nat):madeL Pz 23 n=(List.replicate n (⟨none,0,0⟩:Sl)).map slV:=by
 have e:zeroC Pz 23=[.slice none 0 0]:=by kernel_rfl
 unfold madeL;rw[e,List.map_replicate]
 induction n with
 | zero=>rfl
 | succ n ih=>rw[List.replicate_succ,List.replicate_succ,Yyu,ih];rfl
theorem list_set_self {α:Type} {L:List α} {k:Nat} {x:α} (h:L[k]?=some x):L.set k x=L:=by
 apply Yyr;intro m;by_cases hm:k=m
 .subst hm;rw[Yq (Ya.1 h).1,h]
 .rw[Yy hm]
def toV (t:To):Value:=.agg ⟨t.cs⟩
def natI (L:List Nat):List Int:=L.map fun c:Nat=>(c:Int)
theorem natI_snoc (L:List Nat) (c:Nat):natI (L++[c])=natI L++[(c:Int)]:=by unfold natI;rw[Ym];rfl
theorem natI_get {L:List Nat} {i:Nat} {d:Int} (h:(natI L)[i]?=some d):∃c:Nat,L[i]?=some c/\d=c:=by
 unfold natI at h;rw[Yd] at h;obtain⟨c,hc,rfl⟩:=Yya.1 h;exact⟨c,hc,rfl⟩
def mnA (xb lb msb sb ob gb nmb:Nat) (m:Mch) (sf sm sl sc q ofn omv oli:Sl) (C Q:List Nat) (NUM:List Int) (fin:List Bool) (mv:List Mv) (li:List To) (SM:List Nat) (MS:List Sl):List It:=
 [.blk xb [.int .i64 m.role,.int .i64 0,.int .i64 0,.slice ofn.a ofn.n ofn.c,.slice omv.a omv.n omv.c,.slice oli.a oli.n oli.c] 26,.sl q 3 1 ((natI Q).map inC),.blk nmb (NUM.map iv) 3,.mp lb ((limM m.li).map fun q=>(iv q.1,toV q.2)),.sl ofn 4 1 (fin.map bC),.sl omv 81 6 (mv.map Mv.cs),.sl oli 44 3 (li.map To.cs),
  .blk msb (MS.map slV) 23,.blk sb (SM.map natV) 3,.sl sc 3 1 ((natI C).map inC),.blk ob m0 26,.blk gb (mC m sf sm sl) 26]
theorem minimal36 (m:Mch) (sf sm sl:Sl) (h:Heap) (hM:MI h m sf sm sl) (hO:MOk m) (hS:m.mv.Pairwise mvLt) :
  Fn Pz 68 #[.agg ⟨mC m sf sm sl⟩] h fun v h'=>∃sf' sm' sl':Sl,v=.agg ⟨mC (minF m) sf' sm' sl'⟩/\St h h' (mL (minF m) sf' sm' sl'):=by
 apply vc68 m.role m.n m.s sf sm sl;unfold W68;have hs:=St.refl h;have hn:=hO.n;have hms:=hO.s;have hml:=hO.ml;have hll:=hO.ll;have hfl:=hO.fl;have hMl:=hM.pl.ln;have hMf:=hM.pf.ln;have hMm:=hM.pm.ln;have hCs:=cls_ok hO;have hmin:minF m=minN m (cls m).1 202 0 [(cls m).1.getD m.s.toNat 0] [] [] []:=rfl;refine hs.newb fun h7 hs=>?_;refine hs.newb fun h8 hs=>?_;refine⟨_,_,_,sf,sm,sl,hs.at 1 rfl (n:=6) rfl,?_⟩;refine (classes71 m sf sm sl h8 (hM.ext hs.ext) hO hS).mono ?_;rintro _ h18 ⟨sc,rfl,hsc⟩;have hs:=(hs.join hsc).perm (List.perm_append_comm (l₁:=[_,_]) (l₂:=[_]));generalize hC:(cls m).1=C at *;generalize hcnt:(cls m).2=cnt at *;obtain⟨hCl,hCb,hcc,hCsu⟩:=hCs;refine⟨sc,_,rfl,by omega,?_⟩;rw[made3n];refine hs.newb fun h19 hs=>?_;refine⟨_,hs.rd 3 rfl rfl,?_⟩;have hscn:=(hs.rows 1 (s:=sc) (cs:=inC) rfl (by omega)).ln;rw[Yc] at hscn;rw[w64 (n:=m.n-1) (by omega) (by omega)];refine⟨fun x h' μ=>∃(i:Nat) (SM:List Nat),x=(i:Int)-1/\μ=i/\i<=m.n.toNat/\SM.length=cnt/\(∀c,c<cnt->c∈C.drop i->SM[c]?=some (i+idxF (C.drop i) c))/\St h h' [.blk h18.size (SM.map natV) 3,.sl sc 3 1 ((natI C).map inC),.blk h7.size m0 26,.blk h.size (mC m sf sm sl) 26],
  ⟨_,m.n.toNat,_,by omega,rfl,by omega,by rw[Yg];omega,fun c _ hc=>(by rw[List.drop_eq_nil_of_le (by omega)] at hc;cases hc),hs⟩,?_⟩
 clear hs;rintro-_ h25 i ⟨_,SM,rfl,rfl,hi,hSMl,hSM,hs⟩;refine sBi (fun c1=>?_) (fun c1=>?_)
 .obtain⟨i,rfl⟩:∃i',i=i'+1:=⟨i-1,by omega⟩;rw[show (((i+1:Nat):Int)-1)=(i:Int) by omega];refine (hs.rows 1 (s:=sc) (cs:=inC) rfl (by omega)).nbI (by omega) (by omega) fun b26 o27 d26 g26 t26=>?_;rw[Ys] at g26;obtain⟨c,gc,rfl⟩:=natI_get g26;have hcb:=hCb c (Yb gc);refine⟨_,t26.hd,⟨by omega,by omega⟩,?_⟩;rw[show 0+Int.toNat (c:Int)*1=c by omega];refine hs.put 0 rfl (o:=c) (vs:=[natV i]) rfl (by rw[Yc,Yv];omega) fun h29 hs=>?_;rw[map_splice natV (by omega)] at hs;refine⟨_,by omega,i,_,by rw[w64 (by omega) (by omega)],rfl,by omega,by rw[Yyh];exact hSMl,fun c' hc' hm=>?_,hs⟩;rw[drop_get gc] at hm ⊢;rw[idxF];by_cases e:c=c'
  .subst e;rw[if_pos rfl,Yq (by omega)];rfl
  .rw[if_neg e,Yy e];rcases Yr.1 hm with hm | hm
   .exact absurd hm.symm e
   .rw[hSM c' hc' hm];congr 1;omega
 have hi0:i=0:=by omega
 subst hi0;have hSM':∀c,c<cnt->SM[c]?=some (idxF C c):=fun c hc=>by
  have:=hSM c hc (by rw[List.drop_zero];exact hCsu c hc)
  rwa [List.drop_zero,Nat.zero_add] at this
 clear hSM c1 hi;refine⟨_,hs.rd 3 rfl rfl,by omega,?_⟩;rw[made31];refine hs.newb fun h32 hs=>?_;have hs:=hs.nests (α:=Mv) (e:=81) (k:=6) (cs:=Mv.cs) (A:=[_,_,_,_,_]) (B:=[]) m.n.toNat;refine⟨sm,hs.rd 4 rfl rfl,?_⟩;refine⟨fun x h' μ=>∃(j:Nat) (MS:List (Sl × List Mv)),x=(j:Int)/\μ=m.mv.length-j/\j<=m.mv.length/\MS.map Prod.snd=((List.range m.n.toNat).map fun s:Nat=>(m.mv.take j).filter (fun y=>y.f=(s:Int))) /\
  St h h' ([.blk h25.size ((MS.map Prod.fst).map slV) 23,.blk h18.size (SM.map natV) 3,.sl sc 3 1 ((natI C).map inC),.blk h7.size m0 26,.blk h.size (mC m sf sm sl) 26]++MS.map (nest 81 6 Mv.cs)++[]),
  ⟨_,0,List.replicate m.n.toNat ((⟨.none,0,0⟩,[]):Sl × List Mv),rfl,rfl,by omega,?_,?_⟩,?_⟩
 rotate_left 2
 .clear hs;rintro-_ h38 μ ⟨j,MS,rfl,rfl,hj,hMS,hs⟩;have hMSl:MS.length=m.n.toNat:=by have:=congrArg List.length hMS;simpa using this
  refine sBi (fun c1=>?_) (fun c1=>?_)
  .refine (hM.pm.ext hs.ext).rw.nbI (by omega) (by omega) fun b39 o40 x g39 t39=>?_;replace g39:m.mv[j]?=some x:=g39;obtain⟨hx1,hx2,_,_,_,_⟩:=hO.mv x (Yb g39);obtain⟨q,hq⟩:=get_some (l:=MS) (i:=x.f.toNat) (by omega);refine⟨_,_,_,_,_,_,t39,?_⟩;refine hs.newput (vs:=x.cs) rfl rfl fun h48 hs=>?_;refine⟨_,hs.rd 0 rfl rfl,_,hs.rd 0 rfl rfl,⟨by omega,by omega⟩,?_⟩;rw[show 0+Int.toNat x.f*1=x.f.toNat by omega];refine⟨q.1,hs.rd 1 rfl (by rw[Yd,Yd,hq];rfl),?_⟩;refine⟨_,_,_,_,_,_,hs.at 0 rfl (n:=6) rfl,?_⟩;refine hs.newbE fun h58 E58 hs=>⟨E58.sm,?_⟩;have hs:St h h58 ((.blk h48.size x.cs 81 :: .blk h38.size x.cs 81::[.blk h25.size ((MS.map Prod.fst).map slV) 23,.blk h18.size (SM.map natV) 3,.sl sc 3 1 ((natI C).map inC),.blk h7.size m0 26,.blk h.size (mC m sf sm sl) 26])++MS.map (nest 81 6 Mv.cs)++[]):=hs;have hqn:=(hs.nestLn hq (by omega)).ln;have hq2:q.2=(m.mv.take j).filter (fun y=>y.f=((x.f.toNat:Nat):Int)):=by
    have:=congrArg (·[x.f.toNat]?) hMS;simp only[Yd,hq,Yyb (show x.f.toNat<m.n.toNat by omega),Option.map_some,Option.some.injEq] at this;exact this
   have hql:q.2.length<=400:=by rw[hq2];refine Yys (List.length_filter_le _ _) ?_;rw[Yu];omega
   refine hs.nestAt hq app31 x (hs.at 0 rfl (n:=6) rfl) rfl rfl (by omega) (by simp only[maxLen];omega) fun r h60 hr hs3=>?_;refine⟨sm_cons (hs.same hs3 1 1 rfl rfl) sm_nil,⟨by omega,by omega⟩,?_⟩;refine hs3.put 2 rfl (o:=x.f.toNat) (vs:=[slV r]) rfl (by rw[Yc,Yc,Yv];omega) fun h61 hs=>?_;rw[map_splice slV (by rw[Yc];omega)] at hs;refine⟨_,by omega,j+1,MS.set x.f.toNat (r,q.2++[x]),by rw[w64 (by omega) (by omega)];omega,rfl,by omega,?_,?_⟩
   .apply Yyr;intro s;rw[Yd,Yd];by_cases hsn:s<m.n.toNat
    .rw[Yyb hsn];have h1:=congrArg (·[s]?) hMS;simp only[Yd,Yyb hsn,Option.map_some] at h1;by_cases e:x.f.toNat=s
     .subst e;rw[Yq (by omega),Option.map_some,Option.map_some,outM_snoc g39,if_pos (by omega),hq2]
     .rw[Yy e,h1,Option.map_some,outM_snoc g39,if_neg (by omega)]
    .rw[Yl (by rw[Yyh];omega),Yl (by rw[Yyd];omega)];rfl
   .rw[List.map_set];exact hs.drop 2
  have hjn:j=m.mv.length:=by omega
  subst hjn;rw[Yye] at hMS;rw[Yw] at hs;have hMSl:MS.length=m.n.toNat:=by have:=congrArg List.length hMS;simpa using this
  have hMSg:∀s:Nat,s<m.n.toNat->∃q:Sl,MS[s]?=some (q,outM m s):=fun s hsn=>by
   obtain⟨q,hq⟩:=get_some (l:=MS) (i:=s) (by omega);have:=congrArg (·[s]?) hMS;simp only[Yd,hq,Yyb hsn,Option.map_some,Option.some.injEq] at this;exact⟨q.1,by rw[hq];congr 1;exact Prod.ext rfl this⟩
  clear hMS;refine hs.mmake 162 fun h65 E65 hs=>?_;refine⟨_,rfl,sl,hs.rd 5 rfl rfl,?_⟩;refine⟨fun x h' μ=>∃j:Nat,x=(j:Int)/\μ=m.li.length-j/\j<=m.li.length/\St h h' (.mp h38.size ((limM (m.li.take j)).map fun q=>(iv q.1,toV q.2))::[.blk h25.size ((MS.map Prod.fst).map slV) 23,.blk h18.size (SM.map natV) 3,.sl sc 3 1 ((natI C).map inC),.blk h7.size m0 26,.blk h.size (mC m sf sm sl) 26]++MS.map (nest 81 6 Mv.cs)),⟨_,0,rfl,rfl,by omega,hs⟩,?_⟩;clear hs;rintro-_ h71 μ ⟨j,rfl,rfl,hj,hs⟩;refine sBi (fun c2=>?_) (fun c2=>?_)
  .refine (hM.pl.ext hs.ext).rw.nbI (by omega) (by omega) fun b72 o73 t g72 t72=>?_;replace g72:m.li[j]?=some t:=g72;obtain⟨ht1,ht2,ht3,ht4,ht5⟩:=hO.li t (Yb g72);refine⟨_,_,_,t72,?_⟩;refine hs.newput (vs:=t.cs) rfl rfl fun h78 hs=>?_;refine⟨_,hs.rd 0 rfl rfl,_,_,_,hs.at 0 rfl (n:=3) rfl,?_⟩;have hlr:∀q∈limM (m.li.take j),inR q.1:=fun q hq=>by
    obtain⟨h1,h2⟩:=limM_mem hq;have:=hO.li _ (List.mem_of_mem_take h1);rw[<-h2];exact inRn (by omega) (by omega)
   refine hs.mput (ck:=iv) (cv:=toV) M140 1 rfl hlr (limM_nd _) (a:=t.s) (inRn (by omega) (by omega)) t fun h83 hs=>?_;rw[<-limM_snoc g72] at hs;exact⟨_,by omega,j+1,by rw[w64 (by omega) (by omega)];omega,rfl,by omega,hs.drop 1⟩
  have hjn:j=m.li.length:=by omega
  subst hjn;rw[Yye] at hs;refine⟨by omega,?_⟩;rw[<-made3n,made3i];refine hs.newb fun h85 hs=>?_;refine⟨fun x h' μ=>∃j:Nat,x=(j:Int)/\μ=cnt-j/\j<=cnt/\St h h' (.blk h71.size ((List.replicate j (-1)++List.replicate (cnt-j) 0).map iv) 3 :: .mp h38.size ((limM m.li).map fun q=>(iv q.1,toV q.2))::[.blk h25.size ((MS.map Prod.fst).map slV) 23,.blk h18.size (SM.map natV) 3,.sl sc 3 1 ((natI C).map inC),.blk h7.size m0 26,.blk h.size (mC m sf sm sl) 26]++MS.map (nest 81 6 Mv.cs)),⟨_,0,rfl,rfl,by omega,hs⟩,?_⟩;clear hs;rintro-_ h90 μ ⟨j,rfl,rfl,hj,hs⟩;refine sBi (fun c3=>?_) (fun c3=>?_)
  .refine⟨⟨by omega,by omega⟩,?_⟩;rw[show 0+Int.toNat (j:Int)*1=j by omega];refine hs.put 0 rfl (o:=j) (vs:=[iv (-1)]) rfl (by rw[Yc,Yh,Yg,Yg,Yv];omega) fun h91 hs=>?_;rw[map_splice iv (by rw[Yh,Yg,Yg];omega)] at hs;have e:(List.replicate j (-1:Int)++List.replicate (cnt-j) 0).set j (-1)=List.replicate (j+1) (-1)++List.replicate (cnt-(j+1)) 0:=by
    rw[List.set_append_right _ _ (by rw[Yg];omega),Yg,Nat.sub_self,show cnt-j=(cnt-(j+1))+1 by omega,List.replicate_succ,List.set_cons_zero,List.replicate_succ' (n:=j),Yz];rfl
   rw[e] at hs;exact⟨_,by omega,j+1,by rw[w64 (by omega) (by omega)];omega,rfl,by omega,hs⟩
  have hjn:j=cnt:=by omega
  subst hjn;rw[Nat.sub_self,List.replicate_zero,Yw] at hs;obtain⟨c0,hc0⟩:=get_some (l:=C) (i:=m.s.toNat) (by omega);have hc0b:=hCb c0 (Yb hc0);rw[getD_some hc0] at hmin;refine⟨_,hs.rd 6 rfl rfl,?_⟩;refine (hs.rows 4 (s:=sc) (cs:=inC) rfl (by omega)).nbI (by omega) (by omega) fun b94 o95 d94 g94 t94=>?_;obtain⟨c0',gc0,rfl⟩:=natI_get g94;rw[hc0] at gc0;cases gc0;refine⟨_,t94.hd,?_⟩;refine hs.newb fun h97 hs=>?_;refine⟨⟨by omega,by omega⟩,_,hs.rd 0 rfl rfl,⟨by omega,by omega⟩,?_⟩;rw[show 0+Int.toNat (c0:Int)*1=c0 by omega];refine hs.put 1 rfl (o:=c0) (vs:=[iv 0]) rfl (by rw[Yc,Yg,Yv];omega) fun h99 hs=>?_;rw[map_splice iv (by rw[Yg];omega)] at hs;have hs:=hs.blkS 1 1 ((natI [c0]).map inC) rfl (inrows _) rfl (by decide);refine⟨_,hs.rd 7 rfl rfl,?_⟩;refine hs.newput (vs:=[.int .i64 m.role,.int .i64 0,.int .i64 0,.slice none 0 0,.slice none 0 0,.slice none 0 0]) rfl rfl fun h102 hs=>?_;have hs:St h h102 (mnA h99.size h38.size h25.size h18.size h7.size h.size h71.size m sf sm sl sc ⟨some ⟨h90.size,0,none⟩,1,1⟩ ⟨none,0,0⟩ ⟨none,0,0⟩ ⟨none,0,0⟩ C [c0] ((List.replicate j (-1:Int)).set c0 0) [] [] [] SM (MS.map Prod.fst)++MS.map (nest 81 6 Mv.cs)):=
   (((hs.nil_ 44 3).nil_ 81 6).nil_ 4 1).perm (List.Perm.append_right _ (List.perm_append_comm (l₁:=[_,_,_]) (l₂:=[_,_,_,_])))
  have hq0:QOk [c0] j:=⟨by simp,fun c hc=>by rw[Ye] at hc;omega⟩;have hnq0:NumQ ((List.replicate j (-1:Int)).set c0 0) [c0] j:=by
   refine⟨by rw[Yyh,Yg],fun c hc=>?_⟩;by_cases e:c=c0
   .subst e;rw[Yq (by rw[Yg];exact hc),if_pos (by simp),idxF,if_pos rfl];rfl
   .rw[Yy (fun h=>e h.symm),if_neg (by simpa using e),List.getElem?_replicate,if_pos hc]
  generalize j=cnt at *;refine⟨fun q x h' μ=>∃(i:Nat) (ofn omv oli:Sl) (Q:List Nat) (NUM:List Int) (fin:List Bool) (mv:List Mv) (li:List To),x=(i:Int)/\μ=cnt-i/\i<=Q.length /\
   St h h' (mnA h99.size h38.size h25.size h18.size h7.size h.size h71.size m sf sm sl sc q ofn omv oli C Q NUM fin mv li SM (MS.map Prod.fst)++MS.map (nest 81 6 Mv.cs))/\QOk Q cnt/\NumQ NUM Q cnt/\mv.length<=i*400/\li.length<=i*400/\fin.length=i/\minF m=minN m C (202-i) i Q fin mv li,
   ⟨_,0,_,_,_,_,_,_,_,_,rfl,rfl,by omega,hs,hq0,hnq0,by decide,by decide,rfl,hmin⟩,?_⟩
  clear hs hq0 hnq0 hmin;rintro-q _ h108 μ ⟨i,ofn,omv,oli,Q,NUM,fin,mv,li,rfl,rfl,hi,hs,hQ,hNQ,hmvl,hlil,hfinl,hmin⟩;have hQl:=hQ.le;have hqn:=(hs.rows 1 (s:=q) (cs:=inC) rfl (by omega)).ln;rw[show (natI Q).length=Q.length from Yc _] at hqn;refine sBi (fun c4=>?_) (fun c4=>?_)
  .have hiQ:i<Q.length:=by omega
   obtain⟨c,hc⟩:=get_some (l:=Q) (i:=i) hiQ;have hcb:=hQ.lt c (Yb hc);have hcm:=hCsu c hcb;have hsl:idxF C c<m.n.toNat:=by have:=idxF_lt hcm;omega
   generalize hsr:idxF C c=s at *;obtain⟨bf,hbf⟩:=get_some (l:=m.fin) (i:=s) (by omega);obtain⟨ms,hms2⟩:=hMSg s hsl;rw[show 202-i=(202-(i+1))+1 by omega,minN,hc] at hmin;replace hmin:minF m=minN m C (202-(i+1)) (i+1) ((outM m (idxF C c)).foldl (minX m C i (mget (limM m.li) (idxF C c:Nat))) (Q,mv,li)).1 (fin++[m.fin.getD (idxF C c) false])
    ((outM m (idxF C c)).foldl (minX m C i (mget (limM m.li) (idxF C c:Nat))) (Q,mv,li)).2.1 ((outM m (idxF C c)).foldl (minX m C i (mget (limM m.li) (idxF C c:Nat))) (Q,mv,li)).2.2:=hmin
   rw[hsr,getD_some hbf] at hmin;have hout:(outM m s).length<=400:=Yys (List.length_filter_le _ _) hml;have houts:(outM m s).Pairwise mvLt:=hS.filter _;have houtm:∀x∈outM m s,x∈m.mv:=fun x hx=>(List.mem_filter.1 hx).1;generalize outM m s=OM at *;refine (hs.rows 1 (s:=q) (cs:=inC) rfl (by omega)).nbI (by omega) (by omega) fun b109 o110 d109 g109 t109=>?_;rw[Ys] at g109;obtain⟨c',gc',rfl⟩:=natI_get g109;rw[hc] at gc';cases gc';refine⟨_,t109.hd,⟨by omega,by omega⟩,?_⟩;rw[show 0+Int.toNat (c:Int)*1=c by omega];refine⟨_,hs.rd 8 rfl (by rw[Yd,hSM' c hcb,hsr];rfl),ofn,hs.rd 0 rfl rfl,sf,hs.rd 11 rfl rfl,?_⟩;have hofn:=(hs.rows 4 (s:=ofn) (cs:=bC) rfl (by omega)).ln;refine (hM.pf.ext hs.ext).rw.nbI (by omega) (by omega) fun b115 o116 bf' g115 t115=>?_;rw[Ys,hbf] at g115;cases g115;refine⟨_,t115.hd,?_⟩;refine hs.newbE fun h118 E118 hs=>⟨E118.sm,?_⟩;refine hs.appended 5 (rows:=fin.map bC) rfl app30 (m:=1) (news:=[bC bf]) (hs.at 0 rfl (n:=1) rfl) rfl (fun r hr=>by rw[Ye] at hr;rw[hr];rfl) rfl (by omega) (by simp only[maxLen];omega) fun s119 h120 n119 hs=>?_;refine hs.put 1 rfl (o:=3) (vs:=[.slice s119.a s119.n s119.c]) rfl (show 4<=6 by decide) fun h121 hs=>?_;have hs:St h h121 (mnA h99.size h38.size h25.size h18.size h7.size h.size h71.size m sf sm sl sc q s119 omv oli C Q NUM (fin++[bf]) mv li SM (MS.map Prod.fst)++MS.map (nest 81 6 Mv.cs)):=by
    unfold mnA;rw[Ym (l₁:=fin)];exact hs.drop 1
   refine⟨⟨by omega,by omega⟩,?_⟩;rw[show 0+Int.toNat (s:Int)*1=s by omega];refine⟨ms,hs.rd 7 rfl (by rw[Yd,Yd,hms2];rfl),?_⟩;have hk72:(mnA h99.size h38.size h25.size h18.size h7.size h.size h71.size m sf sm sl sc q s119 omv oli C Q NUM (fin++[bf]) mv li SM (MS.map Prod.fst)++MS.map (nest 81 6 Mv.cs))[12+s]?=some (.sl ms 81 6 (OM.map Mv.cs)):=by
    rw[Yyc (by show 12<=12+s;omega)];show (MS.map (nest 81 6 Mv.cs))[12+s-12]?=_;rw[show 12+s-12=s by omega,Yd,hms2];rfl
   refine (sort72 hs (12+s) hk72 (by omega)).mono ?_;rintro _ h124 ⟨rfl,l',hp,hso,hs⟩;have hle:=(mvSorted_same hp houts hso).symm;subst hle;rw[list_set_self hk72] at hs;refine⟨rfl,?_⟩;have hlr:∀q∈limM m.li,inR q.1:=fun q hq=>by
    obtain⟨h1,h2⟩:=limM_mem hq;have:=hO.li _ h1;rw[<-h2];exact inRn (by omega) (by omega)
   refine hs.mlookOk (ck:=iv) (cv:=toV) M140 3 rfl hlr (limM_nd _) (a:=(s:Int)) (inRn (by omega) (by omega)) ?_;generalize htl:mget (limM m.li) (s:Int)=tl at *;have htlm:∀t,tl=some t->t∈m.li:=fun t ht=>by subst ht;exact (limM_mem (mget_mem htl)).1
   have htup:tl.elim (.agg ⟨[.int .i64 0,.int .i64 0,.int .i64 0]⟩) toV=.agg ⟨(tl.getD ⟨0,0,0⟩).cs⟩:=by cases tl<;>rfl
   rw[htup];refine⟨_,_,_,_,rfl,?_⟩;generalize htt:tl.getD ⟨0,0,0⟩=tt at *;refine hs.newput (vs:=tt.cs) rfl rfl fun h132 hs=>?_;refine⟨⟨by omega,by omega⟩,?_⟩;refine⟨ms,hs.rd 8 rfl (by rw[Yd,Yd,hms2];rfl),?_⟩;refine⟨fun q x h' μ=>∃(j:Nat) (omv oli:Sl) (Q2:List Nat) (NUM2:List Int) (mv2:List Mv) (li2:List To),x=(j:Int)/\μ=OM.length-j/\j<=OM.length /\
    St h h' (.blk h124.size tt.cs 44::(mnA h99.size h38.size h25.size h18.size h7.size h.size h71.size m sf sm sl sc q s119 omv oli C Q2 NUM2 (fin++[bf]) mv2 li2 SM (MS.map Prod.fst)++MS.map (nest 81 6 Mv.cs)))/\QOk Q2 cnt/\NumQ NUM2 Q2 cnt/\mv2.length<=mv.length+j/\li2.length<=li.length+j/\Q.length<=Q2.length/\(OM.take j).foldl (minX m C i tl) (Q,mv,li)=(Q2,mv2,li2),
    ⟨_,0,omv,oli,Q,NUM,mv,li,rfl,rfl,by omega,hs,hQ,hNQ,by omega,by omega,by omega,rfl⟩,?_⟩
   clear hs hQ hNQ hqn hofn hQl c4;rintro-q2 _ h139 μ ⟨j,omv2,oli2,Q2,NUM2,mv2,li2,rfl,rfl,hj,hs,hQ,hNQ,hmv2,hli2,hQ2,hfold⟩;have hs':St h h139 ((.blk h124.size tt.cs 44::mnA h99.size h38.size h25.size h18.size h7.size h.size h71.size m sf sm sl sc q2 s119 omv2 oli2 C Q2 NUM2 (fin++[bf]) mv2 li2 SM (MS.map Prod.fst))++MS.map (nest 81 6 Mv.cs)++[]):=by rw[Yw];exact hs
   have hnl:Rw h139 6 ms (OM.map Mv.cs):=hs'.nestLn hms2 (by omega);clear hs';have hmsn:=hnl.ln;have hqn2:=(hs.rows 2 (s:=q2) (cs:=inC) rfl (by omega)).ln;rw[show (natI Q2).length=Q2.length from Yc _] at hqn2;have hQ2l:=hQ.le;refine sBi (fun c5=>?_) (fun c5=>?_)
   .refine hnl.nbI (by omega) (by omega) fun b140 o141 x g140 t140=>?_;replace g140:OM[j]?=some x:=g140;have hxm:=houtm x (Yb g140);obtain⟨hx1,hx2,hx3,hx4,_,_⟩:=hO.mv x hxm;have hmpos:0<m.mv.length:=List.length_pos_of_mem hxm;refine⟨_,_,_,_,_,_,t140,?_⟩;refine hs.newput (vs:=x.cs) rfl rfl fun h149 hs=>?_;refine⟨_,hs.rd 0 rfl rfl,?_⟩;refine (hs.rows 11 (s:=sc) (cs:=inC) rfl (by omega)).nbI (by omega) (by omega) fun b151 o152 d151 g151 t151=>?_;obtain⟨cx,gcx,rfl⟩:=natI_get g151;have hcxb:=hCb cx (Yb gcx);have hcxg:C.getD x.t.toNat 0=cx:=getD_some gcx;refine⟨_,t151.hd,?_⟩;refine⟨fun q' h'=>∃NUM3,St h h' (.blk h139.size x.cs 81 :: .blk h124.size tt.cs 44::(mnA h99.size h38.size h25.size h18.size h7.size h.size h71.size m sf sm sl sc q' s119 omv2 oli2 C (addQ Q2 cx) NUM3 (fin++[bf]) mv2 li2 SM (MS.map Prod.fst)++MS.map (nest 81 6 Mv.cs)))/\NumQ NUM3 (addQ Q2 cx) cnt,?_,?_⟩
    .have hnc:=hNQ.2 cx hcxb;refine⟨⟨by omega,by omega⟩,?_⟩;rw[show 0+Int.toNat (cx:Int)*1=cx by omega];refine⟨_,hs.rd 4 rfl (by rw[Yd,hnc];rfl),?_⟩;by_cases hm:cx∈Q2
     .rw[if_pos hm];refine sB_f (decide_eq_false (by omega)) ?_;have ea:addQ Q2 cx=Q2:=by unfold addQ;rw[if_pos hm]
      rw[ea];exact⟨NUM2,hs,hNQ⟩
     .rw[if_neg hm];refine sB_t (decide_eq_true (by decide)) ?_;have ea:addQ Q2 cx=Q2++[cx]:=by unfold addQ;rw[if_neg hm]
      refine⟨⟨by omega,by omega⟩,?_⟩;refine hs.put 4 rfl (o:=cx) (vs:=[iv (q2.n:Nat)]) rfl (by rw[Yc,Yv,hNQ.1];omega) fun h156 hs=>?_;rw[map_splice iv (by rw[hNQ.1];omega),hqn2] at hs;refine hs.app 3 rfl app42 (m:=1) [[.int .i64 cx]] rfl rfl (by simp) rfl (by omega) (by simp only[maxLen];omega) fun s158 h159 n158 hs=>?_;rw[ea];refine⟨_,?_,hNQ.add hcxb hm⟩;unfold mnA;rw[natI_snoc,Ym (l₁:=natI Q2)];exact hs
    .rintro-q3 h161 ⟨NUM3,hs,hNQ3⟩;refine⟨sm,hs.rd 13 rfl rfl,_,hs.rd 1 rfl rfl,?_⟩;have hye:0<=imax tt.e 0/\imax tt.e 0<m.mv.length/\∀t,tl=some t->imax tt.e 0=t.e:=by
      rw[imax_max];cases tl with
      | none=>subst htt;exact⟨by show (0:Int)<=max 0 0;omega,by show max (0:Int) 0<_;omega,fun t ht=>by cases ht⟩
      | some t=>
       subst htt;obtain⟨_,_,h3,h4,_⟩:=hO.li t (htlm t rfl);exact⟨by show (0:Int)<=max t.e 0;omega,by show max t.e 0<_;omega,fun t' ht=>by cases ht;show max t.e 0=t.e;omega⟩
     refine (hM.pm.ext hs.ext).rw.nbI hye.1 (by omega) fun b164 o165 y g164 t164=>?_;have hyt:∀t,tl=some t->m.mv[t.e.toNat]?=some y:=fun t ht=>by rw[<-hye.2.2 t ht];exact g164
     refine⟨_,_,_,_,_,_,t164,?_⟩;refine hs.newput (vs:=y.cs) rfl rfl fun h173 hs=>?_;have homv:=(hs.rows 8 (s:=omv2) (cs:=Mv.cs) rfl (by omega)).ln;have holi:=(hs.rows 9 (s:=oli2) (cs:=To.cs) rfl (by omega)).ln;have hno:(tl=none\/x.ev≠y.ev)->(minX m C i tl (Q2,mv2,li2) x).2.2=li2:=by
      intro h;unfold minX;cases tl with
      | none=>exact Yw _
      | some t=>
       show li2++(match m.mv[t.e.toNat]? with | some y=>if x.ev=y.ev then [⟨(i:Nat),t.k,(mv2.length:Nat)⟩] else [] | none=>[])=li2;rw[hyt t rfl];rcases h with h | h
       .cases h
       .show li2++(if x.ev=y.ev then _ else _)=li2;rw[if_neg h,Yw]
     have hyes:∀t,tl=some t->x.ev=y.ev->(minX m C i tl (Q2,mv2,li2) x).2.2=li2++[⟨(i:Nat),t.k,(mv2.length:Nat)⟩]:=by
      intro t ht h;unfold minX;subst ht;show li2++(match m.mv[t.e.toNat]? with | some y=>if x.ev=y.ev then [⟨(i:Nat),t.k,(mv2.length:Nat)⟩] else [] | none=>[])=_;rw[hyt t rfl];show li2++(if x.ev=y.ev then _ else _)=_;rw[if_pos h]
     have hminl:=minX_len m C i tl (Q2,mv2,li2) x;have hminq:(minX m C i tl (Q2,mv2,li2) x).1=addQ Q2 cx:=by unfold minX;rw[hcxg]
     have hminm:(minX m C i tl (Q2,mv2,li2) x).2.1=mv2++[⟨(i:Nat),x.send,x.peer,x.label,(idxF (addQ Q2 cx) cx:Nat),x.ag⟩]:=by unfold minX;rw[hcxg]
     generalize hLI:(minX m C i tl (Q2,mv2,li2) x).2.2=LI at *;refine⟨fun h'=>∃oli',St h h' (.blk h161.size y.cs 81 :: .blk h139.size x.cs 81 :: .blk h124.size tt.cs 44::(mnA h99.size h38.size h25.size h18.size h7.size h.size h71.size m sf sm sl sc q3 s119 omv2 oli' C (addQ Q2 cx) NUM3 (fin++[bf]) mv2 LI SM (MS.map Prod.fst)++MS.map (nest 81 6 Mv.cs))),?_,?_⟩
     .have hJ:LI=li2->∃oli',St h h173 (.blk h161.size y.cs 81 :: .blk h139.size x.cs 81 :: .blk h124.size tt.cs 44::(mnA h99.size h38.size h25.size h18.size h7.size h.size h71.size m sf sm sl sc q3 s119 omv2 oli' C (addQ Q2 cx) NUM3 (fin++[bf]) mv2 LI SM (MS.map Prod.fst)++MS.map (nest 81 6 Mv.cs))):=fun e=>by rw[e];exact⟨oli2,hs⟩
      refine sB_intro (fun c6=>?_) (fun c6=>?_)
      .obtain⟨t,ht⟩:=Option.isSome_iff_exists.1 c6;have hte:tt=t:=by rw[<-htt,ht];rfl
       refine⟨_,hs.rd 1 rfl rfl,_,hs.rd 0 rfl rfl,?_⟩;refine sB_intro (fun c7=>?_) (fun c7=>hJ (hno (.inr fun e=>by have e1:=congrArg Ev.send e;have e1:x.send=y.send:=e1;rw[e1] at c7;simp at c7)));refine⟨_,hs.rd 1 rfl rfl,_,hs.rd 0 rfl rfl,?_⟩;refine sBe (fun c8=>?_) (fun c8=>hJ (hno (.inr fun e=>c8 (congrArg Ev.peer e))));refine⟨_,hs.rd 1 rfl rfl,_,hs.rd 0 rfl rfl,?_⟩;refine sBe (fun c9=>?_) (fun c9=>hJ (hno (.inr fun e=>c9 (congrArg Ev.label e))));have hev:x.ev=y.ev:=ev_ext (show x.send=y.send by simpa using c7) c8 c9;refine⟨oli2,hs.rd 3 rfl rfl,_,hs.rd 2 rfl rfl,omv2,hs.rd 3 rfl rfl,?_⟩;refine hs.app 9 rfl app25 (m:=1) [To.cs ⟨(i:Nat),tt.k,(omv2.n:Nat)⟩] rfl rfl (fun r hr=>by rw[Ye] at hr;rw[hr];rfl) rfl (by omega) (by simp only[maxLen];omega) fun s185 h186 n185 hs=>?_;refine hs.put 3 rfl (o:=5) (vs:=[.slice s185.a s185.n s185.c]) rfl (show 6<=6 by decide) fun h187 hs=>?_;refine⟨s185,?_⟩;rw[hyes t ht hev];unfold mnA;rw[Ym (l₁:=li2),<-hte,<-homv];exact hs
      .have:tl=none:=by cases tl with
        | none=>rfl
        | some t=>cases c6
       exact hJ (hno (.inl this))
     .rintro-h188 ⟨oli',hs⟩;have hnc:=hNQ3.2 cx hcxb;rw[if_pos addQ_mem] at hnc;refine⟨⟨by omega,by omega⟩,?_⟩;rw[show 0+Int.toNat (cx:Int)*1=cx by omega];refine⟨_,hs.rd 5 rfl (by rw[Yd,hnc];rfl),?_⟩;refine hs.put 1 rfl (o:=0) (vs:=[.int .i64 (i:Nat)]) rfl (show 1<=6 by decide) fun h190 hs2=>?_;refine⟨sm_cons (hs.same hs2 5 5 rfl rfl) sm_nil,?_⟩;refine hs2.put 1 rfl (o:=4) (vs:=[.int .i64 (idxF (addQ Q2 cx) cx:Nat)]) rfl (show 5<=6 by decide) fun h191 hs=>?_;refine⟨omv2,hs.rd 3 rfl rfl,_,_,_,_,_,_,hs.at 1 rfl (n:=6) rfl,?_⟩;refine hs.app 8 rfl app31 (m:=1) [Mv.cs ⟨(i:Nat),x.send,x.peer,x.label,(idxF (addQ Q2 cx) cx:Nat),x.ag⟩] rfl rfl (fun r hr=>by rw[Ye] at hr;rw[hr];rfl) rfl (by omega) (by simp only[maxLen];omega) fun s200 h201 n200 hs=>?_;refine hs.put 3 rfl (o:=4) (vs:=[.slice s200.a s200.n s200.c]) rfl (show 5<=6 by decide) fun h202 hs=>?_;have hlm:(mv2++[(⟨(i:Nat),x.send,x.peer,x.label,(idxF (addQ Q2 cx) cx:Nat),x.ag⟩:Mv)]).length=mv2.length+1:=by simp
      refine⟨_,by omega,j+1,s200,oli',addQ Q2 cx,NUM3,mv2++[⟨(i:Nat),x.send,x.peer,x.label,(idxF (addQ Q2 cx) cx:Nat),x.ag⟩],LI,by rw[w64 (by omega) (by omega)];omega,rfl,by omega,?_,hQ.add hcxb,hNQ3,by omega,by have:=hminl.2;simp only at this;omega,Yys hQ2 addQ_len,?_⟩
      .unfold mnA;rw[Ym (l₁:=mv2)];exact hs.drop 2
      .rw[foldl_snoc g140,hfold];exact Prod.ext hminq (Prod.ext hminm hLI)
   .have hjn:j=OM.length:=by omega
    subst hjn;rw[Yye] at hfold;rw[hfold] at hmin;exact⟨_,by omega,i+1,s119,omv2,oli2,Q2,NUM2,fin++[bf],mv2,li2,by rw[w64 (by omega) (by omega)];omega,rfl,by omega,hs.drop 1,hQ,hNQ,by omega,by omega,by rw[Yh,hfinl];rfl,hmin⟩
  .have hiQ:i=Q.length:=by omega
   rw[show 202-i=(202-(i+1))+1 by omega,minN,Yl (by omega)] at hmin;replace hmin:minF m=⟨m.role,(Q.length:Nat),0,fin,mv,li⟩:=hmin;refine hs.put 0 rfl (o:=1) (vs:=[.int .i64 (q.n:Nat)]) rfl (show 2<=6 by decide) fun h205 hs=>?_;refine⟨_,_,_,ofn,omv,oli,hs.at 0 rfl (n:=6) rfl,?_⟩;refine hs.put 10 rfl (o:=0) (vs:=[.int .i64 m.role,.int .i64 (q.n:Nat),.int .i64 0,.slice ofn.a ofn.n ofn.c,.slice omv.a omv.n omv.c,.slice oli.a oli.n oli.c]) rfl (show 6<=6 by decide) fun h212 hs=>?_;refine⟨_,_,_,ofn,omv,oli,hs.at 10 rfl (n:=6) rfl,?_⟩;refine⟨ofn,omv,oli,?_,?_⟩
   .rw[hmin,hqn];rfl
   .rw[hmin];exact (hs.drop 4).sub (List.sublist_append_left [_,_,_] _)
 .rw[List.map_replicate];apply Yyr;intro s;rw[Yd,List.getElem?_replicate];by_cases hsn:s<m.n.toNat
  .rw[if_pos hsn,Yyb hsn];rfl
  .rw[if_neg hsn,Yl (by rw[Yyd];omega)];rfl
 .rw[List.map_replicate (f:=Prod.fst)];exact hs
end Go.VC
end

section
namespace Go.VC
open Go.LexS
def evOk (g:Gl) (x:Ev):Prop:=0<=x.peer/\x.peer<g.rs.length/\0<=x.label/\x.label<g.ds.length
theorem vis_ok {g:Gl} {role:Int} (hV:ValidS g) {e:Ed} (he:e∈g.es) {x:Ev} (hx:vis1 role e=some x):evOk g x:=by
 have:=hV.num.e e he;unfold EdS at this;unfold vis1 at hx;unfold evOk;split at hx
 .cases hx;simp only;omega
 .split at hx
  .cases hx;simp only;omega
  .cases hx
theorem evs_mem_ok {g:Gl} {role:Int} {p:PSet} (hV:ValidS g) {x:Ev} (hx:x∈evs g.es role p):evOk g x:=by
 unfold evs at hx;rw[sortE_mem] at hx;unfold evL at hx;obtain⟨n,_,h1⟩:=List.mem_flatMap.1 hx;obtain⟨a,ha,rfl⟩:=Yp.1 h1;unfold visL at ha;obtain⟨e,he,h2⟩:=Yym.1 ha;split at h2
 .rw[Yya] at h2;obtain⟨y,hy,rfl⟩:=h2;exact vis_ok hV he hy
 .cases h2
structure VI (g:Gl) (S:List PSet) (M:List Mv) (i:Nat):Prop where
 so:M.Pairwise mvLt
 mv:∀x∈M,0<=x.f/\x.f<i/\0<=x.t/\x.t<S.length/\evOk g x.ev
theorem rowI_le (S:List PSet) (p:PSet):rowI S p<(rowS S p).length:=by
 unfold rowS;split
 .rename_i h;exact rowI_lt.2 h
 .rename_i h;rw[rowI_of_not h,Yh];simp
theorem arcsF_vi {g:Gl} {role:Int} {i:Nat} {p:PSet}:∀(l:List Ev) (S:List PSet) (M:List Mv),l.Pairwise evLt->(∀x∈l,evOk g x)->M.Pairwise mvLt->(∀x∈M,0<=x.f/\(x.f<i\/(x.f=i/\∀y∈l,evLt x.ev y))/\0<=x.t/\x.t<S.length/\evOk g x.ev) ->
  VI g (arcsF g.es role i p l S M).1 (arcsF g.es role i p l S M).2 (i+1)/\S.length<=(arcsF g.es role i p l S M).1.length
 | [],S,M,_,_,hM,hm=>⟨⟨hM,fun x hx=>by obtain⟨h1,h2,h3,h4,h5⟩:=hm x hx;exact⟨h1,by rcases h2 with h2 | h2;omega;(have:=h2.1;omega),h3,h4,h5⟩⟩,Yyt _⟩
 | x::r,S,M,hl,hok,hM,hm=>by
  rw[arcsF];rw[List.pairwise_cons] at hl;have hlen:=rowS_len (S:=S) (p:=clo g.es role (toL g.es role p x));have hri:=rowI_le S (clo g.es role (toL g.es role p x));have ih:=arcsF_vi (g:=g) (role:=role) (i:=i) (p:=p) r (rowS S (clo g.es role (toL g.es role p x))) (M++[⟨i,x.send,x.peer,x.label,rowI S (clo g.es role (toL g.es role p x)),false⟩]) hl.2 (fun y hy=>hok y (Yn _ hy)) ?_ ?_
  .exact⟨ih.1,Yys hlen.2 ih.2⟩
  .rw[List.pairwise_append];refine⟨hM,List.pairwise_singleton _ _,fun a ha b hb=>?_⟩;rw[Ye] at hb;subst hb;obtain⟨_,h2,_⟩:=hm a ha;rcases h2 with h2 | ⟨h2,h3⟩
   .exact .inl h2
   .exact .inr ⟨h2,h3 x (Yx ..)⟩
  .intro y hy;rcases Yk.1 hy with hy | hy
   .obtain⟨h1,h2,h3,h4,h5⟩:=hm y hy;refine⟨h1,?_,h3,by omega,h5⟩;rcases h2 with h2 | ⟨h2,h6⟩
    .exact .inl h2
    .exact .inr ⟨h2,fun z hz=>h6 z (Yn _ hz)⟩
   .rw[Ye] at hy;subst hy;exact⟨by simp only;omega,.inr ⟨rfl,fun z hz=>hl.1 z hz⟩,by simp only;omega,by simp only;omega,hok x (Yx ..)⟩
theorem viewsF_vi {g:Gl} {role:Int} (hV:ValidS g):∀(f i:Nat) (S:List PSet) (M:List Mv) {S':List PSet} {M':List Mv},VI g S M i->i<=S.length->S.length<=200->viewsF g.es role f i S M=some (S',M')->VI g S' M' S'.length/\S'.length<=200/\S.length<=S'.length
 | 0,_,_,_,_,_,_,_,_,h=>by cases h
 | f+1,i,S,M,S',M',hv,hi,hS,h=>by
  rw[viewsF] at h;cases hg:S[i]? with
  | none=>
   rw[hg] at h;cases h;have:i=S.length:=by have:=List.getElem?_eq_none_iff.1 hg;omega
   subst this;exact⟨hv,hS,Yyt _⟩
  | some p=>
   rw[hg] at h;replace h:(if (arcsF g.es role i p (evs g.es role p) S M).1.length>200 then none else viewsF g.es role f (i+1) (arcsF g.es role i p (evs g.es role p) S M).1 (arcsF g.es role i p (evs g.es role p) S M).2)=some (S',M'):=h;have hil:=(Ya.1 hg).1;obtain⟨h1,h2⟩:=arcsF_vi (g:=g) (role:=role) (i:=i) (p:=p) (evs g.es role p) S M (sortE_sorted _) (fun x hx=>evs_mem_ok hV hx) hv.so (fun x hx=>by obtain⟨a,b,c,d,e⟩:=hv.mv x hx;exact⟨a,.inl b,c,d,e⟩);split at h
   .cases h
   .rename_i h3;have:=viewsF_vi hV f (i+1) _ _ h1 (by omega) (by omega) h;exact⟨this.1,this.2.1,Yys h2 this.2.2⟩
theorem views_vi {g:Gl} {role:Int} (hV:ValidS g) {S:List PSet} {M:List Mv} (h:views g role=some (S,M)):VI g S M S.length/\S.length<=200/\1<=S.length:=by
 unfold views at h;exact viewsF_vi hV 202 0 _ [] ⟨List.Pairwise.nil,fun x hx=>by cases hx⟩ (by simp) (by simp) h
theorem own_k {g:Gl} (hT:TimS g) (role:Int):∀t∈ownT g.es g.ts role g.n.toNat,0<=t.k/\t.k<=1000:=by
 have upd:∀(T:List Ti) (n:Nat) (f:Ti->Ti),(∀t∈T,0<=t.k/\t.k<=1000)->(∀t∈T,0<=(f t).k/\(f t).k<=1000)->∀t∈updT T n f,0<=t.k/\t.k<=1000:=by
  intro T n f h1 h2 t ht;unfold updT at ht;split at ht
  .rename_i t0 h0;rcases List.mem_or_eq_of_mem_set ht with h | rfl
   .exact h1 t h
   .exact h2 t0 (Yb h0)
  .exact h1 t ht
 have h0:∀t∈(ownE g.es role g.n.toNat).2,0<=t.k/\t.k<=1000:=by
  unfold ownE
  suffices h:∀(l:List Ed) (s:List Bool × List Ti),(∀t∈s.2,0<=t.k/\t.k<=1000)->∀t∈(l.foldl (own1 role) s).2,0<=t.k/\t.k<=1000 from h _ _ fun t ht=>by rw[List.mem_replicate] at ht;rw[ht.2];exact⟨by decide,by decide⟩
  intro l
  induction l with
  | nil=>intro s h;exact h
  | cons a l ih=>
   intro s h;rw[List.foldl_cons];refine ih _ ?_;unfold own1;split
   .exact upd _ _ _ h fun t ht=>h t ht
   .exact h
 unfold ownT
 suffices h:∀(l:List To) (T:List Ti),(∀x∈l,x∈g.ts)->(∀t∈T,0<=t.k/\t.k<=1000)->∀t∈l.foldl (own2 g.es (ownE g.es role g.n.toNat).1) T,0<=t.k/\t.k<=1000 from h _ _ (fun x hx=>hx) h0
 intro l
 induction l with
 | nil=>intro T _ h;exact h
 | cons a l ih=>
  intro T hsub h;rw[List.foldl_cons];refine ih _ (fun x hx=>hsub x (Yn _ hx)) ?_;unfold own2;split
  .refine upd _ _ _ h fun t ht=>?_;obtain⟨i,hi⟩:=Yf.1 (hsub a (Yx ..));have:=(hT i a hi).k;exact⟨by show 0<=a.k;omega,this.2⟩
  .exact h
theorem viewV_k {F:Nat->List Ev} {en:Nat->Bool} {O:List Bool} {T:List Ti} {l:List Nat} {o:Ti} (hT:∀t∈T,0<=t.k/\t.k<=1000) (h:viewV F en O T l=some o):0<=o.k/\o.k<=1000:=by
 unfold viewV at h;rw[Yya] at h;obtain⟨q,hq,rfl⟩:=h
 suffices hh:∀(m:List Nat) (st:Option (Bool × Ti)),(∀q,st=some q->0<=q.2.k/\q.2.k<=1000)->∀q,m.foldl (stepV F en O T l) st=some q->0<=q.2.k/\q.2.k<=1000 from hh l _ (fun q hq=>by cases hq;exact⟨by decide,by decide⟩) q hq
 intro m
 induction m with
 | nil=>intro st h q hq;exact h q hq
 | cons a m ih=>
  intro st h q hq;rw[List.foldl_cons] at hq;refine ih _ ?_ q hq;intro q' hq';unfold stepV at hq';split at hq'
  .cases hq'
  .split at hq'
   .cases hq'
   .split at hq'
    .rename_i t ht;split at hq'
     .cases hq'
     .cases hq';exact hT _ (Yb (by assumption))
    .cases hq';exact h _ rfl
theorem rawL_ok {g:Gl} {vw:List Nat->Option Ti} (hk:∀l o,vw l=some o->0<=o.k/\o.k<=1000):∀(n:Nat) (S:List PSet) (M:List Mv) (L:List To) {M':List Mv} {L':List To} {tot:Nat},n+S.length=tot->M.Pairwise mvLt->(∀x∈M,0<=x.f/\x.f<tot/\0<=x.t/\x.t<tot/\evOk g x.ev)->L.length<=n*M.length ->
  (∀t∈L,0<=t.s/\t.s<tot/\0<=t.e/\t.e<M.length/\0<=t.k/\t.k<=1000)->rawL vw n S M L=some (M',L') ->
  M'.Pairwise mvLt/\(∀x∈M',0<=x.f/\x.f<tot/\0<=x.t/\x.t<tot/\evOk g x.ev)/\M'.length=M.length/\L'.length<=tot*M.length/\∀t∈L',0<=t.s/\t.s<tot/\0<=t.e/\t.e<M.length/\0<=t.k/\t.k<=1000
 | n,[],M,L,M',L',tot,ht,hM,hm,hL,hl,h=>by
  cases h;have:n=tot:=by simpa using ht
  subst this;exact⟨hM,hm,rfl,hL,hl⟩
 | n,p::S,M,L,M',L',tot,ht,hM,hm,hL,hl,h=>by
  rw[rawL] at h;cases hv:vw (elems p) with
  | none=>rw[hv] at h;cases h
  | some o=>
   rw[hv] at h;replace h:rawL vw (n+1) S (M.map (updR n o)) (L++limR n o M)=some (M',L'):=h;rw[Yyj] at ht;have hko:=hk _ _ hv;have hup:∀x,(updR n o x).f=x.f/\(updR n o x).ev=x.ev/\(updR n o x).t=x.t:=fun x=>by
    obtain⟨h1,h2,h3,h4,h5⟩:=updR_same n o x;exact⟨h1,by unfold Mv.ev;rw[h2,h3,h4],h5⟩
   have hlen:(M.map (updR n o)).length=M.length:=Yc _;have:=rawL_ok (g:=g) hk (n+1) S (M.map (updR n o)) (L++limR n o M) (tot:=tot) (by omega) ?_ ?_ ?_ ?_ h
   .rw[hlen] at this;exact this
   .rw[List.pairwise_map];refine hM.imp fun {a b} hab=>?_;unfold mvLt at hab ⊢;rw[(hup a).1,(hup b).1,(hup a).2.1,(hup b).2.1];exact hab
   .intro x hx;obtain⟨y,hy,rfl⟩:=Yp.1 hx;rw[(hup y).1,(hup y).2.1,(hup y).2.2];exact hm y hy
   .rw[hlen,Yh,Nat.succ_mul];have:=limR_len n o M;omega
   .rw[hlen];intro t htm;rcases Yk.1 htm with htm | htm
    .exact hl t htm
    .unfold limR at htm;obtain⟨q,hq,h2⟩:=Yym.1 htm;have hqi:=List.snd_lt_of_mem_zipIdx hq;unfold limC at h2;split at h2
     .cases h2;simp only;omega
     .cases h2
theorem raw_ok {g:Gl} {role:Int} {m:Mch} (hr:g.rs.length<=1048576) (hd:g.ds.length<=1048576) (h:raw g role=(some m,0)):MOk m/\m.mv.Pairwise mvLt:=by
 unfold raw at h;split at h
 .cases h
 .rename_i hv;obtain⟨hV,hr0,hr1⟩:=Decidable.not_not.1 hv;cases hw:views g role with
  | none=>rw[hw] at h;cases h
  | some q=>
   obtain⟨S,M⟩:=q;rw[hw] at h;replace h:(if M.length>400 then ((none,6):Option Mch × Int) else
    match rawL (vwG g role) 0 S M [] with
    | none=>(none,18)
    | some (M',L)=>(some ⟨role,S.length,0,S.map (fun p=>p g.e.toNat),M',L⟩,0))=(some m,0):=h
   split at h
   .cases h
   .rename_i hM;cases hl:rawL (vwG g role) 0 S M [] with
    | none=>rw[hl] at h;cases h
    | some q=>
     obtain⟨M',L⟩:=q;rw[hl] at h;cases h;obtain⟨h1,h2,h3⟩:=views_vi hV hw;obtain⟨h4,h5,h6,h7,h8⟩:=rawL_ok (g:=g) (fun l o ho=>viewV_k (own_k hV.tim role) ho) 0 S M [] (tot:=S.length) (by omega) h1.so h1.mv (by simp) (fun t ht=>by cases ht) hl;refine⟨⟨by simp only;omega,by simp only;omega,?_,by simp only;omega,?_,fun x hx=>?_,fun t ht=>?_⟩,h4⟩
     .simp
     .have:S.length*M.length<=200*400:=Nat.mul_le_mul h2 (by omega);simp only;omega
     .obtain⟨a,b,c,d,e⟩:=h5 x hx;unfold evOk Mv.ev at e;simp only at *;omega
     .have:=h8 t ht;simp only at *;omega
end Go.VC
end

section
namespace Go.VC
open Go.Proofs Go.LexS
noncomputable def proj (g:Gl) (role:Int):Option Mch × Int:=match raw g role with
 | (some m,_)=>(some (minF m),0)
 | (none,e)=>(none,e)
theorem St.mi {h0 h:Heap} {L:List It} {m:Mch} {sf sm sl:Sl} (hs:St h0 h L) (k:Nat) (h1:L[k]?=some (.sl sf 4 1 (m.fin.map bC))) (h2:L[k+1]?=some (.sl sm 81 6 (m.mv.map Mv.cs))) (h3:L[k+2]?=some (.sl sl 44 3 (m.li.map To.cs)))
  (b1:m.fin.length<=1048576) (b2:m.mv.length<=1048576) (b3:m.li.length<=1048576):MI h m sf sm sl:=by
 have l1:=hs.len k h1 (by omega);have l2:=hs.len (k+1) h2 (by omega);have l3:=hs.len (k+2) h3 (by omega);exact⟨⟨hs.rows k h1 (by omega),l1.2.1,l1.2.2,b1⟩,⟨hs.rows (k+1) h2 (by omega),l2.2.1,l2.2.2,b2⟩,⟨hs.rows (k+2) h3 (by omega),l3.2.1,l3.2.2,b3⟩⟩
theorem project12 (g:Gl) (role:Int) (h:Heap) (hg:GI h g) (hx:Gx h) :
  Fn Pz 35 #[g.v,.int .i64 role] h fun v h'=>Ext h h'/\MaR (proj g role) h h' v:=by
 apply vc35 (bs g.nm) g.hr g.hd g.n g.s g.e g.he g.ht;unfold W35;have hs:=St.refl h;refine hs.newb fun h9 hs=>?_;refine hs.newb fun h10 hs=>?_;refine⟨_,_,_,_,_,_,_,_,hs.at 1 rfl (n:=8) rfl,?_⟩;refine (raw14 g role h10 (hg.ext hs.ext) (hx.ext hs.ext)).mono ?_;rintro _ h27 ⟨E27,hr⟩;cases hr with
 | @err e he h0=>
  replace hs:=hs.step E27;refine⟨0,0,0,⟨none,0,0⟩,⟨none,0,0⟩,⟨none,0,0⟩,e,rfl,?_⟩;refine hs.newput (vs:=m0) rfl rfl fun h29 hs=>?_;refine sBn (fun c1=>?_) (fun c1=>absurd c1 h0);refine hs.put 1 rfl (o:=0) (vs:=m0) rfl (by decide) fun h30 hs=>?_;refine⟨0,0,0,⟨none,0,0⟩,⟨none,0,0⟩,⟨none,0,0⟩,hs.at 1 rfl (n:=6) rfl,hs.ext,?_⟩;exact .err (by unfold proj;rw[he]) h0
 | @ok m sf sm sl he hm=>
  obtain⟨hO,hS⟩:=raw_ok hg.r.sm hg.d.r.sm he;replace hs:=hs.join hm;refine⟨m.role,m.n,m.s,sf,sm,sl,0,rfl,?_⟩;refine hs.newput (vs:=mC m sf sm sl) rfl rfl fun h29 hs=>?_;refine sBn (fun c1=>absurd rfl c1) (fun _=>?_);refine⟨_,_,_,sf,sm,sl,hs.at 0 rfl (n:=6) rfl,?_⟩;have hfl:=hO.fl;have hn:=hO.n;have hml:=hO.ml;have hll:=hO.ll;refine (minimal36 m sf sm sl h29 (hs.mi 3 rfl rfl rfl (by omega) (by omega) (by omega)) hO hS).mono ?_;rintro _ h50 ⟨sf',sm',sl',rfl,hs2⟩;replace hs:=hs.join hs2;refine⟨_,_,_,sf',sm',sl',rfl,?_⟩;refine hs.put 1 rfl (o:=0) (vs:=mC (minF m) sf' sm' sl') rfl (show 6<=6 by decide) fun h51 hs=>?_;refine⟨_,_,_,sf',sm',sl',hs.at 1 rfl (n:=6) rfl,hs.ext,?_⟩;exact .ok (m:=minF m) (by unfold proj;rw[he]) (hs.drop 6)
structure NumM (m:Mch):Prop where
 r:0<=m.role/\m.role<6
 n:1<=m.n/\m.n<=200
 s:0<=m.s/\m.s<m.n
 fl:(m.fin.length:Int)=m.n
 ml:m.mv.length<=400
 mv:∀x∈m.mv,0<=x.f/\x.f<m.n/\0<=x.t/\x.t<m.n/\0<=x.peer/\x.peer<6/\x.peer≠m.role/\0<=x.label/\x.label<40
theorem state151 (m:Mch) (sf sm sl:Sl) (p:Int) (h:Heap):Fn Pz 151 #[.agg ⟨mC m sf sm sl⟩,.int .i64 p] h (RP (0<=p/\p<m.n) h):=by
 apply vc151 m.role m.n m.s sf sm sl;unfold W151;refine (St.refl h).newb fun h7 hs=>?_;refine sBi (fun c=>⟨_,hs.rd 0 rfl rfl,RP.e ?_ hs.ext⟩) (fun c=>RP.f (by omega) hs.ext);rw[decide_eq_true_eq];omega
theorem numbers96 (m:Mch) (sf sm sl:Sl) (h:Heap) (hM:MI h m sf sm sl):Fn Pz 96 #[.agg ⟨mC m sf sm sl⟩] h (RP (NumM m) h):=by
 apply vc96 m.role m.n m.s sf sm sl;unfold W96;have hfn:=hM.pf.ln;have hmn:=hM.pm.ln;have hmm:=hM.pm.sm;refine (St.refl h).newb fun h7 hs=>?_;refine⟨_,hs.rd 0 rfl rfl,sBi (fun c=>RP.f (fun hG=>by have:=hG.r;omega) hs.ext) (fun c1=>?_)⟩;refine⟨_,hs.rd 0 rfl rfl,sBi (fun c=>RP.f (fun hG=>by have:=hG.r;omega) hs.ext) (fun c2=>?_)⟩;refine⟨_,hs.rd 0 rfl rfl,sBi (fun c=>RP.f (fun hG=>by have:=hG.n;omega) hs.ext) (fun c3=>?_)⟩;refine⟨_,hs.rd 0 rfl rfl,sBi (fun c=>RP.f (fun hG=>by have:=hG.n;omega) hs.ext) (fun c4=>?_)⟩;refine⟨_,_,_,sf,sm,sl,hs.at 0 rfl (o:=0) (n:=6) rfl,_,hs.rd 0 rfl rfl,?_⟩;refine (state151 m sf sm sl m.s h7).mono ?_;rintro _ h21 ⟨⟨b1,rfl,hb1⟩,E⟩;have hs:=hs.step E;refine⟨_,rfl,sB_intro (fun c=>RP.f (fun hG=>iff_f hb1 (bF c) hG.s) hs.ext) (fun c5=>?_)⟩;have f5:=hb1.1 (bT c5);refine⟨sf,hs.rd 0 rfl rfl,_,hs.rd 0 rfl rfl,sBn (fun c=>RP.f (fun hG=>by have:=hG.fl;omega) hs.ext) (fun c6=>?_)⟩;refine⟨sm,hs.rd 0 rfl rfl,sBi (fun c=>RP.f (fun hG=>by have:=hG.ml;omega) hs.ext) (fun c7=>?_)⟩;refine⟨sm,hs.rd 0 rfl rfl,?_⟩;refine up_loopS (n:=sm.n) hs (fun i=>∀(j:Nat) (x:Mv),j<i->m.mv[j]?=some x->0<=x.f/\x.f<m.n/\0<=x.t/\x.t<m.n/\0<=x.peer/\x.peer<6/\x.peer≠m.role/\0<=x.label/\x.label<40) (fun j x hj=>by omega) ?_;rintro-i h30 hi ⟨hs,hq⟩;refine sB_intro (fun c=>?_) (fun c=>RP.t ⟨by omega,by omega,f5,by omega,by omega,fun x hx=>?_⟩ hs.ext)
 .replace c:=lt_t c;refine (hM.pm.rw.ext hs.ext).nbI (by omega) (by omega) fun b o x gx t=>?_;replace gx:m.mv[i]?=some x:=gx;have hxm:=Yb gx;refine⟨_,_,_,_,_,_,t,?_⟩;refine hs.newput (vs:=x.cs) rfl rfl fun h40 hs=>?_;refine⟨_,_,_,sf,sm,sl,hs.at 1 rfl (o:=0) (n:=6) rfl,_,hs.rd 0 rfl rfl,?_⟩;refine (state151 m sf sm sl x.f h40).mono ?_;rintro _ h50 ⟨⟨b2,rfl,hb2⟩,E⟩;have hs:=hs.step E;refine⟨_,rfl,sB_intro (fun c=>RP.f (fun hG=>iff_f hb2 (bF c) (by have:=hG.mv x hxm;omega)) hs.ext) (fun d1=>?_)⟩;refine⟨_,_,_,sf,sm,sl,hs.at 1 rfl (o:=0) (n:=6) rfl,_,hs.rd 0 rfl rfl,?_⟩;refine (state151 m sf sm sl x.t h50).mono ?_;rintro _ h60 ⟨⟨b3,rfl,hb3⟩,E⟩;have hs:=hs.step E;refine⟨_,rfl,sB_intro (fun c=>RP.f (fun hG=>iff_f hb3 (bF c) (by have:=hG.mv x hxm;omega)) hs.ext) (fun d2=>?_)⟩;have g1:=hb2.1 (bT d1);have g2:=hb3.1 (bT d2)
  repeat' (first
    | (refine⟨_,hs.rd 0 rfl rfl,?_⟩)
    | (refine⟨_,hs.rd 1 rfl rfl,?_⟩)
    | (refine sBi (fun _=>?_) (fun _=>?_))
    | (refine sBe (fun _=>?_) (fun _=>?_))
    | (refine sBn (fun _=>?_) (fun _=>?_)))
  all_goals first
   | exact RP.f (fun hG=>by have:=hG.mv x hxm;omega) hs.ext
   | (refine Up.next c (by omega) ⟨hs.drop 1,fun j y hj hy=>?_⟩
      by_cases e:j=i
      .subst e;rw[gx] at hy;cases hy;omega
      .exact hq j y (by omega) hy)
 .replace c:=lt_f c;obtain⟨j,hj⟩:=Yf.1 hx;exact hq j x (by have:=(Ya.1 hj).1;omega) hj
def outP (m:Mch) (s:Int) (i:Nat):Bool:=match m.mv[i]? with | some x=>decide (x.f=s) | none=>false
def outIx (m:Mch) (s:Int):List Nat:=(List.range m.mv.length).filter (outP m s)
theorem outIx_mem {m:Mch} {s:Int} {k:Nat}:k∈outIx m s ↔ ∃x,m.mv[k]?=some x/\x.f=s:=by
 unfold outIx;rw[List.mem_filter,List.mem_range];constructor
 .rintro⟨h1,h2⟩;unfold outP at h2;rw[Yi h1] at h2;exact⟨_,Yi h1,Yyn h2⟩
 .rintro⟨x,hx,hf⟩;refine⟨(Ya.1 hx).1,?_⟩;unfold outP;rw[hx];exact decide_eq_true hf
def evI (m:Mch) (i:Nat):Ev:=match m.mv[i]? with | some x=>x.ev | none=>⟨false,0,0⟩
structure SrtM (m:Mch) (s:Nat) (l:List Nat):Prop where
 p:l.Perm (outIx m (s:Int))
 s:l.Pairwise fun a b=>¬evLt (evI m b) (evI m a)
structure TbI (h:Heap) (a:Addr) (m:Mch) (sf sm sl:Sl) (S:Nat->List Nat):Prop where
 ex:∃(ho:Sl) (qs:Nat->Sl),a.spot=none/\atC h a (mC m sf sm sl++[.slice ho.a ho.n ho.c])/\ho.n=m.n.toNat /\
  Rw h 1 ho ((List.range m.n.toNat).map fun i=>slC (qs i))/\∀i,i<m.n.toNat->Rw h 1 (qs i) ((natI (S i)).map inC)
 so:∀i,i<m.n.toNat->SrtM m i (S i)
theorem TbI.ext {h h':Heap} {a:Addr} {m:Mch} {sf sm sl:Sl} {S:Nat->List Nat} (hl:TbI h a m sf sm sl S) (E:Ext h h'):TbI h' a m sf sm sl S:=by
 obtain⟨ho,qs,h0,h1,h2,h3,h4⟩:=hl.ex;exact⟨⟨ho,qs,h0,atC_ext E h1,h2,h3.ext E,fun i hi=>(h4 i hi).ext E⟩,hl.so⟩
def Sort152:Prop:=∀(m:Mch) (sm:Sl) (a:Addr) {h0 h:Heap} {Ls:List It},St h0 h Ls->∀(i:Nat) {s:Sl} {l:List Nat},Ls[i]?=some (.sl s 3 1 ((natI l).map inC))->(∀x∈l,x<m.mv.length)->(l=[]->s.a=none)->m.mv.length<=1048576->l.length<=1048576 ->
 (∀h':Heap,h.size<=h'.size->(∀c,c<h.size->s.a.map (·.block)≠some c->h'[c]?=h[c]?)->hc h' ⟨a.block,a.off+4,none⟩=some (.slice sm.a sm.n sm.c)/\Rw h' 6 sm (m.mv.map Mv.cs)) ->
 Fn Pz 152 #[.slice s.a s.n s.c,.func (.func 153) #[] #[.pointer (some a)]] h fun v h'=>v=.tuple ⟨[]⟩/\∃l':List Nat,l'.Perm l/\l'.Pairwise (fun a b=>¬evLt (evI m b) (evI m a))/\St h0 h' (Ls.set i (.sl s 3 1 ((natI l').map inC)))
end Go.VC
end

section
namespace Go.VC
open Go.Proofs Go.Shelf
theorem swo_on {α β:Type} {cf:β->β->Int} (hO:Go.Sort.SWO (ltOf cf)) (f:α->β):Go.Sort.SWO (ltOf fun i j=>cf (f i) (f j)) where
 irrefl x:=hO.irrefl (f x)
 trans x y z:=hO.trans (f x) (f y) (f z)
 ntrans x y z:=hO.ntrans (f x) (f y) (f z)
theorem fin_list {n:Nat}:∀ {l:List Nat},(∀x∈l,x<n)->∃k:List (Fin n),l=k.map Fin.val
 | [],_=>⟨[],rfl⟩
 | a::l,h=>by
  obtain⟨k,hk⟩:=fin_list (l:=l) fun x hx=>h x (Yn _ hx);exact⟨⟨a,h a Yx⟩::k,by rw[Yyl,<-hk]⟩
def finE {n:Nat} (k:Fin n):Value:=.int .i64 ((k.val:Nat):Int)
theorem natI_fin {n:Nat} (k:List (Fin n)):(natI (k.map Fin.val)).map inC=k.map fun x=>[finE x]:=by
 unfold natI;rw[List.map_map,List.map_map];rfl
theorem sort152:Sort152:=by
 intro m sm a h0 h Ls hs i s l hi hlm hnil hml hll hread;by_cases hl0:l=[]
 .subst hl0;have ha:=hnil rfl;have hget:=hs.get hi;rcases hget.1.2 with ⟨_,hn0,hc0⟩ | ⟨b,cur,ha',_⟩
  .have hset:Ls.set i (.sl s 3 1 ((natI []).map inC))=Ls:=by
    obtain⟨p,q⟩:=Ya.1 hi;rw[<-q];exact List.set_getElem_self p
   intro w hw;subst hw;rw[ha,hn0,hc0];refine (AnyF.slices_SortFunc_none { Tryz.sortL152 with } none ((0:Nat):Nat) (.func (.func 153) #[] #[.pointer (some a)]) w).mono ?_;rintro e' w' ⟨rfl,rfl⟩;exact⟨_,rfl,⟨rfl,[],List.Perm.refl _,List.Pairwise.nil,by rw[hset];exact hs⟩,rfl,rfl,rfl,trivial⟩
  .rw[ha] at ha';cases ha'
 .have hpos:0<m.mv.length:=by
   cases l with
   | nil=>exact absurd rfl hl0
   | cons x r=>have:=hlm x Yx;omega
  haveI:Inhabited (Fin m.mv.length):=⟨⟨0,hpos⟩⟩
  obtain⟨k,rfl⟩:=fin_list hlm;have hi':Ls[i]?=some (.sl s 3 1 (k.map fun x=>[finE x])):=by rw[hi,natI_fin]
  rw[Yc] at hll;refine Fn.mono (sort_own1 Tryz.sortL152 3 (finE (n:=m.mv.length)) (fun _=>rfl) (fun x y:Fin m.mv.length=>cmpE (evI m x.val) (evI m y.val)) (swo_on swoE fun x:Fin m.mv.length=>evI m x.val) 153 #[.pointer (some a)] (enters_of Tryz.func153 (by kernel_rfl) rfl) hs i hi' (by omega) (fun x y h' hsz hoth=>?_)) ?_
  .obtain⟨r1,r2⟩:=hread h' hsz hoth;have g:∀x:Fin m.mv.length,m.mv[x.val]?=some m.mv[x.val]:=fun x=>Yi x.isLt;have ev:∀x:Fin m.mv.length,evI m x.val=m.mv[x.val].ev:=fun x=>by unfold evI;rw[g x]
   rw[ev x,ev y];exact @M.order153 monoDrawn m.mv sm a x.val y.val m.mv[x.val] m.mv[y.val] h' r1 r2 (g x) (g y)
  .rintro v h' ⟨rfl,k',hp,hw,hs'⟩;refine⟨rfl,k'.map Fin.val,hp.map _,?_,by rw[natI_fin];exact hs'⟩;rw[List.pairwise_map];refine hw.imp fun {a b} hab=>?_;unfold ltOf at hab;rw[decide_eq_false_iff_not,cmpE_neg] at hab;exact hab
end Go.VC
end

section
namespace Go.VC
open Go.Proofs Go.LexS
def tbA (m:Mch) (sf sm sl:Sl) (b bg:Nat) (ho:Sl) (qs:List (Sl × List Int)):List It:=
 [.blk b (mC m sf sm sl++[.slice ho.a ho.n ho.c]) 93,.sl ho 49 1 ((qs.map Prod.fst).map slC),.blk bg (mC m sf sm sl) 26]
structure TbL (m:Mch) (i:Nat) (qs:List (Sl × List Int)):Prop where
 l:qs.length=m.n.toNat
 q:∀(n:Nat) q,qs[n]?=some q->q.2=natI ((List.range i).filter (outP m n))
 e:∀(n:Nat) q,qs[n]?=some q->q.2=[]->q.1.a=none
theorem TbL.start (m:Mch):TbL m 0 (List.replicate m.n.toNat (⟨none,0,0⟩,[])):=
 ⟨by rw[Yg],fun n q hq=>by rw[List.eq_of_mem_replicate (Yb hq)];rfl,fun n q hq _=>by rw[List.eq_of_mem_replicate (Yb hq)]⟩
theorem TbL.len {m:Mch} {i n:Nat} {qs:List (Sl × List Int)} (h:TbL m i qs) {q:Sl × List Int} (hq:qs[n]?=some q):q.2.length<=i:=by
 rw[h.q n q hq,show (natI ((List.range i).filter (outP m n))).length=((List.range i).filter (outP m n)).length from Yc _];exact Yys (List.length_filter_le _ _) (by rw[Yyd];exact Yyt _)
theorem TbL.next {m:Mch} {i k:Nat} {qs:List (Sl × List Int)} {x:Mv} {q:Sl × List Int} {r:Sl} (h:TbL m i qs) (hx:m.mv[i]?=some x) (hm:x.f=(k:Int)) (hq:qs[k]?=some q):TbL m (i+1) (qs.set k (r,q.2++[(i:Int)])):=by
 refine⟨by rw[Yyh];exact h.l,fun n q' hq'=>?_,fun n q' hq' he=>by
  by_cases e:n=k
  .subst e;rw[Yq (Ya.1 hq).1] at hq';cases hq';exact absurd he (by simp)
  .rw[Yy (fun h=>e h.symm)] at hq';exact h.e n q' hq' he⟩
 have hp:outP m n i=decide (x.f=(n:Int)):=by unfold outP;rw[hx]
 rw[List.range_succ,List.filter_append];by_cases e:n=k
 .subst e;rw[Yq (Ya.1 hq).1] at hq';cases hq';rw[List.filter_cons_of_pos (by rw[hp];exact decide_eq_true hm),List.filter_nil,natI_snoc];show q.2++[(i:Int)]=_;rw[h.q n q hq]
 .rw[Yy (fun h=>e h.symm)] at hq';rw[List.filter_cons_of_neg (by rw[hp,decide_eq_false (by omega)];simp),List.filter_nil,Yw];exact h.q n q' hq'
structure TbS (m:Mch) (i:Nat) (qs:List (Sl × List Int)):Prop where
 l:qs.length=m.n.toNat
 q:∀(n:Nat) q,qs[n]?=some q->∃l:List Nat,q.2=natI l/\l.Perm (outIx m (n:Int))/\(n<i->l.Pairwise fun a b=>¬evLt (evI m b) (evI m a))
 e:∀(n:Nat) q,qs[n]?=some q->q.2=[]->q.1.a=none
theorem natI_back (l:List Nat):(natI l).map Int.toNat=l:=by
 unfold natI;rw[List.map_map];have:(Int.toNat∘fun c:Nat=>(c:Int))=id:=rfl;rw[this,List.map_id]
theorem sorted97 (m:Mch) (sf sm sl:Sl) (h:Heap) (hM:MI h m sf sm sl) (hN:NumM m) :
  Fn Pz 97 #[.agg ⟨mC m sf sm sl⟩] h fun v h'=>Ext h h'/\∃(b:Nat) (S:Nat->List Nat),v=.pointer (some ⟨b,0,none⟩)/\TbI h' ⟨b,0,none⟩ m sf sm sl S:=by
 apply vc97 m.role m.n m.s sf sm sl;unfold W97;have hmn:=hM.pm.ln;have hmm:=hM.pm.sm;have hn:=hN.n;have hml:=hN.ml;have hmx:m.n.toNat<=maxLen:=by simp only[maxLen];omega
 refine (St.refl h).newb fun h7 hs=>?_;have hs7:h.size<h7.size:=hc_blk (hs.rd 0 rfl (i:=0) rfl);refine⟨_,_,_,sf,sm,sl,hs.at 0 rfl (o:=0) (n:=6) rfl,_,hs.rd 0 rfl rfl,⟨by omega,by omega,by omega⟩,?_⟩;rw[made42];have hrep:((List.replicate m.n.toNat ((⟨none,0,0⟩,[]):Sl × List Int)).map Prod.fst)=List.replicate m.n.toNat (⟨none,0,0⟩:Sl):=List.map_replicate;refine hs.newbE fun h15 E15 hs=>⟨E15.sm,?_⟩;have hs:=hs.blkS m.n.toNat 1 _ rfl (slrows _) (by rw[Yc,Yg]) hmx;refine hs.newb fun h16 hs=>?_;obtain⟨ho,hho,hhn⟩:∃ho:Sl,ho=⟨some ⟨h7.size,0,none⟩,m.n.toNat,m.n.toNat⟩/\ho.n=m.n.toNat:=⟨_,rfl,rfl⟩;have hs:St h h16 (tbA m sf sm sl h15.size h.size ho (List.replicate m.n.toNat (⟨none,0,0⟩,[]))++(List.replicate m.n.toNat ((⟨none,0,0⟩,[]):Sl × List Int)).map (nest 3 1 inC)++[]):=by
  have h1:St h h16 (tbA m sf sm sl h15.size h.size ho (List.replicate m.n.toNat (⟨none,0,0⟩,[]))++[]):=by
   unfold tbA;rw[hrep,hho];exact hs
  exact h1.nests (α:=Int) (e:=3) (k:=1) (cs:=inC) m.n.toNat
 refine⟨sm,hs.rd 2 rfl rfl,?_⟩;refine up_loop (n:=sm.n) (fun i h'=>∃qs,TbL m i qs/\St h h' (tbA m sf sm sl h15.size h.size ho qs++qs.map (nest 3 1 inC)++[])) ⟨_,TbL.start m,hs⟩ ?_;clear hs;rintro-i h22 hi ⟨qs,hL,hs⟩;refine sB_intro (fun c=>?_) (fun c=>?_)
 .replace c:=lt_t c;refine (hM.pm.ext hs.ext).rw.nbI (by omega) (by omega) fun b23 o24 x gx t=>?_;replace gx:m.mv[i]?=some x:=gx;have hx:=hN.mv x (Yb gx);obtain⟨k,hk⟩:∃k:Nat,x.f=k:=⟨x.f.toNat,by omega⟩;obtain⟨q,hq⟩:=get_some (l:=qs) (i:=k) (by rw[hL.l];omega);have hql:=hL.len hq;have hqn:q.1.n=q.2.length:=by
   have:=hs.len (3+k) (s:=q.1) (e:=3) (n:=1) (rows:=q.2.map inC) (by
    have:=get_mid (P:=tbA m sf sm sl h15.size h.size ho qs) (Q:=qs.map (nest 3 1 inC)) (R:=[]) (i:=k) (by rw[Yc];exact (Ya.1 hq).1);rw[show (tbA m sf sm sl h15.size h.size ho qs).length=3 from rfl] at this;rw[this,Yd,hq];rfl) (by omega)
   rw[this.1,Yc]
  refine⟨_,_,_,_,_,_,t,?_⟩;refine hs.newput (vs:=x.cs) rfl rfl fun h32 hs=>?_;refine⟨ho,hs.rd 1 rfl rfl,_,hs.rd 0 rfl rfl,ho,hs.rd 1 rfl rfl,_,hs.rd 0 rfl rfl,?_⟩;refine (hs.rows 2 rfl (by omega)).nbI (cs:=slC) (L:=qs.map Prod.fst) (by omega) (by omega) fun b37 o38 d gd t37=>?_;have ed:d=q.1:=by
   rw[hk,show ((k:Int)).toNat=k from rfl,Yd,hq] at gd;exact (Yyp gd).symm
  subst ed;refine⟨_,t37.hd,?_⟩;refine hs.newbE fun h40 E40 hs=>⟨E40.sm,?_⟩;have hs':St h h40 ((.blk h32.size (inC (i:Int)) 3 :: .blk h22.size x.cs 81::tbA m sf sm sl h15.size h.size ho qs)++qs.map (nest 3 1 inC)++[]):=hs;refine hs'.nestAt hq app42 (i:Int) (hs'.at 0 rfl (n:=1) rfl) rfl rfl (by omega) (by simp only[maxLen];omega) fun r h42 hr hs3=>⟨sm_cons (hs'.same hs3 1 1 rfl rfl) (sm_cons (hs'.same hs3 2 2 rfl rfl) sm_nil),?_⟩;refine hs3.set 3 (cs:=slC) (l:=qs.map Prod.fst) rfl (by omega) (by omega) (by omega) r rfl rfl (fun b o h45 hs4=>?_) rfl;refine Up.next c (by omega) ⟨qs.set k (r,q.2++[(i:Int)]),hL.next gx hk hq,?_⟩;unfold tbA;rw[fst_set];rw[hk] at hs4;exact hs4.drop 2
 .replace c:=lt_f c;have him:i=m.mv.length:=by omega
  subst him;refine⟨ho,hs.rd 0 rfl rfl,?_⟩;have hS0:TbS m 0 qs:=⟨hL.l,fun n q hq=>⟨_,hL.q n q hq,List.Perm.refl _,fun hn=>by omega⟩,hL.e⟩;refine up_loop (n:=ho.n) (fun i h'=>∃qs,TbS m i qs/\St h h' (tbA m sf sm sl h15.size h.size ho qs++qs.map (nest 3 1 inC)++[])) ⟨qs,hS0,hs⟩ ?_;clear hs hS0 hL;rintro-i h52 hi ⟨qs,hS,hs⟩;have hl:=hS.l;refine sB_intro (fun c=>?_) (fun c=>?_)
  .replace c:=lt_t c;refine (hs.rows 1 rfl (by omega)).nbI (cs:=slC) (L:=qs.map Prod.fst) (by omega) (by omega) fun b53 o54 d gd t53=>?_;obtain⟨q,hq⟩:=get_some (l:=qs) (i:=i) (by omega);have ed:d=q.1:=by
    rw[show ((i:Int)).toNat=i from rfl,Yd,hq] at gd;exact (Yyp gd).symm
   subst ed;refine⟨_,t53.hd,?_⟩;obtain⟨l,hql,hlp,_⟩:=hS.q i q hq;have hilt:=(Ya.1 hq).1;have hidx:(tbA m sf sm sl h15.size h.size ho qs++qs.map (nest 3 1 inC)++[])[3+i]?=some (.sl q.1 3 1 ((natI l).map inC)):=by
    have:=get_mid (P:=tbA m sf sm sl h15.size h.size ho qs) (Q:=qs.map (nest 3 1 inC)) (R:=[]) (i:=i) (by rw[Yc];exact hilt);rw[show (tbA m sf sm sl h15.size h.size ho qs).length=3 from rfl] at this;rw[this,Yd,hq,<-hql];rfl
   have hlm:∀y∈l,y<m.mv.length:=fun y hy=>by
    obtain⟨x,hx,_⟩:=outIx_mem.1 (hlp.mem_iff.1 hy);exact (Ya.1 hx).1
   have hll:l.length<=1048576:=by
    rw[hlp.length_eq];unfold outIx;exact Yys (List.length_filter_le _ _) (by rw[Yyd];omega)
   have hbg:(tbA m sf sm sl h15.size h.size ho qs++qs.map (nest 3 1 inC)++[])[2]?=some (.blk h.size (mC m sf sm sl) 26):=rfl;have hap:∀b,q.1.a.map (·.block)=some b->b≠h.size:=fun b hb e=>by
    have h1:=(List.pairwise_iff_getElem.1 hs.ap) 2 (3+i) (Ya.1 hbg).1 (Ya.1 hidx).1 (by omega);rw[(Ya.1 hbg).2,(Ya.1 hidx).2] at h1;exact h1 h.size rfl (by show q.1.a.map (·.block)=_;rw[hb,e])
   have hfr:∀b,q.1.a.map (·.block)=some b->h.size<=b:=fun b hb=>(hs.ok _ (Yb hidx)).2 b hb;refine (sort152 m sm ⟨h.size,0,none⟩ hs (3+i) hidx hlm (fun hl0=>hS.e i q hq (by rw[hql,hl0];rfl)) (by omega) hll fun h' hsz hoth=>?_).mono ?_
   .have E':Ext h h':=⟨Yys hs.ext.1 hsz,fun c hc=>by
     rw[hoth c (by have:=hs.ext.1;omega) fun e=>by have:=hfr c e;omega];exact hs.ext.2 c hc⟩
    refine⟨?_,hM.pm.rw.ext E'⟩;have h1:hc h52 ⟨h.size,0+4,none⟩=some (.slice sm.a sm.n sm.c):=hs.rd 2 rfl rfl;rw[hc_of_block (h:=h52) (by
     show h'[h.size]?=h52[h.size]?;refine hoth h.size (hc_blk h1) fun e=>hap h.size e rfl)]
    exact h1
   .rintro _ h57 ⟨rfl,l',hp',hs'',hst⟩;refine⟨rfl,?_⟩;have hset:(tbA m sf sm sl h15.size h.size ho qs++qs.map (nest 3 1 inC)++[]).set (3+i) (.sl q.1 3 1 ((natI l').map inC))=tbA m sf sm sl h15.size h.size ho (qs.set i (q.1,natI l'))++(qs.set i (q.1,natI l')).map (nest 3 1 inC)++[]:=by
     have h1:=set_mid (P:=tbA m sf sm sl h15.size h.size ho qs) (R:=[]) (Q:=qs.map (nest 3 1 inC)) (i:=i) (by rw[Yc];exact hilt) (.sl q.1 3 1 ((natI l').map inC));rw[show (tbA m sf sm sl h15.size h.size ho qs).length=3 from rfl] at h1;rw[h1,List.map_set];have h2:tbA m sf sm sl h15.size h.size ho (qs.set i (q.1,natI l'))=tbA m sf sm sl h15.size h.size ho qs:=by
      unfold tbA;rw[fst_set,list_set_self (by rw[Yd,hq];rfl)]
     rw[h2];rfl
    rw[hset] at hst;refine Up.next c (by omega) ⟨qs.set i (q.1,natI l'),⟨by rw[Yyh];exact hl,fun n q' hq'=>?_,fun n q' hq' he=>?_⟩,hst⟩;rotate_left
    .by_cases e:n=i
     .subst e;rw[Yq hilt] at hq';cases hq';have hl0:l'=[]:=by
       cases l' with
       | nil=>rfl
       | cons a r=>cases he
      subst hl0;exact hS.e n q hq (by rw[hql,List.nil_perm.1 hp'];rfl)
     .rw[Yy (fun h=>e h.symm)] at hq';exact hS.e n q' hq' he
    by_cases e:n=i
    .subst e;rw[Yq hilt] at hq';cases hq';exact⟨l',rfl,hp'.trans hlp,fun _=>hs''⟩
    .rw[Yy (fun h=>e h.symm)] at hq';obtain⟨l2,k1,k2,k3⟩:=hS.q n q' hq';exact⟨l2,k1,k2,fun hn=>k3 (by omega)⟩
  .replace c:=lt_f c;refine⟨hs.ext,h15.size,fun i=>((qs.getD i default).2).map Int.toNat,rfl,⟨ho,fun i=>(qs.getD i default).1,rfl,hs.at 0 rfl (o:=0) (n:=7) rfl,hhn,?_,fun j hj=>?_⟩,fun j hj=>?_⟩
   .have:=hs.rw 1 rfl (by omega);have key:(qs.map Prod.fst).map slC=(List.range qs.length).map fun i=>slC ((qs.getD i default).1):=by rw[List.map_map,map_range];rfl
    rw[key,hl] at this;exact this
   all_goals
    have hg:qs[j]?=some (qs.getD j default):=by rw[Yo,Yi (by omega)];rfl
    obtain⟨l,k1,k2,k3⟩:=hS.q j _ hg
   .have:=hs.rw (3+j) (rows:=(qs.getD j default).2.map inC) (s:=(qs.getD j default).1) (e:=3) (n:=1) (by
     have:=get_mid (P:=tbA m sf sm sl h15.size h.size ho qs) (Q:=qs.map (nest 3 1 inC)) (R:=[]) (i:=j) (by rw[Yc];omega);rw[show (tbA m sf sm sl h15.size h.size ho qs).length=3 from rfl] at this;rw[this,Yd,hg];rfl) (by omega)
    rw[k1] at this ⊢;rw[natI_back];exact this
   .rw[k1,natI_back];exact⟨k2,k3 (by omega)⟩
def DetM (m:Mch):Prop:=∀(i k:Nat) x y,m.mv[i]?=some x->m.mv[k]?=some y->i≠k->x.f=y.f->x.ev≠y.ev/\x.send=y.send
theorem outIx_nodup (m:Mch) (s:Int):(outIx m s).Nodup:=List.Nodup.sublist List.filter_sublist List.nodup_range
theorem evI_of {m:Mch} {i:Nat} {x:Mv} (h:m.mv[i]?=some x):evI m i=x.ev:=by unfold evI;rw[h]
theorem evLt_of {x y:Ev} (h1:¬evLt y x) (h2:x≠y):evLt x y:=by
 rcases evLt_tri x y with h | h | h
 .exact h
 .exact absurd h h2
 .exact absurd h h1
theorem srt_lt {m:Mch} {s:Nat} {l:List Nat} (hS:SrtM m s l) (hA:∀(j:Nat) a b,l[j]?=some a->l[j+1]?=some b->evI m a≠evI m b):∀(j i:Nat) (a b:Nat),i<j->l[i]?=some a->l[j]?=some b->evLt (evI m a) (evI m b)
 | 0,i,a,b,h,_,_=>by omega
 | j+1,i,a,b,h,ha,hb=>by
  have hl:=(Ya.1 hb).1;obtain⟨c,hc⟩:=get_some (l:=l) (i:=j) (by omega);have h1:evLt (evI m c) (evI m b):=by
   refine evLt_of ?_ (hA j c b hc hb);have:=(List.pairwise_iff_getElem.1 hS.s) j (j+1) (by omega) hl (by omega);rw[(Ya.1 hc).2,(Ya.1 hb).2] at this;exact this
  by_cases e:i=j
  .subst e;rw[ha] at hc;cases hc;exact h1
  .exact evLt_trans (srt_lt hS hA j i a c (by omega) ha hc) h1
theorem srt_send {m:Mch} {l:List Nat} (hA:∀(j:Nat) a b,l[j]?=some a->l[j+1]?=some b->(evI m a).send=(evI m b).send):∀(j:Nat) (a b:Nat),l[0]?=some a->l[j]?=some b->(evI m a).send=(evI m b).send
 | 0,a,b,ha,hb=>by rw[ha] at hb;cases hb;rfl
 | j+1,a,b,ha,hb=>by
  have hl:=(Ya.1 hb).1;obtain⟨c,hc⟩:=get_some (l:=l) (i:=j) (by omega);exact (srt_send hA j a c ha hc).trans (hA j c b hc hb)
theorem det98 (m:Mch) (sf sm sl:Sl) (b:Nat) (S:Nat->List Nat) (h:Heap) (hM:MI h m sf sm sl) (hN:NumM m) (hT:TbI h ⟨b,0,none⟩ m sf sm sl S) :
  Fn Pz 98 #[.pointer (some ⟨b,0,none⟩)] h (RP (DetM m) h):=by
 apply vc98;unfold W98 V98a;obtain⟨ho,qs,_,hat,hhn,hho,hqs⟩:=hT.ex;have hmn:=hM.pm.ln;have hmm:=hM.pm.sm;have hn:=hN.n;have hbb:b<h.size:=hc_blk (hat.nth 0 rfl);refine⟨ho,hat.nth 6 rfl,?_⟩;refine up_loop (n:=ho.n) (fun i h'=>Ext h h'/\∀(v:Nat),v<i->∀(j:Nat) a b,(S v)[j]?=some a->(S v)[j+1]?=some b->evI m a≠evI m b/\(evI m a).send=(evI m b).send) ⟨.rfl',fun v hv=>by omega⟩ ?_;rintro-i h6 hi ⟨E6,hQ⟩;refine sB_intro (fun c=>?_) (fun c=>?_)
 .replace c:=lt_t c;have hil:i<m.n.toNat:=by omega
  refine (hho.ext E6).nbI (by omega) (by omega) fun b7 o8 v gv t7=>?_;have hv:v=i:=by rw[show ((i:Int)).toNat=i from rfl,Yyb hil] at gv;exact (Yyp gv).symm
  subst hv;have hS:=hT.so v hil;have hrow:=hqs v hil;have hrn:=hrow.ln;rw[show (natI (S v)).length=(S v).length from Yc _] at hrn;have hSl:(S v).length<=1048576:=by
   rw[hS.p.length_eq];unfold outIx;exact Yys (List.length_filter_le _ _) (by rw[Yyd];omega)
  refine⟨_,t7.hd,?_⟩;refine⟨fun x h' μ=>∃j:Nat,x=j/\1<=j/\j<=(qs v).n+1/\μ=(qs v).n+1-j/\Ext h h'/\∀(k:Nat) a b,k+1<j->(S v)[k]?=some a->(S v)[k+1]?=some b->evI m a≠evI m b/\(evI m a).send=(evI m b).send,⟨_,1,rfl,Yyt _,by omega,rfl,E6,fun k a b hk=>by omega⟩,?_⟩;rintro-_ h14 μ ⟨j,rfl,hj1,hj,rfl,E14,hq⟩;refine sB_intro (fun c1=>?_) (fun c1=>?_)
  .replace c1:=lt_t c1;have hw:IntKind.wrap .i64 ((j:Int)-1)=((j-1:Nat):Int):=by rw[w64 (by omega) (by omega)];omega
   rw[hw];refine⟨sm,(atC_ext E14 hat).nth 4 rfl,?_⟩;refine (hrow.ext E14).nbI (by omega) (by omega) fun b16 o17 d1 g16 t16=>?_;replace g16:(natI (S v))[j-1]?=some d1:=g16;obtain⟨p1,gi,rfl⟩:=natI_get g16;obtain⟨x,hx,hxf⟩:=outIx_mem.1 (hS.p.mem_iff.1 (Yb gi));have hxl:=(Ya.1 hx).1;refine⟨_,t16.nth 0 rfl,?_⟩;refine (hM.pm.rw.ext E14).nbI (by omega) (by omega) fun b19 o20 x' gx t19=>?_;replace gx:m.mv[p1]?=some x':=gx;rw[hx] at gx;cases gx;refine⟨_,_,_,_,_,_,t19,sm,(atC_ext E14 hat).nth 4 rfl,?_⟩;refine (hrow.ext E14).nbI (by omega) (by omega) fun b28 o29 d2 g28 t28=>?_;replace g28:(natI (S v))[j]?=some d2:=g28;obtain⟨p2,gj,rfl⟩:=natI_get g28;obtain⟨y,hy,hyf⟩:=outIx_mem.1 (hS.p.mem_iff.1 (Yb gj));have hyl:=(Ya.1 hy).1;refine⟨_,t28.nth 0 rfl,?_⟩;refine (hM.pm.rw.ext E14).nbI (by omega) (by omega) fun b31 o32 y' gy t31=>?_;replace gy:m.mv[p2]?=some y':=gy;rw[hy] at gy;cases gy;have hxy:x.f=y.f:=by omega
   have hne:p1≠p2:=fun e=>by
    have nd:=(hS.p.nodup_iff).2 (outIx_nodup m (v:Int));have h1:=(Ya.1 gi);have h2:=(Ya.1 gj);have h3:=(List.pairwise_iff_getElem.1 nd) (j-1) j h1.1 h2.1 (by omega);rw[h1.2,h2.2] at h3;exact h3 e
   have k31:b31<h14.size:=hc_blk t31.hd;have k28:b28<h14.size:=hc_blk t28.hd;have kb:b<h14.size:=by have:=E14.1;omega
   refine⟨_,_,_,_,_,_,t31,?_,?_⟩;refine (St.refl h14).newbE fun h39 E39 hs=>⟨E39.sm,?_⟩;have hs39:h14.size<h39.size:=hc_blk (hs.rd 0 rfl (i:=0) rfl);refine hs.newbE fun h40 E40 hs=>⟨E40.sm,?_⟩;obtain⟨k1,k2⟩:=hs.put (K:=fun h'=>St h14 h' [.blk h39.size [.int .i64 0,.bool false,.int .i64 0,.int .i64 0,.int .i64 0,.bool false] 81,.blk h14.size x.cs 81]) 1 rfl (o:=0) (vs:=x.cs) (n:=6) rfl (show 6<=6 by decide) (fun h' hs=>hs);refine⟨k1,fun h41 e41=>?_⟩;have hs:=k2 h41 e41;have hB:But h14.size h40 h41:=by rw[e41];exact But.hputs (a:=⟨h14.size,0,none⟩) _ _ _
   refine⟨Sm_but hB (fun a ha=>?_),?_⟩
   .simp only[Yr,List.not_mem_nil,or_false] at ha;rcases ha with rfl | rfl | rfl
    .show b31≠h14.size;omega
    .show b28≠h14.size;omega
    .show b≠h14.size;omega
   refine hs.put 0 rfl (o:=0) (vs:=y.cs) rfl (show 6<=6 by decide) fun h42 hs=>?_;replace hs:St h h42 [.blk h39.size y.cs 81,.blk h14.size x.cs 81]:=by
    refine⟨E14.trans hs.ext,fun i hi=>⟨(hs.ok i hi).1,fun b hb=>Yys E14.1 ((hs.ok i hi).2 b hb)⟩,hs.ap⟩
   refine⟨_,_,_,_,_,_,hs.at 1 rfl (o:=0) (n:=6) rfl,_,_,_,_,_,_,hs.at 0 rfl (o:=0) (n:=6) rfl,?_⟩;refine (M.of63 x _).mono ?_;rintro _ h59 ⟨rfl,E1⟩;have hs:=hs.step E1;refine⟨_,_,_,rfl,E1.sm,?_⟩;refine (M.of63 y h59).mono ?_;rintro _ h64 ⟨rfl,E2⟩;have hs:=hs.step E2;refine⟨_,_,_,rfl,E2.sm,?_⟩;refine sB_intro (fun d=>?_) (fun d=>?_)
   .have d':x.ev=y.ev:=Yyn ((evEq x.ev y.ev).symm.trans d);exact RP.f (fun hD=>(hD _ _ x y hx hy hne hxy).1 d') hs.ext
   have d':x.ev≠y.ev:=Yyo ((evEq x.ev y.ev).symm.trans d);refine⟨_,hs.rd 1 rfl rfl,_,hs.rd 0 rfl rfl,sB_intro (fun e=>?_) (fun e=>?_)⟩
   .exact RP.f (fun hD=>by rw[(hD _ _ x y hx hy hne hxy).2] at e;simp at e) hs.ext
   rotate_left;refine (St.refl h14).newbE fun h68 E68 hs=>⟨E68.sm,?_⟩;have hs68:h14.size<h68.size:=hc_blk (hs.rd 0 rfl (i:=0) rfl);refine hs.newbE fun h69 E69 hs=>⟨E69.sm,?_⟩;obtain⟨k1,k2⟩:=hs.put (K:=fun h'=>St h14 h' [.blk h68.size x.cs 81,.blk h14.size [.int .i64 0,.bool false,.int .i64 0,.int .i64 0,.int .i64 0,.bool false] 81]) 0 rfl (o:=0) (vs:=x.cs) (n:=6) rfl (show 6<=6 by decide) (fun h' hs=>hs);refine⟨k1,fun h70 e70=>?_⟩;have hs:=k2 h70 e70;have hB:But h68.size h69 h70:=by rw[e70];exact But.hputs (a:=⟨h68.size,0,none⟩) _ _ _
   refine⟨Sm_but hB (fun a ha=>?_),?_⟩
   .simp only[Yr,List.not_mem_nil,or_false] at ha;rcases ha with rfl | rfl | rfl
    .show b31≠h68.size;omega
    .show b28≠h68.size;omega
    .show b≠h68.size;omega
   refine hs.put 1 rfl (o:=0) (vs:=y.cs) rfl (show 6<=6 by decide) fun h71 hs=>?_;replace hs:St h h71 [.blk h68.size x.cs 81,.blk h14.size y.cs 81]:=by
    refine⟨E14.trans hs.ext,fun i hi=>⟨(hs.ok i hi).1,fun b hb=>Yys E14.1 ((hs.ok i hi).2 b hb)⟩,hs.ap⟩
   refine⟨_,_,_,_,_,_,hs.at 0 rfl (o:=0) (n:=6) rfl,_,_,_,_,_,_,hs.at 1 rfl (o:=0) (n:=6) rfl,?_⟩;refine (M.of63 x _).mono ?_;rintro _ h59 ⟨rfl,E1⟩;have hs:=hs.step E1;refine⟨_,_,_,rfl,E1.sm,?_⟩;refine (M.of63 y h59).mono ?_;rintro _ h64 ⟨rfl,E2⟩;have hs:=hs.step E2;refine⟨_,_,_,rfl,E2.sm,?_⟩;refine sB_intro (fun d=>?_) (fun d=>?_)
   .have d':x.ev=y.ev:=Yyn ((evEq x.ev y.ev).symm.trans d);exact RP.f (fun hD=>(hD _ _ x y hx hy hne hxy).1 d') hs.ext
   have d':x.ev≠y.ev:=Yyo ((evEq x.ev y.ev).symm.trans d);refine⟨_,hs.rd 0 rfl rfl,_,hs.rd 1 rfl rfl,sB_intro (fun e=>?_) (fun e=>?_)⟩
   .exact RP.f (fun hD=>by rw[(hD _ _ x y hx hy hne hxy).2] at e;simp at e) hs.ext
   all_goals
    have e':x.send=y.send:=by simpa using e
    refine⟨_,by omega,j+1,by rw[w64 (by omega) (by omega)];omega,by omega,by omega,rfl,hs.ext,fun k a b hk ha hb=>?_⟩;by_cases ek:k+1=j
    .have ek':k=j-1:=by omega
     subst ek';rw[ha] at gi;cases gi;rw[show j-1+1=j by omega] at hb;rw[hb] at gj;cases gj;rw[evI_of hx,evI_of hy];exact⟨d',e'⟩
    .exact hq k a b (by omega) ha hb
  .replace c1:(qs v).n<=j:=by have:=Yyo c1;omega
   refine Up.next c (by omega) ⟨E14,fun v' hv'=>?_⟩;by_cases e:v'=v
   .subst e;exact fun k a b ha hb=>hq k a b (by have:=(Ya.1 hb).1;omega) ha hb
   .exact hQ v' (by omega)
 .replace c:=lt_f c;refine RP.t (fun i1 k1 x y hx hy hne hf=>?_) E6;have hxr:=hN.mv x (Yb hx);have hv:x.f.toNat<m.n.toNat:=by omega
  have hS:=hT.so x.f.toNat hv;have hA:=hQ x.f.toNat (by omega);have hfi:((x.f.toNat:Nat):Int)=x.f:=by omega
  have m1:i1∈S x.f.toNat:=hS.p.mem_iff.2 (outIx_mem.2 ⟨x,hx,hfi.symm⟩);have m2:k1∈S x.f.toNat:=hS.p.mem_iff.2 (outIx_mem.2 ⟨y,hy,by omega⟩);obtain⟨a,ha⟩:=Yf.1 m1;obtain⟨c,hc⟩:=Yf.1 m2;have hne2:a≠c:=fun e=>by subst e;rw[ha] at hc;cases hc;exact hne rfl
  have hlt:=srt_lt hS (fun j a b h1 h2=>(hA j a b h1 h2).1);rw[<-evI_of hx,<-evI_of hy];constructor
  .rcases Nat.lt_or_gt_of_ne hne2 with h1 | h1
   .have:=hlt c a i1 k1 h1 ha hc;exact fun e=>by rw[e] at this;exact evLt_irr _ this
   .have:=hlt a c k1 i1 h1 hc ha;exact fun e=>by rw[e] at this;exact evLt_irr _ this
  .obtain⟨z,hz⟩:=get_some (l:=S x.f.toNat) (i:=0) (by have:=(Ya.1 ha).1;omega);have hs:=srt_send (m:=m) (l:=S x.f.toNat) (fun j a b h1 h2=>(hA j a b h1 h2).2);have e1:=hs a z i1 hz ha;have e2:=hs c z k1 hz hc;have e3:(evI m i1).send=(evI m k1).send:=e1.symm.trans e2;rw[evI_of hx,evI_of hy] at e3;exact e3
def meds (m:Mch):List Ed:=m.mv.map fun x=>⟨x.f,0,0,0,x.t,false⟩
theorem meds_q {m:Mch} {n:Nat} {b:Int}:b∈quietL (meds m) (-1) n ↔ ∃x∈m.mv,x.f=(n:Int)/\x.t=b:=by
 rw[quietL_mem];constructor
 .rintro⟨e,he,_,hf,ht⟩;obtain⟨x,hx,rfl⟩:=Yp.1 he;exact⟨x,hx,hf,ht⟩
 .rintro⟨x,hx,hf,ht⟩;exact⟨_,Yp.2 ⟨x,hx,rfl⟩,rfl,hf,ht⟩
def RchM (m:Mch):Prop:=∀v:Int,0<=v->v<m.n->Qr (meds m) (-1) [m.s] v
theorem reached99 (m:Mch) (sf sm sl:Sl) (b:Nat) (S:Nat->List Nat) (h:Heap) (hM:MI h m sf sm sl) (hN:NumM m) (hT:TbI h ⟨b,0,none⟩ m sf sm sl S) :
  Fn Pz 99 #[.pointer (some ⟨b,0,none⟩)] h (RP (RchM m) h):=by
 apply vc99;unfold W99;obtain⟨ho,qs,_,hat,hhn,hho,hqs⟩:=hT.ex;have hmn:=hM.pm.ln;have hmm:=hM.pm.sm;have hn:=hN.n;have hsn:=hN.s;refine⟨_,hat.nth 1 rfl,⟨by omega,by omega,by omega⟩,?_⟩;rw[made4];refine (St.refl h).newb fun h2' hs=>?_;refine⟨_,(atC_ext hs.ext hat).nth 2 rfl,⟨by omega,by omega⟩,?_⟩;have e0:0+Int.toNat m.s*1=m.s.toNat:=by omega
 rw[e0];refine hs.put 0 rfl (o:=m.s.toNat) (vs:=[.bool true]) rfl (by rw[Yc,Yg,Yv];omega) fun h4 hs=>?_;rw[map_splice _ (by rw[Yg];omega)] at hs;refine⟨_,(atC_ext hs.ext hat).nth 2 rfl,?_⟩;refine hs.newb fun h6 hs=>?_;have hs:=hs.blkS 1 1 ([m.s].map inC) rfl (inrows _) rfl (by decide);have hC0:CL (meds m) (-1) m.n.toNat [m.s] ((List.replicate m.n.toNat false).set m.s.toNat true) [m.s]:=
  (CL.start (meds m) (-1) m.n.toNat [m.s]).push hsn.1 (by rw[List.getElem?_replicate,if_pos (by omega)]) (.base (Ye.2 rfl))
 refine⟨fun todo x h' μ=>∃(i:Nat) (D:List Bool) (T:List Int),x=i/\μ=m.n.toNat-i/\i<=T.length/\St h h' [.sl todo 3 1 (T.map inC),.blk h.size (D.map Value.bool) 4]/\CL (meds m) (-1) m.n.toNat [m.s] D T/\m.s∈T/\∀v∈T.take i,∀b∈quietL (meds m) (-1) v.toNat,b∈T,⟨_,0,_,_,rfl,rfl,by omega,hs,hC0,Ye.2 rfl,fun v hv=>by rw[Yyk] at hv;cases hv⟩,?_⟩;clear hs hC0;rintro-todo_22 _ h24 μ ⟨i,D,T,rfl,rfl,hi,hs,hC,hlT,hcl⟩;have htl:=(hs.rows 0 rfl (by omega)).ln;have hle:=hC.le;refine sBi (fun c2=>?_) (fun c2=>?_)
 .refine⟨_,(atC_ext hs.ext hat).nth 6 rfl,?_⟩;refine (hs.rows 0 rfl (by omega)).nbI (by omega) (by omega) fun b26 o27 v g26 t26=>?_;replace g26:T[i]?=some v:=g26;have hvm:=(hC.mem v).1 (Yb g26);have hvl:v.toNat<m.n.toNat:=by have:=(Ya.1 hvm.2).1;have:=hC.len;omega
  refine⟨_,t26.hd,?_⟩;refine (hho.ext hs.ext).nbI (by omega) (by omega) fun b29 o30 k g29 t29=>?_;have hk:k=v.toNat:=by rw[Yyb hvl] at g29;exact (Yyp g29).symm
  subst hk;refine⟨_,t29.hd,?_⟩;have hiT:=(Ya.1 g26).1;have hS:=hT.so v.toNat hvl;have hrow:=hqs v.toNat hvl;have hrn:=hrow.ln;rw[show (natI (S v.toNat)).length=(S v.toNat).length from Yc _] at hrn;have hSl:(S v.toNat).length<=1048576:=by
   rw[hS.p.length_eq];unfold outIx;exact Yys (List.length_filter_le _ _) (by rw[Yyd];omega)
  refine⟨fun todo x h' μ=>∃(j:Nat) (D:List Bool) (T':List Int),x=j/\μ=(qs v.toNat).n-j/\j<=(qs v.toNat).n/\St h h' [.sl todo 3 1 (T'.map inC),.blk h.size (D.map Value.bool) 4]/\CL (meds m) (-1) m.n.toNat [m.s] D T'/\(∃R,T'=T++R)/\∀k∈(S v.toNat).take j,∀y,m.mv[k]?=some y->y.t∈T',⟨_,0,D,T,rfl,rfl,by omega,hs,hC,⟨[],by simp⟩,fun v hv=>by rw[Yyk] at hv;cases hv⟩,?_⟩;clear hs hC htl hle;rintro-todo_35 _ h37 μ ⟨j,D,T',rfl,rfl,hj,hs,hC,⟨R,rfl⟩,hcl2⟩;have htl:=(hs.rows 0 rfl (by omega)).ln;have hle:=hC.le;have hDl:=hC.len;refine sBi (fun c3=>?_) (fun c3=>?_)
  .refine (hrow.ext hs.ext).nbI (by omega) (by omega) fun b38 o39 d g38 t38=>?_;replace g38:(natI (S v.toNat))[j]?=some d:=g38;obtain⟨p1,gp,rfl⟩:=natI_get g38;obtain⟨x,hx,hxf⟩:=outIx_mem.1 (hS.p.mem_iff.1 (Yb gp));have hxl:=(Ya.1 hx).1;have hxr:=hN.mv x (Yb hx);refine⟨_,t38.hd,sm,(atC_ext hs.ext hat).nth 4 rfl,?_⟩;refine (hM.pm.rw.ext hs.ext).nbI (by omega) (by omega) fun b30 o31 x' gx t30=>?_;replace gx:m.mv[p1]?=some x':=gx;rw[hx] at gx;cases gx;refine⟨x.t,t30.nth 4 rfl,⟨by omega,by omega⟩,?_⟩;obtain⟨z,hz⟩:=get_some (l:=D) (i:=x.t.toNat) (by omega);have e1:0+Int.toNat x.t*1=x.t.toNat:=by omega
   rw[e1];refine⟨_,hs.rd 1 rfl (by rw[map_get,hz];rfl),?_⟩;refine sB_intro (fun c4=>?_) (fun c4=>?_)
   .have hzf:z=false:=bF c4;subst hzf;refine⟨⟨by omega,by omega⟩,?_⟩;refine hs.put 1 rfl (o:=x.t.toNat) (vs:=[.bool true]) rfl (by rw[Yc,Yv];omega) fun h42 hs=>?_;refine hs.app 0 rfl app42 (m:=1) [[.int .i64 x.t]] rfl rfl (by simp) rfl (by omega) (by simp only[maxLen];omega) fun s44 h45 ns44 hs=>?_;have hqr:Qr (meds m) (-1) [m.s] x.t:=.step (hC.r v (by rw[Yk];exact .inl (Yb g26))) ⟨⟨x.f,0,0,0,x.t,false⟩,Yp.2 ⟨x,Yb hx,rfl⟩,rfl,by show x.f=v;omega,rfl⟩;refine⟨_,by omega,j+1,D.set x.t.toNat true,T++R++[x.t],by rw[w64 (by omega) (by omega)];omega,rfl,by omega,?_,hC.push (by omega) hz hqr,⟨R++[x.t],by rw[Yz]⟩,fun k hk y hy=>?_⟩
    .rw[Ym,<-map_splice _ (by omega)];exact hs
    .rw[take_snoc gp,Yk,Ye] at hk;rw[Yk];rcases hk with hk | rfl
     .exact .inl (hcl2 k hk y hy)
     .rw[hx] at hy;cases hy;exact .inr (Ye.2 rfl)
   .have hzt:z=true:=bT c4;subst hzt;refine⟨_,by omega,j+1,D,T++R,by rw[w64 (by omega) (by omega)];omega,rfl,by omega,hs,hC,⟨R,rfl⟩,fun k hk y hy=>?_⟩;rw[take_snoc gp,Yk,Ye] at hk;rcases hk with hk | rfl
    .exact hcl2 k hk y hy
    .rw[hx] at hy;cases hy;exact (hC.mem _).2 ⟨by omega,hz⟩
  .have hTR:(T++R).length=T.length+R.length:=Yh;refine⟨_,by omega,i+1,D,T++R,by rw[w64 (by omega) (by omega)];omega,rfl,by rw[Yh];omega,hs,hC,List.mem_append_left _ hlT,fun v' hv'=>?_⟩;have ht1:(T++R).take (i+1)=T.take i++[v]:=by rw[Yyq (by omega),take_snoc g26]
   rw[ht1,Yk,Ye] at hv';rcases hv' with hv' | rfl
   .exact fun b hb=>List.mem_append_left _ (hcl v' hv' b hb)
   .intro b hb;obtain⟨x,hx,hxf,rfl⟩:=meds_q.1 hb;obtain⟨k,hk⟩:=Yf.1 hx;refine hcl2 k ?_ x hk;rw[Yj (by omega)];exact hS.p.mem_iff.2 (outIx_mem.2 ⟨x,hk,hxf⟩)
 .refine⟨_,(atC_ext hs.ext hat).nth 1 rfl,RP.e ?_ hs.ext⟩;have hend:=fun v=>hC.end_ (fun x hx=>by rw[Ye.1 hx];exact hlT) (fun v hv b hb=>hcl v (by rw[Yj (by omega)];exact hv) b hb) v;have hcnt:=hC.cnt;have hDl:=hC.len;have hk:(((todo_22.n:Nat):Int)==m.n)=true ↔ T.length=m.n.toNat:=by rw[beq_iff_eq];omega
  rw[hk];constructor
  .intro hTl v h0 h1;have hall:=List.count_eq_length.1 (show D.count true=D.length by omega);obtain⟨z,hz⟩:=get_some (l:=D) (i:=v.toNat) (by omega);have:=hall z (Yb hz);subst this;exact (hend v).1 ((hC.mem v).2 ⟨h0,hz⟩)
  .intro hR;have hall:D.count true=D.length:=List.count_eq_length.2 fun z hz=>by
    obtain⟨j,hj⟩:=Yf.1 hz;have hjl:=(Ya.1 hj).1;have h1:=((hC.mem (j:Int)).1 ((hend (j:Int)).2 (hR j (by omega) (by omega)))).2;rw[show ((j:Int)).toNat=j from rfl,hj] at h1;exact (Yyp h1).symm
   omega
structure AgM (m:Mch):Prop where
 s:∀x∈m.mv,x.ag=true->x.send=true
 o:∀x∈m.mv,x.ag=true->(outIx m x.f).length=1
 i:∀x∈m.mv,x.ag=true->x.f≠m.s
 f:∀x∈m.mv,x.ag=true->m.fin[x.f.toNat]?=some false
 p:∀x∈m.mv,x.ag=true->∀y∈m.mv,y.t=x.f->y.send=true/\y.label=x.label
theorem again100 (m:Mch) (sf sm sl:Sl) (b:Nat) (S:Nat->List Nat) (h:Heap) (hM:MI h m sf sm sl) (hN:NumM m) (hT:TbI h ⟨b,0,none⟩ m sf sm sl S) :
  Fn Pz 100 #[.pointer (some ⟨b,0,none⟩)] h (RP (AgM m) h):=by
 apply vc100;unfold W100;obtain⟨ho,qs,_,hat,hhn,hho,hqs⟩:=hT.ex;have hmn:=hM.pm.ln;have hmm:=hM.pm.sm;have hfn:=hM.pf.ln;have hn:=hN.n;have hfl:=hN.fl;refine⟨sm,hat.nth 4 rfl,?_⟩;refine up_loopS (n:=sm.n) (St.refl h) (fun i=>∀(j:Nat) x,j<i->m.mv[j]?=some x->x.ag=true->x.send=true/\(outIx m x.f).length=1/\x.f≠m.s/\m.fin[x.f.toNat]?=some false/\∀y∈m.mv,y.t=x.f->y.send=true/\y.label=x.label) (fun j x hj=>by omega) ?_;rintro-i h6 hi ⟨hs,hq⟩;refine sB_intro (fun c=>?_) (fun c=>?_)
 .replace c:=lt_t c;refine (hM.pm.rw.ext hs.ext).nbI (by omega) (by omega) fun b7 o8 x gx t=>?_;replace gx:m.mv[i]?=some x:=gx;have hxm:=Yb gx;have hxr:=hN.mv x hxm;refine⟨_,_,_,_,_,_,t,?_⟩;refine hs.newput (vs:=x.cs) rfl rfl fun h16 hs=>?_;refine⟨_,hs.rd 0 rfl rfl,sB_intro (fun c1=>?_) (fun c1=>?_)⟩
  .refine Up.next c (by omega) ⟨hs.drop 1,fun j z hj hz=>?_⟩;by_cases e:j=i
   .subst e;rw[gx] at hz;cases hz;exact fun ha=>by rw[ha] at c1;cases c1
   .exact hq j z (by omega) hz
  have hag:x.ag=true:=bT c1;refine⟨_,hs.rd 0 rfl rfl,sB_intro (fun c2=>RP.f (fun hG=>by rw[hG.s x hxm hag] at c2;cases c2) hs.ext) (fun c2=>?_)⟩;refine⟨ho,(atC_ext hs.ext hat).nth 6 rfl,_,hs.rd 0 rfl rfl,?_⟩;refine (hho.ext hs.ext).nbI (by omega) (by omega) fun b22 o23 v gv t22=>?_;have hvl:x.f.toNat<m.n.toNat:=by omega
  have hv:v=x.f.toNat:=by rw[Yyb hvl] at gv;exact (Yyp gv).symm
  subst hv;have hS:=hT.so x.f.toNat hvl;have hrn:=(hqs x.f.toNat hvl).ln;rw[show (natI (S x.f.toNat)).length=(S x.f.toNat).length from Yc _] at hrn;have hfi:((x.f.toNat:Nat):Int)=x.f:=by omega
  have hlen:(S x.f.toNat).length=(outIx m x.f).length:=by rw[hS.p.length_eq,hfi]
  refine⟨_,t22.hd,sBn (fun c3=>RP.f (fun hG=>by have:=hG.o x hxm hag;omega) hs.ext) (fun c3=>?_)⟩;refine⟨_,hs.rd 0 rfl rfl,_,(atC_ext hs.ext hat).nth 2 rfl,sBe (fun c4=>RP.f (fun hG=>hG.i x hxm hag c4) hs.ext) (fun c4=>?_)⟩;refine⟨sf,(atC_ext hs.ext hat).nth 3 rfl,_,hs.rd 0 rfl rfl,?_⟩;refine (hM.pf.rw.ext hs.ext).nbI (by omega) (by omega) fun b29 o30 f gf t29=>?_;refine⟨_,t29.hd,sB_intro (fun c5=>RP.f (fun hG=>by rw[hG.f x hxm hag] at gf;cases gf;cases c5) hs.ext) (fun c5=>?_)⟩;have hff:m.fin[x.f.toNat]?=some false:=by rw[gf,c5]
  refine⟨sm,(atC_ext hs.ext hat).nth 4 rfl,?_⟩;refine up_loopS (n:=sm.n) hs (fun k=>∀(j:Nat) y,j<k->m.mv[j]?=some y->y.t=x.f->y.send=true/\y.label=x.label) (fun j x hj=>by omega) ?_;clear hs;rintro-k h37 hk ⟨hs,hq2⟩;refine sB_intro (fun c6=>?_) (fun c6=>?_)
  .replace c6:=lt_t c6;refine (hM.pm.rw.ext hs.ext).nbI (by omega) (by omega) fun b38 o39 y gy t38=>?_;replace gy:m.mv[k]?=some y:=gy;have hym:=Yb gy;refine⟨_,_,_,_,_,_,t38,?_⟩;refine hs.newput (vs:=y.cs) rfl rfl fun h47 hs=>?_;refine⟨_,hs.rd 0 rfl rfl,_,hs.rd 1 rfl rfl,sBe (fun d1=>?_) (fun d1=>?_)⟩
   .refine⟨_,hs.rd 0 rfl rfl,sB_intro (fun d2=>RP.f (fun hG=>by rw[(hG.p x hxm hag y hym d1).1] at d2;cases d2) hs.ext) (fun d2=>?_)⟩;refine⟨_,hs.rd 0 rfl rfl,_,hs.rd 1 rfl rfl,sBn (fun d3=>RP.f (fun hG=>d3 (hG.p x hxm hag y hym d1).2) hs.ext) (fun d3=>?_)⟩;refine Up.next c6 (by omega) ⟨hs.drop 1,fun j z hj hz=>?_⟩;by_cases e:j=k
    .subst e;rw[gy] at hz;cases hz;exact fun _=>⟨bT d2,d3⟩
    .exact hq2 j z (by omega) hz
   .refine Up.next c6 (by omega) ⟨hs.drop 1,fun j z hj hz=>?_⟩;by_cases e:j=k
    .subst e;rw[gy] at hz;cases hz;exact fun h=>absurd h d1
    .exact hq2 j z (by omega) hz
  .replace c6:=lt_f c6;refine Up.next c (by omega) ⟨hs.drop 1,fun j z hj hz=>?_⟩;by_cases e:j=i
   .subst e;rw[gx] at hz;cases hz;refine fun _=>⟨bT c2,by omega,c4,hff,fun y hy=>?_⟩;obtain⟨p,hp⟩:=Yf.1 hy;exact hq2 p y (by have:=(Ya.1 hp).1;omega) hp
   .exact hq j z (by omega) hz
 .replace c:=lt_f c;have key:∀x∈m.mv,x.ag=true->x.send=true/\(outIx m x.f).length=1/\x.f≠m.s/\m.fin[x.f.toNat]?=some false/\∀y∈m.mv,y.t=x.f->y.send=true/\y.label=x.label:=fun x hx=>by
   obtain⟨j,hj⟩:=Yf.1 hx;exact hq j x (by have:=(Ya.1 hj).1;omega) hj
  exact RP.t ⟨fun x hx ha=>(key x hx ha).1,fun x hx ha=>(key x hx ha).2.1,fun x hx ha=>(key x hx ha).2.2.1,fun x hx ha=>(key x hx ha).2.2.2.1,fun x hx ha=>(key x hx ha).2.2.2.2⟩ hs.ext
structure TmM (m:Mch) (i:Nat) (t:To):Prop where
 o:∀z,0<i->m.li[i-1]?=some z->z.s<t.s
 k:1<=t.k/\t.k<=1000
 e:0<=t.e/\∃x,m.mv[t.e.toNat]?=some x/\x.f=t.s/\x.send=true/\x.ag=false
def TimM (m:Mch):Prop:=∀i t,m.li[i]?=some t->TmM m i t
theorem timed101 (m:Mch) (sf sm sl:Sl) (b:Nat) (S:Nat->List Nat) (h:Heap) (hM:MI h m sf sm sl) (hN:NumM m) (hT:TbI h ⟨b,0,none⟩ m sf sm sl S) :
  Fn Pz 101 #[.pointer (some ⟨b,0,none⟩)] h (RP (TimM m) h):=by
 apply vc101;unfold W101 V101a;obtain⟨ho,qs,_,hat,hhn,hho,hqs⟩:=hT.ex;have hmn:=hM.pm.ln;have hmm:=hM.pm.sm;have hln:=hM.pl.ln;have hlm:=hM.pl.sm;refine⟨sl,hat.nth 5 rfl,?_⟩;refine up_loopS (n:=sl.n) (St.refl h) (fun i=>∀(j:Nat) x,j<i->m.li[j]?=some x->TmM m j x) (fun j x hj=>by omega) ?_;rintro-i h6 hi ⟨hs,hq⟩;refine sB_intro (fun c=>?_) (fun c=>RP.t (fun j x hx=>hq j x (by have:=lt_f c;have:=(Ya.1 hx).1;omega) hx) hs.ext);replace c:=lt_t c;refine (hM.pl.rw.ext hs.ext).nbI (by omega) (by omega) fun b7 o8 x gx t=>?_;replace gx:m.li[i]?=some x:=gx;have no:∀ {q:Prop},(TmM m i x->q)->TimM m->q:=fun f hT=>f (hT i x gx);refine⟨_,_,_,t,?_⟩;refine hs.newput (vs:=x.cs) rfl rfl fun h13 hs=>?_;refine sBi (fun c1=>?_) (fun c1=>?_);have hw:IntKind.wrap .i64 ((i:Int)-1)=((i-1:Nat):Int):=by rw[w64 (by omega) (by omega)];omega
 rw[hw];refine⟨sl,(atC_ext hs.ext hat).nth 5 rfl,?_⟩;refine (hM.pl.rw.ext hs.ext).nbI (by omega) (by omega) fun b15 o16 z gz t15=>?_;replace gz:m.li[i-1]?=some z:=gz;refine⟨_,t15.nth 0 rfl,_,hs.rd 0 rfl rfl,sBi (fun d0=>RP.f (no fun hT=>by have:=hT.o z (by omega) gz;omega) hs.ext) (fun d0=>?_)⟩;have hord:∀z,0<i->m.li[i-1]?=some z->z.s<x.s:=fun z' _ hz'=>by rw[gz] at hz';cases hz';omega
 rotate_left;have hord:∀z,0<i->m.li[i-1]?=some z->z.s<x.s:=fun z' h0 _=>by omega
 all_goals
  refine⟨_,hs.rd 0 rfl rfl,sBi (fun d1=>RP.f (no fun hT=>by have:=hT.k;omega) hs.ext) (fun d1=>?_)⟩;refine⟨_,hs.rd 0 rfl rfl,sBi (fun d2=>RP.f (no fun hT=>by have:=hT.k;omega) hs.ext) (fun d2=>?_)⟩;refine⟨_,hs.rd 0 rfl rfl,sBi (fun d3=>RP.f (no fun hT=>by have:=hT.e.1;omega) hs.ext) (fun d3=>?_)⟩;refine⟨_,hs.rd 0 rfl rfl,sm,(atC_ext hs.ext hat).nth 4 rfl,sBi (fun d4=>RP.f (no fun hT=>by obtain⟨_,y,hy,_⟩:=hT.e;have:=(Ya.1 hy).1;omega) hs.ext) (fun d4=>?_)⟩;refine⟨sm,(atC_ext hs.ext hat).nth 4 rfl,_,hs.rd 0 rfl rfl,?_⟩;refine (hM.pm.rw.ext hs.ext).nbI (by omega) (by omega) fun b26 o27 y gy t26=>?_;refine⟨_,_,_,_,_,_,t26,?_⟩;intro h34 e34;refine⟨smx (by rw[e34];exact Ext.push _ _),?_⟩;refine hs.newput (zs:=[.int .i64 0,.bool false,.int .i64 0,.int .i64 0,.int .i64 0,.bool false]) (vs:=y.cs) (n:=6) (e:=81) rfl rfl (fun h35 hs=>?_) h34 e34;refine⟨_,hs.rd 0 rfl rfl,_,hs.rd 1 rfl rfl,sBn (fun d5=>RP.f (no fun hT=>by obtain⟨_,z,hz,hf,_⟩:=hT.e;rw[gy] at hz;cases hz;exact d5 hf) hs.ext) (fun d5=>?_)⟩;refine⟨_,hs.rd 0 rfl rfl,sB_intro (fun d6=>RP.f (no fun hT=>by obtain⟨_,z,hz,_,hf,_⟩:=hT.e;rw[gy] at hz;cases hz;rw[hf] at d6;cases d6) hs.ext) (fun d6=>?_)⟩;refine⟨_,hs.rd 0 rfl rfl,sB_intro (fun d7=>RP.f (no fun hT=>by obtain⟨_,z,hz,_,_,hf⟩:=hT.e;rw[gy] at hz;cases hz;rw[hf] at d7;cases d7) hs.ext) (fun d7=>?_)⟩;refine Up.next c (by omega) ⟨hs.drop 2,fun j z hj hz=>?_⟩;by_cases e:j=i
  .subst e;rw[gx] at hz;cases hz;exact⟨hord,by omega,by omega,y,gy,d5,bT d6,d7⟩
  .exact hq j z (by omega) hz
structure VM (m:Mch):Prop where
 n:NumM m
 d:DetM m
 r:RchM m
 a:AgM m
 t:TimM m
theorem open47 (m:Mch) (sf sm sl:Sl) (h:Heap) (hM:MI h m sf sm sl) :
  Fn Pz 47 #[.agg ⟨mC m sf sm sl⟩] h fun v h'=>Ext h h'/\∃(p:Option Addr) (b:Bool),v=.tuple ⟨[.pointer p,.bool b]⟩/\(b=true ↔ VM m)/\(b=true->∃c S,p=some ⟨c,0,none⟩/\TbI h' ⟨c,0,none⟩ m sf sm sl S):=by
 apply vc47 m.role m.n m.s sf sm sl;unfold W47;have no:∀ {q:Prop} {p:Option Addr} {h':Heap},Ext h h'->¬VM m->Ext h h'/\∃(p':Option Addr) (b:Bool),Value.tuple ⟨[.pointer p,.bool false]⟩=.tuple ⟨[.pointer p',.bool b]⟩/\(b=true ↔ VM m)/\(b=true->∃c S,p'=some ⟨c,0,none⟩/\TbI h' ⟨c,0,none⟩ m sf sm sl S):=fun E hn=>⟨E,_,false,rfl,iff_of_false (by decide) hn,fun e=>by cases e⟩;refine (St.refl h).newb fun h7 hs=>?_;refine⟨_,_,_,sf,sm,sl,hs.at 0 rfl (o:=0) (n:=6) rfl,?_⟩;refine (numbers96 m sf sm sl h7 (hM.ext hs.ext)).mono ?_;rintro _ h16 ⟨⟨b1,rfl,hb1⟩,E⟩;have hs:=hs.step E;refine⟨_,rfl,sB_intro (fun c=>no (q:=True) hs.ext fun hG=>iff_f hb1 (bF c) hG.n) (fun c=>?_)⟩;have hN:=hb1.1 (bT c);refine⟨_,_,_,sf,sm,sl,hs.at 0 rfl (o:=0) (n:=6) rfl,?_⟩;refine (sorted97 m sf sm sl h16 (hM.ext hs.ext) hN).mono ?_;rintro _ h25 ⟨E,b,S,rfl,hT⟩;have hs:=hs.step E;refine⟨_,rfl,?_⟩;refine (det98 m sf sm sl b S h25 (hM.ext hs.ext) hN hT).mono ?_;rintro _ h28 ⟨⟨b2,rfl,hb2⟩,E⟩;have hs:=hs.step E;have hT:=hT.ext E;refine⟨_,rfl,sB_intro (fun c2=>?_) (fun c2=>no (q:=True) hs.ext fun hG=>iff_f hb2 c2 hG.d)⟩;refine (reached99 m sf sm sl b S h28 (hM.ext hs.ext) hN hT).mono ?_;rintro _ h31 ⟨⟨b3,rfl,hb3⟩,E⟩;have hs:=hs.step E;have hT:=hT.ext E;refine⟨_,rfl,sB_intro (fun c3=>?_) (fun c3=>no (q:=True) hs.ext fun hG=>iff_f hb3 c3 hG.r)⟩;refine (again100 m sf sm sl b S h31 (hM.ext hs.ext) hN hT).mono ?_;rintro _ h34 ⟨⟨b4,rfl,hb4⟩,E⟩;have hs:=hs.step E;have hT:=hT.ext E;refine⟨_,rfl,sB_intro (fun c4=>?_) (fun c4=>no (q:=True) hs.ext fun hG=>iff_f hb4 c4 hG.a)⟩;refine (timed101 m sf sm sl b S h34 (hM.ext hs.ext) hN hT).mono ?_;rintro _ h37 ⟨⟨b5,rfl,hb5⟩,E⟩;have hs:=hs.step E;have hT:=hT.ext E;exact⟨_,rfl,hs.ext,_,_,rfl,hb5.trans ⟨fun ht=>⟨hN,hb2.1 c2,hb3.1 c3,hb4.1 c4,ht⟩,fun hG=>hG.t⟩,fun _=>⟨b,S,rfl,hT⟩⟩
theorem valid23 (m:Mch) (sf sm sl:Sl) (h:Heap) (hM:MI h m sf sm sl):Fn Pz 23 #[.agg ⟨mC m sf sm sl⟩] h (RP (VM m) h):=by
 apply vc23 m.role m.n m.s sf sm sl;unfold W23;refine (St.refl h).newb fun h7 hs=>?_;refine⟨_,_,_,sf,sm,sl,hs.at 0 rfl (o:=0) (n:=6) rfl,?_⟩;refine (open47 m sf sm sl h7 (hM.ext hs.ext)).mono ?_;rintro _ h17 ⟨E,p,b,rfl,hb,_⟩;exact⟨_,_,rfl,RP.e hb (hs.step E).ext⟩
theorem numbers58 (m:Mch) (sf sm sl:Sl) (h:Heap) (hM:MI h m sf sm sl):Fn Pz 58 #[.agg ⟨mC m sf sm sl⟩] h (RP (NumM m) h):=by
 apply vc58 m.role m.n m.s sf sm sl;unfold W58;have hfn:=hM.pf.ln;have hmn:=hM.pm.ln;have hmm:=hM.pm.sm;refine (St.refl h).newb fun h7 hs=>?_;refine⟨_,hs.rd 0 rfl rfl,sBi (fun c=>RP.f (fun hG=>by have:=hG.r;omega) hs.ext) (fun c1=>?_)⟩;refine⟨_,hs.rd 0 rfl rfl,sBi (fun c=>RP.f (fun hG=>by have:=hG.r;omega) hs.ext) (fun c2=>?_)⟩;refine⟨_,hs.rd 0 rfl rfl,sBi (fun c=>RP.f (fun hG=>by have:=hG.n;omega) hs.ext) (fun c3=>?_)⟩;refine⟨_,hs.rd 0 rfl rfl,sBi (fun c=>RP.f (fun hG=>by have:=hG.n;omega) hs.ext) (fun c4=>?_)⟩;refine⟨_,hs.rd 0 rfl rfl,sBi (fun c=>RP.f (fun hG=>by have:=hG.s;omega) hs.ext) (fun c5=>?_)⟩;refine⟨_,hs.rd 0 rfl rfl,_,hs.rd 0 rfl rfl,sBi (fun c=>RP.f (fun hG=>by have:=hG.s;omega) hs.ext) (fun c5b=>?_)⟩;refine⟨sf,hs.rd 0 rfl rfl,_,hs.rd 0 rfl rfl,sBn (fun c=>RP.f (fun hG=>by have:=hG.fl;omega) hs.ext) (fun c6=>?_)⟩;refine⟨sm,hs.rd 0 rfl rfl,sBi (fun c=>RP.f (fun hG=>by have:=hG.ml;omega) hs.ext) (fun c7=>?_)⟩;refine up_loopS (n:=sm.n) hs (fun i=>∀(j:Nat) (x:Mv),j<i->m.mv[j]?=some x->0<=x.f/\x.f<m.n/\0<=x.t/\x.t<m.n/\0<=x.peer/\x.peer<6/\x.peer≠m.role/\0<=x.label/\x.label<40) (fun j x hj=>by omega) ?_;rintro-i h30 hi ⟨hs,hq⟩;refine⟨sm,hs.rd 0 rfl rfl,?_⟩;refine sB_intro (fun c=>?_) (fun c=>RP.t ⟨by omega,by omega,by omega,by omega,by omega,fun x hx=>?_⟩ hs.ext)
 .replace c:=lt_t c;refine⟨sm,hs.rd 0 rfl rfl,?_⟩;refine (hM.pm.rw.ext hs.ext).nbI (by omega) (by omega) fun b o x gx t=>?_;replace gx:m.mv[i]?=some x:=gx;have hxm:=Yb gx;refine⟨_,_,_,_,_,_,t,?_⟩;refine hs.newput (vs:=x.cs) rfl rfl fun h40 hs=>?_
  repeat' (first
    | (refine⟨_,hs.rd 0 rfl rfl,?_⟩)
    | (refine⟨_,hs.rd 1 rfl rfl,?_⟩)
    | (refine sBi (fun _=>?_) (fun _=>?_))
    | (refine sBe (fun _=>?_) (fun _=>?_))
    | (refine sBn (fun _=>?_) (fun _=>?_)))
  all_goals first
   | exact RP.f (fun hG=>by have:=hG.mv x hxm;omega) hs.ext
   | (refine Up.next c (by omega) ⟨hs.drop 1,fun j y hj hy=>?_⟩
      by_cases e:j=i
      .subst e;rw[gx] at hy;cases hy;omega
      .exact hq j y (by omega) hy)
 .replace c:=lt_f c;obtain⟨j,hj⟩:=Yf.1 hx;exact hq j x (by have:=(Ya.1 hj).1;omega) hj
def ApA (m:Mch) (x:Mv):Prop:=x.ag=true->x.send=true/\x.f≠m.s/\m.fin[x.f.toNat]?=some false
def ApP (i:Nat) (x:Mv) (k:Nat) (y:Mv):Prop:=(k≠i->x.f=y.f->x.send=y.send/\¬(x.peer=y.peer/\x.label=y.label)/\x.ag=false)/\(x.ag=true->y.t=x.f->y.send=true/\y.label=x.label)
def ApM (m:Mch):Prop:=∀(i:Nat) x,m.mv[i]?=some x->ApA m x/\∀(k:Nat) y,m.mv[k]?=some y->ApP i x k y
theorem apart59 (m:Mch) (sf sm sl:Sl) (h:Heap) (hM:MI h m sf sm sl) (hN:NumM m):Fn Pz 59 #[.agg ⟨mC m sf sm sl⟩] h (RP (ApM m) h):=by
 apply vc59 m.role m.n m.s sf sm sl;unfold W59 V59b V59a;have hfn:=hM.pf.ln;have hmn:=hM.pm.ln;have hmm:=hM.pm.sm;have hfl:=hN.fl;refine (St.refl h).newb fun h7 hs=>?_;refine up_loopS (n:=sm.n) hs (fun i=>∀(j:Nat) x,j<i->m.mv[j]?=some x->ApA m x/\∀(k:Nat) y,m.mv[k]?=some y->ApP j x k y) (fun j x hj=>by omega) ?_;clear hs;rintro-i h6 hi ⟨hs,hq⟩;refine⟨sm,hs.rd 0 rfl rfl,?_⟩;refine sB_intro (fun c=>?_) (fun c=>?_)
 .replace c:=lt_t c;refine⟨sm,hs.rd 0 rfl rfl,?_⟩;refine (hM.pm.rw.ext hs.ext).nbI (by omega) (by omega) fun b7 o8 x gx t=>?_;replace gx:m.mv[i]?=some x:=gx;have hxm:=Yb gx;have hxr:=hN.mv x hxm;refine⟨_,_,_,_,_,_,t,?_⟩;refine hs.newput (vs:=x.cs) rfl rfl fun h16 hs=>?_;refine⟨_,hs.rd 0 rfl rfl,sB_intro (fun c1=>?_) (fun c1=>?_)⟩;refine⟨_,hs.rd 0 rfl rfl,sB_intro (fun c2=>RP.f (fun hG=>by have:=((hG i x gx).1 c1).1;rw[this] at c2;cases c2) hs.ext) (fun c2=>?_)⟩;refine⟨_,hs.rd 0 rfl rfl,_,hs.rd 1 rfl rfl,sBe (fun c4=>RP.f (fun hG=>((hG i x gx).1 c1).2.1 c4) hs.ext) (fun c4=>?_)⟩;refine⟨sf,hs.rd 1 rfl rfl,_,hs.rd 0 rfl rfl,?_⟩;refine (hM.pf.rw.ext hs.ext).nbI (by omega) (by omega) fun b29 o30 f gf t29=>?_;refine⟨_,t29.hd,sB_intro (fun c5=>RP.f (fun hG=>by have:=((hG i x gx).1 c1).2.2;rw[gf] at this;cases this;cases c5) hs.ext) (fun c5=>?_)⟩;have hff:m.fin[x.f.toNat]?=some false:=by rw[gf,c5]
  rotate_left;all_goals
   refine up_loopS (n:=sm.n) hs (fun k=>∀(j:Nat) y,j<k->m.mv[j]?=some y->ApP i x j y) (fun j x hj=>by omega) ?_;clear hs;rintro-k h37 hk ⟨hs,hq2⟩;refine⟨sm,hs.rd 1 rfl rfl,?_⟩;refine sB_intro (fun c6=>?_) (fun c6=>?_)
   .replace c6:=lt_t c6;refine⟨sm,hs.rd 1 rfl rfl,?_⟩;refine (hM.pm.rw.ext hs.ext).nbI (by omega) (by omega) fun b38 o39 y gy t38=>?_;replace gy:m.mv[k]?=some y:=gy;have hym:=Yb gy;refine⟨_,_,_,_,_,_,t38,?_⟩;refine hs.newput (vs:=y.cs) rfl rfl fun h47 hs=>?_
    repeat' (first
     | (refine⟨_,hs.rd 0 rfl rfl,?_⟩)
     | (refine⟨_,hs.rd 1 rfl rfl,?_⟩)
     | (refine sBe (fun _=>?_) (fun _=>?_))
     | (refine sBn (fun _=>?_) (fun _=>?_))
     | (refine sB_intro (fun _=>?_) (fun _=>?_)))
    all_goals first
     | (refine RP.f (fun hG=>?_) hs.ext
        have hG:=(hG i x gx).2 k y gy;unfold ApP at hG
        simp_all;done)
     | (refine RP.f (fun hG=>?_) hs.ext
        have hG:=(hG i x gx).2 k y gy;unfold ApP at hG;have hki:k≠i:=by omega
        simp_all;done)
     | (refine Up.next c6 (by omega) ⟨hs.drop 1,fun j z hj hz=>?_⟩
        by_cases e:j=k
        .subst e;rw[gy] at hz;cases hz;constructor
         .intro g1 g2;first
           | (exfalso;omega)
           | (refine⟨?_,?_,?_⟩<;>simp_all)
         .intro g1 g2;refine⟨?_,?_⟩<;>simp_all
        .exact hq2 j z (by omega) hz)
   .replace c6:=lt_f c6;refine Up.next c (by omega) ⟨hs.drop 1,fun j z hj hz=>?_⟩;by_cases e:j=i
    .subst e;rw[gx] at hz;cases hz;refine⟨?_,fun k y hy=>hq2 k y (by have:=(Ya.1 hy).1;omega) hy⟩;unfold ApA
     simp_all
    .exact hq j z (by omega) hz
 .replace c:=lt_f c;exact RP.t (fun i x hx=>hq i x (by have:=(Ya.1 hx).1;omega) hx) hs.ext
theorem timed60 (m:Mch) (sf sm sl:Sl) (h:Heap) (hM:MI h m sf sm sl):Fn Pz 60 #[.agg ⟨mC m sf sm sl⟩] h (RP (TimM m) h):=by
 apply vc60 m.role m.n m.s sf sm sl;unfold W60 V60a;have hmn:=hM.pm.ln;have hmm:=hM.pm.sm;have hln:=hM.pl.ln;have hlm:=hM.pl.sm;refine (St.refl h).newb fun h7 hs=>?_;refine up_loopS (n:=sl.n) hs (fun i=>∀(j:Nat) x,j<i->m.li[j]?=some x->TmM m j x) (fun j x hj=>by omega) ?_;clear hs;rintro-i h12 hi ⟨hs,hq⟩;refine⟨sl,hs.rd 0 rfl rfl,?_⟩;refine sB_intro (fun c=>?_) (fun c=>?_)
 .replace c:=lt_t c;refine⟨sl,hs.rd 0 rfl rfl,?_⟩;refine (hM.pl.rw.ext hs.ext).nbI (by omega) (by omega) fun b15 o16 x gx t=>?_;replace gx:m.li[i]?=some x:=gx;have no:∀ {p:Prop},(TmM m i x->p)->TimM m->p:=fun f hG=>f (hG i x gx);refine⟨_,_,_,t,?_⟩;refine hs.newput (vs:=x.cs) rfl rfl fun h21 hs=>?_;refine⟨_,hs.rd 0 rfl rfl,sBi (fun d1=>RP.f (no fun hT=>by have:=hT.k;omega) hs.ext) (fun d1=>?_)⟩;refine⟨_,hs.rd 0 rfl rfl,sBi (fun d2=>RP.f (no fun hT=>by have:=hT.k;omega) hs.ext) (fun d2=>?_)⟩;refine⟨_,hs.rd 0 rfl rfl,sBi (fun d3=>RP.f (no fun hT=>by have:=hT.e.1;omega) hs.ext) (fun d3=>?_)⟩;refine⟨_,hs.rd 0 rfl rfl,sm,hs.rd 1 rfl rfl,sBi (fun d4=>RP.f (no fun hT=>by obtain⟨_,y,hy,_⟩:=hT.e;have:=(Ya.1 hy).1;omega) hs.ext) (fun d4=>?_)⟩;refine sBi (fun c1=>?_) (fun c1=>?_);refine⟨_,hs.rd 0 rfl rfl,sl,hs.rd 1 rfl rfl,?_⟩;have hw:IntKind.wrap .i64 ((i:Int)-1)=((i-1:Nat):Int):=by rw[w64 (by omega) (by omega)];omega
  rw[hw];refine (hM.pl.rw.ext hs.ext).nbI (by omega) (by omega) fun b29 o30 w gw t29=>?_;replace gw:m.li[i-1]?=some w:=gw;refine⟨_,t29.hd,sBi (fun d0=>RP.f (no fun hT=>by have:=hT.o w (by omega) gw;omega) hs.ext) (fun d0=>?_)⟩;have hord:∀z,0<i->m.li[i-1]?=some z->z.s<x.s:=fun z _ hz=>by rw[gw] at hz;cases hz;omega
  rotate_left;have hord:∀z,0<i->m.li[i-1]?=some z->z.s<x.s:=fun z h0 _=>by omega
  all_goals
   refine⟨sm,hs.rd 1 rfl rfl,_,hs.rd 0 rfl rfl,?_⟩;refine (hM.pm.rw.ext hs.ext).nbI (by omega) (by omega) fun b26 o27 y gy t26=>?_;refine⟨_,_,_,_,_,_,t26,?_⟩;refine hs.newput (vs:=y.cs) rfl rfl fun h35 hs=>?_;refine⟨_,hs.rd 0 rfl rfl,_,hs.rd 1 rfl rfl,sBn (fun d5=>RP.f (no fun hT=>by obtain⟨_,z,hz,hf,_⟩:=hT.e;rw[gy] at hz;cases hz;exact d5 hf) hs.ext) (fun d5=>?_)⟩;refine⟨_,hs.rd 0 rfl rfl,sB_intro (fun d6=>RP.f (no fun hT=>by obtain⟨_,z,hz,_,hf,_⟩:=hT.e;rw[gy] at hz;cases hz;rw[hf] at d6;cases d6) hs.ext) (fun d6=>?_)⟩;refine⟨_,hs.rd 0 rfl rfl,sB_intro (fun d7=>RP.f (no fun hT=>by obtain⟨_,z,hz,_,_,hf⟩:=hT.e;rw[gy] at hz;cases hz;rw[hf] at d7;cases d7) hs.ext) (fun d7=>?_)⟩;refine Up.next c (by omega) ⟨hs.drop 2,fun j z hj hz=>?_⟩;by_cases e:j=i
   .subst e;rw[gx] at hz;cases hz;exact⟨hord,by omega,by omega,y,gy,d5,bT d6,d7⟩
   .exact hq j z (by omega) hz
 .replace c:=lt_f c;exact RP.t (fun i x hx=>hq i x (by have:=(Ya.1 hx).1;omega) hx) hs.ext
theorem ap_iff {m:Mch}:ApM m ↔ DetM m/\AgM m:=by
 constructor
 .intro hA;refine⟨fun i k x y hx hy hne hf=>?_,?_⟩
  .have h1:=((hA i x hx).2 k y hy).1 (fun e=>hne e.symm) hf;refine⟨fun e=>h1.2.1 ?_,h1.1⟩;have e1:=congrArg Ev.peer e;have e2:=congrArg Ev.label e;exact⟨e1,e2⟩
  .have g:∀x∈m.mv,∃i:Nat,m.mv[i]?=some x:=fun x hx=>Yf.1 hx;refine⟨fun x hx ha=>?_,fun x hx ha=>?_,fun x hx ha=>?_,fun x hx ha=>?_,fun x hx ha y hy ht=>?_⟩
   .obtain⟨i,hi⟩:=g x hx;exact ((hA i x hi).1 ha).1
   .obtain⟨i,hi⟩:=g x hx;have hm:i∈outIx m x.f:=outIx_mem.2 ⟨x,hi,rfl⟩;have hall:∀k∈outIx m x.f,k=i:=fun k hk=>by
     obtain⟨y,hy,hf⟩:=outIx_mem.1 hk;by_cases e:k=i
     .exact e
     .have:=(((hA i x hi).2 k y hy).1 e hf.symm).2.2;rw[ha] at this;cases this
    have nd:=outIx_nodup m x.f
    revert hm hall nd
    cases outIx m x.f with
    | nil=>intro hm;cases hm
    | cons a l=>
     cases l with
     | nil=>intros;rfl
     | cons b l=>
      intro hm hall nd;have h1:=hall a (Yx);have h2:=hall b (Yn _ Yx);rw[List.nodup_cons] at nd;exact absurd (by rw[h1,<-h2];exact Yx) nd.1
   .obtain⟨i,hi⟩:=g x hx;exact ((hA i x hi).1 ha).2.1
   .obtain⟨i,hi⟩:=g x hx;exact ((hA i x hi).1 ha).2.2
   .obtain⟨i,hi⟩:=g x hx;obtain⟨k,hk⟩:=g y hy;exact ((hA i x hi).2 k y hk).2 ha ht
 .rintro⟨hD,hG⟩ i x hx;have hxm:=Yb hx;refine⟨fun ha=>⟨hG.s x hxm ha,hG.i x hxm ha,hG.f x hxm ha⟩,fun k y hy=>⟨fun hne hf=>?_,fun ha ht=>hG.p x hxm ha y (Yb hy) ht⟩⟩;have h1:=hD i k x y hx hy (fun e=>hne e.symm) hf;refine⟨h1.2,fun e=>h1.1 (ev_ext h1.2 e.1 e.2),?_⟩;cases ha:x.ag with
  | false=>rfl
  | true=>
   have hl:=hG.o x hxm ha;have m1:i∈outIx m x.f:=outIx_mem.2 ⟨x,hx,rfl⟩;have m2:k∈outIx m x.f:=outIx_mem.2 ⟨y,hy,hf.symm⟩
   revert m1 m2 hl
   cases outIx m x.f with
   | nil=>intro h;cases h
   | cons a l=>
    intro hl m1 m2;have:l=[]:=List.eq_nil_of_length_eq_zero (by rw[Yyj] at hl;omega);subst this;rw[Ye] at m1 m2;exact absurd (m2.trans m1.symm) hne
end Go.VC
end
