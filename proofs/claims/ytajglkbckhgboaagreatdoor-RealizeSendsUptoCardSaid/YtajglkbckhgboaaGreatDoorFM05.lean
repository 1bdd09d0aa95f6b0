/- SxSh SxStA SxG0 SxStB SxLi0 SxLi SxStub SxB SxC SxD SxE SxF SxG SxH SxI SxJ SxK SxL SxM SxN SxO SxP SxQ SxR SxS SxT1 SxStubB SxT SxU SxV0 SxV SxW0 SxW SxX SxY SxZ SxRp SxMa. -/
import Derived.Test.YtajglkbckhgboaaGreatDoorFM04
import Derived.Lib.TrailingZeros
import Derived.Maps.AppendAt
import Derived.DeepKeys4
set_option linter.all false
set_option maxRecDepth 100000
set_option maxHeartbeats 8000000

section
namespace Go.VC
open Go.Proofs Go.LexS Go.Shelf
structure Gm (h:Heap):Prop where
 m:∃m:Int,hc h ⟨1,0,none⟩=some (.int .i64 m)
theorem Gm.ext {h h':Heap} (hx:Gm h) (E:Ext h h'):Gm h':=by
 obtain⟨m,hm⟩:=hx.m;exact⟨⟨m,hc_ext E hm⟩⟩
structure Gx (h:Heap):Prop where
 m:∃m:Int,hc h ⟨1,0,none⟩=some (.int .i64 m)
 t:∀j,j<Lib.deBruijn64tab.length->hc h ⟨0,j,none⟩=some (.int .u8 (Lib.deBruijn64tab.getD j 0))
theorem Gx.ext {h h':Heap} (hx:Gx h) (E:Ext h h'):Gx h':=by
 obtain⟨m,hm⟩:=hx.m;exact⟨⟨m,hc_ext E hm⟩,fun j hj=>hc_ext E (hx.t j hj)⟩
instance {h:Heap}:Coe (Gx h) (Gm h):=⟨fun hx=>⟨hx.m⟩⟩
theorem mul106 (x y:Nat) (hx:x<18446744073709551616) (hy:y<18446744073709551616) (h:Heap):Fn Pz 141 #[.int .u64 x,.int .u64 y] h fun v h'=>v=.tuple ⟨[.int .u64 ((x*y/18446744073709551616:Nat):Int),.int .u64 ((x*y%18446744073709551616:Nat):Int)]⟩/\h'=h:=
 Fn.of_same fun w=>Any.bits_Mul Tryz.lays212 x y hx hy w
def pieces (l:Nm):List Nm:=Go.Lib.split l [46]
theorem split255 (l:Nm) (h:Heap) (hx:Gm h) (hl:l.length<=50):Fn Pz 298 #[.string (bs l),.string (bs [46])] h fun v h'=>Ext h h'/\∃s:Sl,v=.slice s.a s.n s.c/\RL h' 1 s nmC (pieces l):=by
 intro w hw;subst hw;obtain⟨m,hm⟩:=hx.m;have hle:=Lib.countB_le (bs [46]) (by decide) (bs l).size (bs l) (Yyt _);have hlen:=Lib.splitB_all (bs [46]) (by decide) 0 _ (bs l) rfl;have hdat:=Lib.splitB_data (bs [46]) 0 (Lib.countB (bs l) (bs [46])) (bs l);have hp:pieces l=(Lib.splitB (bs [46]) 0 (Lib.countB (bs l) (bs [46])) (bs l)).map (·.data.toList):=hdat.symm;have hcells:(Lib.splitB (bs [46]) 0 (Lib.countB (bs l) (bs [46])) (bs l)).map Value.string=(pieces l).map fun x=>Value.string (bs x):=by
  rw[hp,List.map_map];rfl
 have hpl:(pieces l).length=Lib.countB (bs l) (bs [46])+1:=by rw[hp,Yc,hlen]
 rw[bs_size] at hle;refine (Any.strings_Split Tryz.lays146 (by kernel_rfl) (bs l) (bs [46]) m w (by rw[bs_size];omega) hm (by decide)).mono ?_;rintro e w' ⟨rfl,rfl⟩;rw[hcells];have ho:Own (w.alloc (.cells ((pieces l).map fun x=>Value.string (bs x)).toArray (Tryz.lays146_ren.t 9))).heap w.heap.size ((pieces l).map fun x=>Value.string (bs x)) (Tryz.lays146_ren.t 9):=Own.push;refine⟨_,rfl,⟨Ext.push _ _,⟨some ⟨w.heap.size,0,none⟩,Lib.countB (bs l) (bs [46])+1,Lib.countB (bs l) (bs [46])+1⟩,rfl,⟨⟨by rw[Yc,hpl],fun _=>⟨w.heap.size,0,rfl,fun i row hi=>?_⟩⟩,Yyt _,(fun e=>by cases e),by rw[hpl];omega⟩⟩,rfl,rfl,rfl,trivial⟩;rw[Yd] at hi;obtain⟨x,hx1,hx2⟩:=Yya.1 hi;subst hx2;refine ho.atC fun j v hj=>?_
 match j,hj with
 | 0,hj=>cases hj;rw[show 0+i*1+0=i by omega,Yd,hx1];rfl
theorem swoE:Go.Sort.SWO (ltOf cmpE) where
 irrefl x:=by unfold ltOf;rw[decide_eq_false_iff_not,cmpE_neg];exact evLt_irr x
 trans x y z h1 h2:=by unfold ltOf at *;rw[decide_eq_true_eq,cmpE_neg] at *;exact evLt_trans h1 h2
 ntrans x y z h1 h2:=by
  unfold ltOf at *;rw[decide_eq_false_iff_not,cmpE_neg] at *;obtain⟨a,b,c⟩:=x;obtain⟨a',b',c'⟩:=y;obtain⟨a'',b'',c''⟩:=z;unfold evLt at *;cases a<;>cases a'<;>cases a''<;>simp at *<;>omega
instance:Inhabited Ev:=⟨⟨false,0,0⟩⟩
instance:Inhabited Mv:=⟨⟨0,false,0,0,0,false⟩⟩
theorem sort137 {h0 h:Heap} {L:List It} (hs:St h0 h L) (k:Nat) {s:Sl} {l:List Ev} (hk:L[k]?=some (.sl s 140 3 (l.map Ev.cs))) (hm:l.length<=1048576) :
  Fn Pz 124 #[.slice s.a s.n s.c,.func (.func 125) #[] #[]] h fun v h'=>v=.tuple ⟨[]⟩/\∃l':List Ev,l'.Perm l/\l'.Pairwise (fun a b=>¬evLt b a)/\St h0 h' (L.set k (.sl s 140 3 (l'.map Ev.cs))):=by
 refine Fn.mono (sort_own Tryz.sortL137 3 140 Tryz.isAgg140 Tryz.sizeOf140 Ev.cs (fun _=>rfl) (fun x v hv=>by simp[Ev.cs] at hv;rcases hv with rfl | rfl | rfl<;>rfl) cmpE swoE 125 (enters_of Tryz.func125 (by kernel_rfl) rfl) (fun x y h=>@M.compare138 monoDrawn x y h) hs k hk (by omega) (by omega)) ?_;rintro v h' ⟨rfl,l',hp,hw,hs'⟩;exact⟨rfl,l',hp,hw.imp fun {a b} hab=>by unfold ltOf at hab;rw[decide_eq_false_iff_not,cmpE_neg] at hab;exact hab,hs'⟩
end Go.VC
end

section
namespace Go.VC
open Go.Proofs Go.LexS
theorem compactL_ne {l:List Ev} (h:l≠[]):compactL l≠[]:=by
 cases l with
 | nil=>exact absurd rfl h
 | cons a r=>
  intro e;have:=(compactL_mem (a::r) a).2 (by simp);rw[e] at this;cases this
theorem compactL_snoc:∀(l:List Ev) (x:Ev),compactL (l++[x])=if l.getLast?=some x then compactL l else compactL l++[x]
 | [],x=>by simp[compactL]
 | a::r,x=>by
  have ih:=compactL_snoc r x;cases r with
  | nil=>
   by_cases h:a=x
   .subst h;simp[compactL]
   .simp[compactL,h]
  | cons b r'=>
   have hne:=compactL_ne (l:=b::r') (by simp);have hl:(a::b::r').getLast?=(b::r').getLast?:=by simp[List.getLast?_cons_cons]
   rw[List.cons_append,compactL,ih,hl];by_cases h:(b::r').getLast?=some x
   .rw[if_pos h,if_pos h]
    conv=>rhs;rw[compactL]
   .rw[if_neg h,if_neg h]
    conv=>rhs;rw[compactL]
    cases hc:compactL (b::r') with
    | nil=>exact absurd hc hne
    | cons y t=>
     simp only[List.cons_append];split<;>rfl
theorem compactL_step {l:List Ev} {k:Nat} {x y:Ev} (hx:l[k]?=some x) (hk:1<=k) (hy:l[k-1]?=some y):compactL (l.take (k+1))=if x=y then compactL (l.take k) else compactL (l.take k)++[x]:=by
 rw[take_snoc hx,compactL_snoc];have hl:(l.take k).getLast?=some y:=by
  have hkl:=(Ya.1 hx).1;rw[List.getLast?_eq_getElem?,Yu,Nat.min_eq_left (by omega),Yyf,if_pos (by omega)];exact hy
 rw[hl];by_cases e:x=y
 .rw[if_pos e,if_pos (by rw[e])]
 .rw[if_neg e,if_neg (fun h=>e (by cases h;rfl))]
theorem evEq (x y:Ev):((x.send==y.send)&&((x.peer==y.peer)&&((x.label==y.label)&&true)))=decide (x=y):=by
 obtain⟨a,b,c⟩:=x;obtain⟨d,e,f⟩:=y;rw[Bool.eq_iff_iff];simp
theorem und151:Pz.underlying 127=some (.slice 140):=by kernel_rfl
theorem zero116 (w:World):(zeroValue 140).run Pz w=.ok (.agg #[.bool false,.int .i64 0,.int .i64 0]) w:=by
 have hi:(Pz.info? 140).bind (·.zero)=some (.agg #[.bool false,.int .i64 0,.int .i64 0]):=by kernel_rfl
 cases h:Pz.info? 140 with
 | none=>rw[h] at hi;cases hi
 | some i=>rw[h] at hi;simp only[Option.bind_some] at hi;simp[zeroValue,typeInfo,h,hi]
theorem compact139 {h0 h:Heap} {L:List It} (hs:St h0 h L) (k:Nat) {s:Sl} {l:List Ev} (hk:L[k]?=some (.sl s 140 3 (l.map Ev.cs))) (hm:l.length<=1048576) :
  Fn Pz 126 #[.slice s.a s.n s.c] h fun v h'=>∃r:Sl,v=.slice r.a r.n r.c/\St h0 h' (L.set k (.sl r 140 3 ((compactL l).map Ev.cs))):=by
 apply vc126 s;unfold W126;have hlen:=hs.len k hk (by omega);have hn:s.n=l.length:=by rw[hlen.1,Yc]
 have hkl:k<L.length:=(Ya.1 hk).1;have hset:L.set k (.sl s 140 3 (l.map Ev.cs))=L:=by
  obtain⟨a,b⟩:=Ya.1 hk;rw[<-b];exact List.set_getElem_self a
 have hself:compactL l=l->(∃r:Sl,Value.slice s.a s.n s.c=.slice r.a r.n r.c/\St h0 h (L.set k (.sl r 140 3 ((compactL l).map Ev.cs)))):=fun e=>⟨s,rfl,by rw[e,hset];exact hs⟩;refine sB_intro (fun c=>?_) (fun c=>?_)
 .have:l.length<2:=by have:=Yyn c;omega
  refine hself ?_
  match l,this with
  | [],_=>rfl
  | [a],_=>rfl
 .have h2:2<=l.length:=by have:=Yyo c;omega
  refine⟨fun x h' m=>∃i:Nat,x=i/\1<=i/\i<=l.length/\m=l.length-i/\h'=h/\compactL (l.take i)=l.take i,⟨_,1,rfl,by omega,by omega,rfl,rfl,?_⟩,?_⟩
  .match l,h2 with
   | a::r,_=>rfl
  rintro-x h5 m ⟨i,rfl,hi1,hin,rfl,rfl,hcc⟩;refine sB_intro (fun l2=>?_) (fun l2=>?_)
  .replace l2:=lt_t l2;have hrw:=hs.rows k hk (by omega);refine hrw.nbI (by omega) (by omega) fun b o x1 g t=>?_;replace g:l[i]?=some x1:=g;refine⟨_,_,_,t,?_⟩;have hw1:IntKind.wrap .i64 ((i:Int)-1)=((i-1:Nat):Int):=by rw[w64 (by omega) (by omega)];omega
   rw[hw1];refine hrw.nbI (x:=((i-1:Nat):Int)) (by omega) (by omega) fun b' o' y1 g' t'=>?_;replace g':l[i-1]?=some y1:=g';refine⟨_,_,_,t',?_⟩;rw[evEq];have hstep:=compactL_step g hi1 g';refine sB_intro (fun e=>?_) (fun e=>?_)
   .replace e:=Yyn e;rw[if_pos e,hcc] at hstep;have hcap:=hlen.2.1;refine⟨⟨by omega,by omega,by omega⟩,?_⟩;refine⟨fun kk x h' m=>∃(q j:Nat) (cl:List Ev),kk=q/\x=j/\1<=j/\i+j<=l.length/\q<=i+j-1/\m=l.length-j/\cl.length=l.length/\cl.take q=compactL (l.take (i+j))/\(∀a,i+j-1<=a->cl[a]?=l[a]?)/\St h0 h' (L.set k (.sl s 140 3 (cl.map Ev.cs))),
     ⟨_,i,1,l,rfl,rfl,by omega,by omega,by omega,rfl,rfl,hstep.symm,fun _ _=>rfl,by rw[hset];exact hs⟩,?_⟩
    rintro-kk x h21 m' ⟨q,j,cl,rfl,rfl,hj1,hjn,hq,rfl,hcl,hct,hun,hs⟩;have hkI:(L.set k (.sl s 140 3 (cl.map Ev.cs)))[k]?=some (.sl s 140 3 (cl.map Ev.cs)):=by rw[Yq hkl]
    have hfrom:=(hs.rows k hkI (by omega)).from (i:=i) (by omega) (by omega)
    rw[<-List.map_drop] at hfrom;have hti:Int.toNat ((s.n:Nat):Int)-Int.toNat ((i:Nat):Int)=s.n-i:=by simp
    have htI:Int.toNat ((i:Nat):Int)=i:=by simp
    refine sB_intro (fun c2=>?_) (fun c2=>?_)
    .have hjl:i+j<l.length:=by have:=Yyn c2;rw[hti] at this;omega
     rw[hti,htI];refine hfrom.nbI (x:=(j:Int)) (by omega) (by show (j:Int)<((s.n-i:Nat):Int);omega) fun b2 o2 x2 g2 t2=>?_;replace g2:(cl.drop i)[j]?=some x2:=g2;rw[List.getElem?_drop,hun _ (by omega)] at g2;refine⟨_,_,_,t2,?_⟩;have hw2:IntKind.wrap .i64 ((j:Int)-1)=((j-1:Nat):Int):=by rw[w64 (by omega) (by omega)];omega
     rw[hw2];refine hfrom.nbI (x:=((j-1:Nat):Int)) (by omega) (by show ((j-1:Nat):Int)<((s.n-i:Nat):Int);omega) fun b3 o3 y2 g3 t3=>?_;replace g3:(cl.drop i)[j-1]?=some y2:=g3;rw[List.getElem?_drop,show i+(j-1)=i+j-1 by omega,hun _ (by omega)] at g3;refine⟨_,_,_,t3,?_⟩;rw[evEq];have hst2:=compactL_step g2 (by omega) g3;have hwj:IntKind.wrap .i64 ((j:Int)+1)=((j+1:Nat):Int):=by rw[w64 (by omega) (by omega)];omega
     have hwq:IntKind.wrap .i64 ((q:Int)+1)=((q+1:Nat):Int):=by rw[w64 (by omega) (by omega)];omega
     refine sB_intro (fun e2=>?_) (fun e2=>?_)
     .have hne:x2≠y2:=by simpa using e2
      rw[if_neg hne] at hst2;refine hfrom.nbI (x:=(j:Int)) (by omega) (by show (j:Int)<((s.n-i:Nat):Int);omega) fun b4 o4 x3 g4 t4=>?_;replace g4:(cl.drop i)[j]?=some x3:=g4;rw[List.getElem?_drop,hun _ (by omega)] at g4;rw[g2] at g4;cases g4;refine⟨_,_,_,t4,?_⟩;refine hs.set k hkI (by omega) (x:=(q:Int)) (by omega) (by omega) x2 rfl rfl (fun b5 o5 h39 hs=>?_) rfl;rw[List.set_set] at hs;refine⟨l.length-(j+1),by omega,q+1,j+1,cl.set q x2,hwq,hwj,by omega,by omega,by omega,rfl,by rw[Yyh];exact hcl,?_,?_,hs⟩
      .rw[show i+(j+1)=i+j+1 by omega,hst2,<-hct,take_snoc (x:=x2) (by rw[Yq (by omega)]),List.take_set_of_le (Yyt _)]
      .intro a ha;rw[Yy (by omega)];exact hun a (by omega)
     .have heq:x2=y2:=by simpa using e2
      rw[if_pos heq] at hst2;refine⟨l.length-(j+1),by omega,q,j+1,cl,rfl,hwj,by omega,by omega,by omega,rfl,hcl,?_,fun a ha=>hun a (by omega),hs⟩;rw[show i+(j+1)=i+j+1 by omega,hst2];exact hct
    .have hjl:i+j=l.length:=by have:=Yyo c2;rw[hti] at this;omega
     refine⟨⟨by omega,by omega,by omega⟩,?_⟩;have htq:Int.toNat ((q:Nat):Int)=q:=by simp
     have htn:Int.toNat ((s.n:Nat):Int)=s.n:=by simp
     rw[htq,htn];refine hs.clear k hkI (by omega) q (by omega) und151 zero116 rfl rfl fun v h42 hs=>?_;refine⟨⟨by omega,by omega,by omega⟩,⟨s.a,q,s.c⟩,?_,?_⟩
     .rw[show Int.toNat 0=0 from rfl,subA_zero];rfl
     .rw[List.set_set,<-List.map_take,hct,hjl,Yye] at hs;exact hs
   .replace e:=Yyo e;rw[if_neg e,hcc] at hstep;refine⟨l.length-(i+1),by omega,i+1,by rw[w64 (by omega) (by omega)];omega,by omega,by omega,rfl,rfl,?_⟩;rw[hstep,take_snoc g]
  .replace l2:=lt_f l2;rw[Yj (by omega)] at hcc;exact hself hcc
end Go.VC
end

section
namespace Go.VC
def src_ (bk:Bool) (x:Ed):Int:=if bk then x.t else x.f
def dst_ (bk:Bool) (x:Ed):Int:=if bk then x.f else x.t
def Adj (es:List Ed) (bk:Bool) (a b:Int):Prop:=∃x∈es,src_ bk x=a/\dst_ bk x=b
inductive Rch (es:List Ed) (bk:Bool) (a:Int):Int->Prop where
 | refl:Rch es bk a a
 | step {b c:Int}:Rch es bk a b->Adj es bk b c->Rch es bk a c
def Vis (D:List Int) (v:Int):Prop:=0<=v/\∃d,D[v.toNat]?=some d/\0<=d
structure BF (es:List Ed) (bk:Bool) (n:Nat) (s:Int) (D T:List Int):Prop where
 len:D.length=n
 src:Vis D s
 r:∀v,Vis D v->Rch es bk s v
 t:∀t∈T,Vis D t
 c:∀v w,Vis D v->v∉T->Adj es bk v w->Vis D w
 b:∀d∈D,-1<=d/\d+D.count (-1)<=200
theorem vis_set {D:List Int} {b d v:Int} (hb0:0<=b) (hb:b<D.length) (hd:0<=d):Vis (D.set b.toNat d) v ↔ v=b\/Vis D v:=by
 unfold Vis;constructor
 .rintro⟨h0,e,he,h1⟩;by_cases hvb:v=b
  .exact .inl hvb
  .rw[Yy (by omega)] at he;exact .inr ⟨h0,e,he,h1⟩
 .rintro (rfl | ⟨h0,e,he,h1⟩)
  .exact⟨hb0,d,by rw[Yq (by omega)],hd⟩
  .by_cases hvb:v=b
   .subst hvb;exact⟨hb0,d,by rw[Yq (by omega)],hd⟩
   .exact⟨h0,e,by rw[Yy (by omega)];exact he,h1⟩
theorem BF.push {es:List Ed} {bk:Bool} {n:Nat} {s:Int} {D T:List Int} (h:BF es bk n s D T) {a b da db:Int} (ha:Vis D a) (hda:D[a.toNat]?=some da) (hb0:0<=b) (hb:D[b.toNat]?=some db) (hneg:db<0) (hab:Adj es bk a b) :
  BF es bk n s (D.set b.toNat (da+1)) (T++[b])/\(D.set b.toNat (da+1)).count (-1)+1=D.count (-1)/\0<=da/\da+1<=200:=by
 have hbl:=(Ya.1 hb).1;have hbe:=(Ya.1 hb).2;have hda0:0<=da:=by
  obtain⟨_,e,he,h1⟩:=ha;rw[hda] at he;cases he;exact h1
 have hdb:db=-1:=by have:=(h.b db (Yb hb)).1;omega
 subst hdb;have hvs:∀v,Vis (D.set b.toNat (da+1)) v ↔ v=b\/Vis D v:=fun v=>vis_set hb0 (by omega) (by omega);have hpos:0<D.count (-1):=List.count_pos_iff.2 (Yb hb);have hcnt:(D.set b.toNat (da+1)).count (-1)+1=D.count (-1):=by
  rw[List.count_set hbl,hbe];have:((da+1)==(-1:Int))=false:=by simp;omega
  rw[this];simp;omega
 have hub:=(h.b da (Yb hda)).2;refine⟨⟨by rw[Yyh];exact h.len,(hvs s).2 (.inr h.src),fun v hv=>?_,fun t ht=>?_,fun v w hv hn hvw=>?_,fun d hd=>?_⟩,hcnt,hda0,by omega⟩
 .rcases (hvs v).1 hv with rfl | hv
  .exact (h.r a ha).step hab
  .exact h.r v hv
 .rcases Yk.1 ht with ht | ht
  .exact (hvs t).2 (.inr (h.t t ht))
  .rw[Ye] at ht;exact (hvs t).2 (.inl ht)
 .rw[Yk,Ye,not_or] at hn;rcases (hvs v).1 hv with rfl | hv
  .exact absurd rfl hn.2
  .exact (hvs w).2 (.inr (h.c v w hv hn.1 hvw))
 .rcases List.mem_or_eq_of_mem_set hd with hd | rfl
  .have:=h.b d hd;omega
  .omega
theorem BF.start {es:List Ed} {bk:Bool} {n:Nat} {s:Int} (h0:0<=s) (h1:s<n) (hn:n<=200):BF es bk n s ((List.replicate n (-1:Int)).set s.toNat 0) [s]:=by
 have hl:s<(List.replicate n (-1:Int)).length:=by rw[Yg];exact h1
 have hv:∀v,Vis ((List.replicate n (-1:Int)).set s.toNat 0) v ↔ v=s:=fun v=>by
  rw[vis_set h0 hl (by omega)];refine⟨fun h=>h.elim id fun h=>?_,.inl⟩;obtain⟨_,d,hd,h2⟩:=h;have:=List.eq_of_mem_replicate (Yb hd);omega
 have hc:((List.replicate n (-1:Int)).set s.toNat 0).count (-1)<=200:=Yys List.count_le_length (by rw[Yyh,Yg];exact hn);refine⟨by rw[Yyh,Yg],(hv s).2 rfl,fun v h=>?_,fun t ht=>?_,fun v w h hn=>?_,fun d hd=>?_⟩
 .rw[(hv v).1 h];exact .refl
 .rw[Ye] at ht;exact (hv t).2 ht
 .rw[(hv v).1 h] at hn;exact absurd (Ye.2 rfl) hn
 .rcases List.mem_or_eq_of_mem_set hd with hd | rfl
  .rw[List.eq_of_mem_replicate hd];omega
  .omega
theorem BF.end_ {es:List Ed} {bk:Bool} {n:Nat} {s:Int} {D:List Int} (h:BF es bk n s D []) (v:Int):Vis D v ↔ Rch es bk s v:=by
 refine⟨h.r v,fun hr=>?_⟩
 induction hr with
 | refl=>exact h.src
 | step _ hbc ih=>exact h.c _ _ ih (by simp) hbc
theorem BF.all {es:List Ed} {bk:Bool} {n:Nat} {s:Int} {D:List Int} (h:BF es bk n s D []):(-1:Int)∈D ↔ ¬∀v:Int,0<=v->v<n->Rch es bk s v:=by
 constructor
 .intro hm hall;obtain⟨j,hj⟩:=Yf.1 hm;have hl:=(Ya.1 hj).1;obtain⟨_,d,hd,h0⟩:=(h.end_ (j:Int)).2 (hall j (by omega) (by have:=h.len;omega));rw[show ((j:Int)).toNat=j from rfl,hj] at hd;cases hd;omega
 .intro hn;apply Classical.byContradiction;intro hm;apply hn;intro v h0 hv;have hl:v.toNat<D.length:=by have:=h.len;omega
  refine (h.end_ v).1 ⟨h0,D[v.toNat],Yi hl,?_⟩;have h1:=(h.b _ (List.getElem_mem hl)).1;have h2:D[v.toNat] ≠ -1:=fun e=>hm (e ▸ List.getElem_mem hl);omega
end Go.VC
end

section
namespace Go.VC
open Go.Proofs Go.LexS
theorem und42:Pz.underlying 102=some (.slice 3):=by kernel_rfl
theorem size3:(Pz.info? 3).map (·.size)=some 1:=by kernel_rfl
theorem made3 (n:Nat):madeL Pz 3 n=List.replicate n (.int .i64 0):=by
 have hz:zeroC Pz 3=[.int .i64 0]:=by kernel_rfl
 unfold madeL;rw[hz]
 induction n with
 | zero=>rfl
 | succ n ih=>rw[List.replicate_succ,Yyu,ih];rfl
theorem rep_of {xs:List Value} {n:Nat} (hl:xs.length=n) (h:∀j,j<n->xs[j]?=some (.int .i64 (-1))):xs=((List.replicate n (-1:Int)).map inC).flatten:=by
 subst hl
 induction xs with
 | nil=>rfl
 | cons a r ih=>
  have h0:=h 0 (by simp);simp only[List.getElem?_cons_zero,Option.some.injEq] at h0;rw[Yyj,List.replicate_succ,Yyl,Yyu,<-ih fun j hj=>by have:=h (j+1) (by simpa using hj);simpa using this,h0];rfl
theorem wu64b {n:Int} (h0:0<=n) (h1:n<18446744073709551616):IntKind.wrap .u64 n=n:=by
 simp[IntKind.wrap,IntKind.signed,IntKind.bits];omega
theorem splice_rep {xs:List Value} {o m:Nat} (hm:o+m<=xs.length) (h:∀j,j<o->xs[j]?=some (.int .i64 (-1))):(splice xs o (List.replicate m (.int .i64 (-1)))).length=xs.length/\∀j,j<o+m->(splice xs o (List.replicate m (.int .i64 (-1))))[j]?=some (.int .i64 (-1)):=by
 unfold splice;refine⟨by simp only[Yh,Yu,List.length_drop,Yg];omega,fun j hj=>?_⟩;by_cases hjo:j<o
 .rw[Yz,Yyi (by rw[Yu];omega),Yyf,if_pos hjo];exact h j hjo
 .rw[Yyi (by simp only[Yh,Yu,Yg];omega),Yyc (by rw[Yu];omega),Yu,List.getElem?_replicate,if_pos (by omega)]
theorem ext_but {h h1 h2:Heap} {b:Nat} (E:Ext h h1) (B:But b h1 h2) (hb:h.size<=b):Ext h h2:=⟨by rw[B.1];exact E.1,fun k hk=>(B.2 k (by omega)).trans (E.2 k hk)⟩
theorem repeat60 (n:Int) (h0:0<=n) (h1:n<=200) (b:Nat) (h:Heap) (hb:hc h ⟨b,0,none⟩=some (.int .i64 (-1))) :
  Fn Pz 77 #[.slice (some ⟨b,0,none⟩) 1 1,.int .i64 n] h fun v h'=>Ext h h'/\∃s:Sl,v=.slice s.a s.n s.c/\OwnS h' h.size 3 1 s ((List.replicate n.toNat (-1)).map inC).flatten:=by
 obtain⟨N,rfl⟩:∃N:Nat,n=N:=⟨n.toNat,by omega⟩;have hN:N<=200:=by omega
 have hbl:b<h.size:=by
  rcases Nat.lt_or_ge b h.size with hlt | hge
  .exact hlt
  .unfold hc at hb;rw[Array.getElem?_eq_none (by simpa using hge)] at hb;cases hb
 apply vc77 ⟨some ⟨b,0,none⟩,1,1⟩;unfold W77;refine⟨fun h'=>h'=h,sB_f (decide_eq_false (by omega)) rfl,?_⟩;rintro-_ rfl;rw[show IntKind.wrap .u64 (((1:Nat):Int))=((1:Nat):Int) from wu64b (by omega) (by omega),show IntKind.wrap .u64 (N:Int)=((N:Nat):Int) from wu64b (by omega) (by omega)];refine (mul106 1 N (by omega) (by omega) _).mono ?_;rintro _ h6 ⟨rfl,rfl⟩;rw[show 1*N/18446744073709551616=0 by omega,show 1*N%18446744073709551616=N by omega];refine⟨_,_,rfl,fun h'=>h'=h6,sB_f rfl (sB_f (decide_eq_false (by omega)) rfl),?_⟩;rintro-h8 rfl;rw[show IntKind.wrap .i64 ((N:Nat):Int)=N from w64 (by omega) (by omega)];refine⟨⟨by omega,by omega,by omega⟩,?_⟩;rw[Ys,made3];intro h9 hh9;have o9:Own h9 h8.size (List.replicate N (.int .i64 0)) 3:=by rw[hh9];exact Own.push
 have E9:Ext h8 h9:=by rw[hh9];exact Ext.push _ _
 have hb9:hc h9 ⟨b,0,none⟩=some (.int .i64 (-1)):=by rw[E9.hc hbl];exact hb
 refine Cpy_row und42 size3 o9 (g2:=b) (o2:=0) (l:=List.replicate (min 1 N) (.int .i64 (-1))) (by simp) ?_ (by simp;omega) (fun v hv=>by rw[List.eq_of_mem_replicate hv];rfl) fun h11 B11 o11=>?_
 .intro j c hj;rw[List.getElem?_replicate] at hj;split at hj
  .cases hj;rw[show 0+j=0 by omega];exact hb9
  .cases hj
 obtain⟨e1,e2⟩:=splice_rep (xs:=List.replicate N (.int .i64 0)) (o:=0) (m:=min 1 N) (by simp;omega) (fun j hj=>by omega);generalize hxs:splice (List.replicate N (Value.int .i64 0)) 0 (List.replicate (min 1 N) (.int .i64 (-1)))=xs at o11 e1 e2;rw[Yg] at e1;have E11:=ext_but E9 B11 (Yyt _);clear hxs B11 o9;rw[Yg];refine⟨fun x h' m=>∃(i:Nat) (xs:List Value),x=i/\i<=N/\(1<=i\/N=0)/\m=N-i/\Own h' h8.size xs 3/\xs.length=N/\(∀j,j<i->xs[j]?=some (.int .i64 (-1)))/\Ext h8 h',
  ⟨_,min 1 N,xs,rfl,by omega,by omega,rfl,o11,e1,fun j hj=>e2 j (by omega),E11⟩,?_⟩
 rintro-x h16 m ⟨i,xs,rfl,hi,hi1,rfl,o16,hl,hall,E16⟩;refine sB_intro (fun c=>?_) (fun c=>?_)
 .replace c:=lt_t c;refine⟨⟨by omega,by omega,by omega⟩,⟨by omega,by omega,by omega⟩,?_⟩;rw[show Int.toNat ((i:Nat):Int)=i from Ys i,show Int.toNat ((N:Nat):Int)=N from Ys N,show Int.toNat 0=0 from rfl,subA_zero,subA_some c];refine Cpy_row und42 size3 o16 (g2:=h8.size) (o2:=0) (l:=List.replicate (min i (N-i)) (.int .i64 (-1))) (by simp) ?_ (by simp;omega) (fun v hv=>by rw[List.eq_of_mem_replicate hv];rfl) fun h18 B18 o18=>?_
  .intro j c hj;rw[List.getElem?_replicate] at hj;split at hj
   .cases hj;rw[o16.hc];exact hall _ (by omega)
   .cases hj
  obtain⟨e3,e4⟩:=splice_rep (xs:=xs) (o:=0+i*1) (m:=min i (N-i)) (by omega) (fun j hj=>hall j (by omega));rw[Yg];refine⟨N-(i+min i (N-i)),by omega,i+min i (N-i),_,by rw[w64 (by omega) (by omega)];omega,by omega,by omega,rfl,o18,by rw[e3];exact hl,fun j hj=>e4 j (by omega),ext_but E16 B18 (Yyt _)⟩
 .replace c:=lt_f c;have hiN:i=N:=by omega
  subst hiN;refine⟨E16,⟨some ⟨h8.size,0,none⟩,i,i⟩,rfl,?_,.inr ⟨h8.size,⟨xs⟩,rfl,Yyt _,o16,Yyt _,?_,?_,?_⟩⟩
  .rw[<-rep_of hl hall];show xs.length=i*1;omega
  .show i<=9223372036854775807;omega
  .show xs.length=i*1;omega
  .show xs.take (i*1)=_;rw[Yj (by omega)];exact rep_of hl hall
end Go.VC
end

section
namespace Go.VC
def bitsL (w:Nat):List Nat:=(List.range 64).filter fun j=>w.testBit j
theorem filter_first {f g:Nat->Bool} {k:Nat} (h1:∀j,j<k->f j=false/\g j=false) (h2:f k=true) (h3:g k=false) (h4:∀j,k<j->f j=g j):∀d:Nat,(List.range (k+1+d)).filter f=k::(List.range (k+1+d)).filter g
 | 0=>by
  have e1:(List.range k).filter f=[]:=List.filter_eq_nil_iff.2 fun j hj=>by rw[(h1 j (List.mem_range.1 hj)).1];simp
  have e2:(List.range k).filter g=[]:=List.filter_eq_nil_iff.2 fun j hj=>by rw[(h1 j (List.mem_range.1 hj)).2];simp
  rw[Nat.add_zero,List.range_succ,List.filter_append,List.filter_append,e1,e2];simp[h2,h3]
 | d+1=>by
  have ih:=filter_first h1 h2 h3 h4 d;rw[<-Nat.add_assoc,List.range_succ,List.filter_append,List.filter_append,ih,List.cons_append];congr 2;simp only[List.filter_cons,List.filter_nil,h4 (k+1+d) (by omega)]
theorem bits_step {w:Nat} (h0:w≠0) (h1:w<2^64):bitsL w=Lib.ctz 64 w::bitsL (w&&&(w-1)):=by
 obtain⟨m,hm,hk⟩:=Lib.ctzFrom_spec 64 w (by omega) h1;have hc:Lib.ctz 64 w=Lib.ctzFrom 64 w:=by unfold Lib.ctz;rw[if_neg h0]
 rw[hc];generalize Lib.ctzFrom 64 w=k at hm hk ⊢;have hp:0<2^k:=Nat.two_pow_pos k;have hw1:w-1=2^k*(2*m)+(2^k-1):=by rw[hm,Nat.mul_add];omega
 have tb:∀j,w.testBit j=if j<k then false else (2*m+1).testBit (j-k):=by
  intro j;have e:w=(2*m+1) <<< k:=by rw[Nat.shiftLeft_eq,Nat.mul_comm];exact hm
  rw[e,Nat.testBit_shiftLeft];by_cases hj:j<k
  .rw[if_pos hj];simp;omega
  .rw[if_neg hj];simp;omega
 have tb1:∀j,(w-1).testBit j=if j<k then true else (2*m).testBit (j-k):=by
  intro j;rw[hw1,Nat.testBit_two_pow_mul_add _ (by omega)];by_cases hj:j<k
  .rw[if_pos hj,if_pos hj,Nat.testBit_two_pow_sub_one];simpa using hj
  .rw[if_neg hj,if_neg hj]
 have odd:∀i,0<i->(2*m+1).testBit i=(2*m).testBit i:=by
  intro i hi;obtain⟨i,rfl⟩:∃i',i=i'+1:=⟨i-1,by omega⟩;rw[Nat.testBit_succ,Nat.testBit_succ];congr 1;omega
 have e:=filter_first (f:=fun j=>w.testBit j) (g:=fun j=>(w&&&(w-1)).testBit j) (k:=k) (fun j hj=>by
   have h2:=tb j;rw[if_pos hj] at h2;exact⟨h2,by rw[Nat.testBit_and,h2];rfl⟩)
  (by show w.testBit k=true;rw[tb,if_neg (by omega),Nat.sub_self];simp[Nat.testBit_zero])
  (by show (w&&&(w-1)).testBit k=false;rw[Nat.testBit_and,tb1,if_neg (by omega),Nat.sub_self];simp[Nat.testBit_zero])
  (fun j hj=>by
   show w.testBit j=(w&&&(w-1)).testBit j;rw[Nat.testBit_and,tb,tb1,if_neg (by omega),if_neg (by omega),odd _ (by omega),Bool.and_self]) (63-k)
 rw[show k+1+(63-k)=64 by omega] at e;exact e
theorem and_pred_lt {w:Nat} (h0:w≠0):w&&&(w-1)<w:=Nat.lt_of_le_of_lt Nat.and_le_right (by omega)
theorem range_flat (p:Nat->Bool):∀n:Nat,(List.range (64*n)).filter p=(List.range n).flatMap fun i=>((List.range 64).filter fun j=>p (64*i+j)).map (64*i + ·)
 | 0=>rfl
 | n+1=>by
  rw[show 64*(n+1)=64*n+64 by omega,List.range_add,List.filter_append,range_flat p n,List.range_succ (n:=n),List.flatMap_append,List.flatMap_singleton,List.filter_map];rfl
theorem flat_tail (f:Nat->List Nat) {n:Nat} (h:∀i,n<=i->f i=[]):∀d:Nat,(List.range (n+d)).flatMap f=(List.range n).flatMap f
 | 0=>rfl
 | d+1=>by rw[<-Nat.add_assoc,List.range_succ,List.flatMap_append,flat_tail f h d,List.flatMap_singleton,h _ (by omega),Yw]
def wordsL (ws:List Nat) (n:Nat):List Nat:=(List.range n).flatMap fun i=>(bitsL (ws.getD i 0)).map (64*i + ·)
theorem wordsL_succ (ws:List Nat) (n:Nat):wordsL ws (n+1)=wordsL ws n++(bitsL (ws.getD n 0)).map (64*n + ·):=by
 unfold wordsL;rw[List.range_succ,List.flatMap_append,List.flatMap_singleton]
theorem elems_words {p:Nat->Bool} {ws:List Nat} (hl:ws.length<=64) (hm:∀k,memB ws k=p k):elems p=wordsL ws ws.length:=by
 unfold elems;rw[show 4096=64*64 from rfl,range_flat];have e:∀i,(((List.range 64).filter fun j=>p (64*i+j)).map (64*i + ·))=(bitsL (ws.getD i 0)).map (64*i + ·):=by
  intro i;congr 1;unfold bitsL;apply List.filter_congr;intro j hj;have hj:=List.mem_range.1 hj;rw[<-hm];unfold memB;rw[show (64*i+j)/64=i by omega,show (64*i+j)%64=j by omega]
 simp only[e];have:=flat_tail (fun i=>(bitsL (ws.getD i 0)).map (64*i + ·)) (n:=ws.length) (fun i hi=>by
  rw[Yo,Yl (by omega),Option.getD_none];have:bitsL 0=[]:=by unfold bitsL;exact List.filter_eq_nil_iff.2 fun j _=>by simp
  rw[this];rfl) (64-ws.length)
 rw[show ws.length+(64-ws.length)=64 by omega] at this;exact this
end Go.VC
end

section
namespace Go.VC
open Go.Proofs Go.LexS Go.Shelf Go.RowKit
attribute [local go_sem] Oper.semAt_some
theorem tz141 (x:Nat) (hx:x<18446744073709551616) (w:World) (hT:TabAt 0 Lib.deBruijn64tab w):CallsIn Fence.wide 1 Pz 215 #[.int .u64 x] w fun e w'=>e=.returned (.int .i64 (Lib.ctz 64 x))/\w'=w:=
 callsIn_wide.2 (Any7.bits_TrailingZeros64 Tryz.lays7_29 x hx w fun _=>hT)
theorem and_nat {w:Nat} (h0:w≠0) (hw:w<2^64):bits BinOp.and IntKind.u64 (w:Int) ((w:Int)-1)=((w&&&(w-1):Nat):Int):=by
 have e1:((w:Int)-1)=((w-1:Nat):Int):=by omega
 rw[e1];show IntKind.u64.wrap ((BitVec.ofInt 64 (w:Int)&&&BitVec.ofInt 64 ((w-1:Nat):Int)).toNat:Int)=_;have ha:(BitVec.ofInt 64 (w:Int)&&&BitVec.ofInt 64 ((w-1:Nat):Int)).toNat=w&&&(w-1):=by
  rw[BitVec.toNat_and];congr 1
  .simp[BitVec.toNat_ofInt];omega
  .simp[BitVec.toNat_ofInt];omega
 rw[ha];have hlt:w&&&(w-1)<2^64:=Nat.lt_of_le_of_lt Nat.and_le_left hw;exact wu64 (by omega) (by omega)
theorem wordsL_pre (ws:List Nat) {k n:Nat} (h:k<=n):wordsL ws k <+: wordsL ws n:=by
 obtain⟨d,rfl⟩:∃d,n=k+d:=⟨n-k,by omega⟩;unfold wordsL;rw[List.range_add,List.flatMap_append];exact List.prefix_append _ _
set_option maxRecDepth 100000 in
theorem all90_some (b off len cap:Nat) (ws:List Nat) (hl:ws.length=len) (h64:len<=64) (hw:∀x∈ws,x<2^64) (n₀:Nat) (hb:b<n₀) (hg0:0<n₀) (l:Nat) (J:List Nat->World->Prop)
  (hY:∀pre x W1,J pre W1->pre++[x] <+: wordsL ws len->YieldAt Fence.wide 1 Pz l #[.int .i64 (x:Nat)] W1 fun e W'=>e=.returned (.bool true)/\J (pre++[x]) W'/\Below n₀ W1 W')
  (W:World) (hc:∀j,j<len->W.cell? ⟨b,off+j,none⟩=some (.int .u64 (ws.getD j 0:Nat))) (hT:TabAt 0 Lib.deBruijn64tab W) (h0:J [] W) :
  CallsIn Fence.wide 2 Pz 153 #[.slice (some ⟨b,off,none⟩) len cap,.func (.yield l) #[] #[]] W fun e W'=>(∃v,e=.returned v)/\J (wordsL ws len) W':=by
 refine callsIn_of_wp Tryz.func153 rfl trivial ?_ rfl;simp only[Tryz.ntmps153,List.size_toArray,Yyj,List.length_nil,Nat.reduceAdd,Nat.reduceSub,Array.replicate_succ,Array.replicate_zero,List.push_toArray,List.append_toArray,List.nil_append,List.cons_append]
 gi_wp2
 gi_loopw [9] (fun i wr=>∃k:Nat,k<=len/\i=.int .i64 k/\J (wordsL ws k) wr/\Below n₀ W wr)
  (fun i _=>len-(Proofs.intOf i).toNat)
 case atStart=>exact⟨0,Nat.zero_le _,rfl,h0,Below.refl _ _⟩
 case round=>
  obtain⟨k,hk,rfl,hJs,hnx⟩:=hrel;by_cases hlt:k<len
  .have hcx:wr.cell? ⟨b,off+k,none⟩=some (.int .u64 (ws.getD k 0:Nat)):=(hnx.cell (p:=⟨b,off+k,none⟩) hb).trans (hc k hlt);have hkl:k<ws.length:=by omega
   have hgd:ws.getD k 0=ws[k]:=by rw[Yo,Yi hkl,Option.getD_some]
   rw[hgd] at hcx;have hwk:ws[k]<2^64:=hw _ (List.getElem_mem hkl);have hsuc:wordsL ws (k+1)=wordsL ws k++(bitsL ws[k]).map (64*k + ·):=by rw[wordsL_succ,hgd]
   have hpre:wordsL ws (k+1) <+: wordsL ws len:=wordsL_pre ws (by omega);generalize ws[k]=wk at hcx hwk hsuc
   gi_wp2
   have hd:decide ((k:Int)<min (len:Int) 64)=true:=decide_eq_true (by omega);simp only[hd]
   gi_loopw [5] (fun c wr'=>∃(cur:Nat) (dn:List Nat),c=.int .u64 cur/\cur<2^64/\dn++bitsL cur=bitsL wk/\J (wordsL ws k++dn.map (64*k + ·)) wr'/\Below n₀ W wr') (fun c _=>(Proofs.intOf c).toNat)
   case atStart=>exact⟨wk,[],rfl,hwk,rfl,by simpa using hJs,hnx⟩
   case round=>
    obtain⟨cur,dn,rfl,hcw,hdn,hJc,hnc⟩:=hrel;by_cases hz:cur=0
    .subst hz;have hdn':dn=bitsL wk:=by rw[<-hdn];unfold bitsL;simp
     gi_wp2
     refine⟨⟨k+1,by omega,by simp,by rw[hsuc,<-hdn'];exact hJc,hnc⟩,?_⟩;simp[Proofs.intOf];omega
    .have hst:=bits_step hz hcw;have hTc:TabAt 0 Lib.deBruijn64tab wr:=fun j hj=>(hnc.cell (p:=⟨0,j,none⟩) hg0).trans (hT j hj);obtain⟨fn,tmps,assign,body,hy,hR⟩:=hY _ (64*k+Lib.ctz 64 cur) wr hJc (by
      refine List.IsPrefix.trans ?_ hpre;rw[hsuc,<-hdn,hst,Ym,Yyl];exact⟨(bitsL (cur&&&(cur-1))).map (64*k + ·),by simp⟩)
     gi_wp2_with (refine⟨trivial,?_⟩;gi_at_call 215;refine (tz141 cur (by omega) _ hTc).mono ?_;rintro e w' ⟨rfl,rfl⟩)
     have hc64:Lib.ctz 64 cur<64:=by
      unfold Lib.ctz;rw[if_neg hz];obtain⟨_,_,h⟩:=Lib.ctzFrom_spec 64 cur (by omega) hcw;exact h
     have hwr:wrap64 (64*(k:Int)+(Lib.ctz 64 cur:Nat))=((64*k+Lib.ctz 64 cur:Nat):Int):=by
      rw[IntWalk.wrap64_in _ (by omega)];omega
     rw[hwr,hy]
     gi_wp2
     refine hR.mono ?_;rintro e W3 ⟨rfl,hJ3,hk3⟩
     gi_wp2
     go_roundw
     case rel=>
      refine⟨cur&&&(cur-1),dn++[Lib.ctz 64 cur],by rw[and_nat hz hcw],Nat.lt_of_le_of_lt Nat.and_le_left hcw,?_,?_,hnc.trans hk3⟩
      .rw[Yz,List.singleton_append,<-hst];exact hdn
      .rw[Ym,<-Yz];exact hJ3
     case measure=>
      rw[and_nat hz hcw];simp only[Proofs.intOf,Ys];exact and_pred_lt hz
  .obtain rfl:k=len:=by omega
   gi_wp2
   go_end0
   exact⟨⟨_,rfl⟩,hJs⟩
set_option maxRecDepth 100000 in
theorem all90_zero (p:Option Addr) (cap l:Nat) (J:List Nat->World->Prop) (W:World) (h0:J [] W) :
  CallsIn Fence.wide 2 Pz 153 #[.slice p 0 cap,.func (.yield l) #[] #[]] W fun e W'=>(∃v,e=.returned v)/\J [] W':=by
 refine callsIn_of_wp Tryz.func153 rfl trivial ?_ rfl;simp only[Tryz.ntmps153,List.size_toArray,Yyj,List.length_nil,Nat.reduceAdd,Nat.reduceSub,Array.replicate_succ,Array.replicate_zero,List.push_toArray,List.append_toArray,List.nil_append,List.cons_append]
 gi_wp2
 gi_loopw [9] (fun i wr=>i=.int .i64 0/\J [] wr) (fun _ _=>0)
 case atStart=>exact⟨rfl,h0⟩
 case round=>
  obtain⟨rfl,hJs⟩:=hrel
  gi_wp2
  go_end0
  exact⟨⟨_,rfl⟩,hJs⟩
theorem all90_yields {s:Sl} {p:Nat->Bool} {w w0:World} (hs:SetV w.heap s p) (hx:Gx w.heap) (hB:Below w.heap.size w w0):Yields Fence.wide 2 Pz 153 #[.slice s.a s.n s.c] (fun x:Nat=>#[Value.int .i64 (x:Nat)]) w.heap.size (elems p) w0:=by
 intro l J W hW hY hJ;obtain⟨ws,hrw,h64,hw,hm⟩:=hs.ex;rw[elems_words h64 hm] at hY ⊢;have hn:s.n=ws.length:=hrw.ln;have hWB:=hB.trans hW;rcases Nat.eq_zero_or_pos ws.length with h0 | h0
 .have hws:ws=[]:=List.length_eq_zero_iff.1 h0;subst hws;rw[hn];exact all90_zero s.a s.c l J W hJ
 .obtain⟨b,o,ha,hat⟩:=hrw.2 (by rw[Yc];exact h0);have hcell:∀j,j<ws.length->w.cell? ⟨b,o+j,none⟩=some (.int .u64 (ws.getD j 0:Nat)):=by
   intro j hj;have h1:=hat j (wC (ws.getD j 0)) (by rw[Yd,Yi hj,Yo,Yi hj];rfl);have h2:=h1.hd;rw[Nat.mul_one] at h2;exact h2
  have hb:b<w.heap.size:=by
   have h1:=hcell 0 h0;exact World.block_lt_of_cell? _ _ h1
  have hg0:0<w.heap.size:=by omega
  rw[ha,hn];exact all90_some b o ws.length s.c ws rfl h64 hw w.heap.size hb hg0 l J hY W (fun j hj=>(hWB.cell (p:=⟨b,o+j,none⟩) hb).trans (hcell j hj))
   (fun j hj=>(hWB.cell (p:=⟨0,j,none⟩) hg0).trans (hx.t j hj)) hJ
theorem info3L:(Pz.info? 3).map (fun i=>(i.zero,i.size,i.bytes))=some (some (.int .i64 0),1,8):=by kernel_rfl
theorem elems_len (p:Nat->Bool):(elems p).length<=4096:=by
 unfold elems;exact Yys (List.length_filter_le _ _) (by rw[Yyd];exact Yyt _)
set_option maxRecDepth 100000 in
theorem list42_in (p:Nat->Bool) (s:Sl) (w:World) (hx:Gx w.heap) (hs:SetV w.heap s p) :
  CallsIn Fence.wide 3 Pz 84 #[.slice s.a s.n s.c] w fun e W'=>∃v,e=.returned v/\W'.ownsRow w.heap.size 3 1 v (elems p).length ((elems p).map fun n:Nat=>Value.int .i64 (n:Nat))/\Below w.heap.size w W':=by
 obtain⟨i0,hi,hz0,hz1,hz2⟩:=info_parts info3L;have hlen:=elems_len p;refine callsIn_of_wp_marks Tryz.func84 rfl trivial ?_ rfl;simp only[Tryz.ntmps84,List.size_toArray,Yyj,List.length_nil,Nat.reduceAdd,Nat.reduceSub,Array.replicate_succ,Array.replicate_zero,List.push_toArray,List.append_toArray,List.nil_append,List.cons_append]
 gi_wp2
 have bO:=Boxed.new w 102 (.slice none 0 0);have hB0:Below w.heap.size w (w.alloc (.cells #[.slice none 0 0] 102)):=(Below.refl _ w).alloc (Yyt _) _;refine range_bound (n:=3) rfl (by omega) (gf:=153) (fb:=#[.slice s.a s.n s.c]) rfl trivial (enters_of Tryz.func153 (by kernel_rfl) rfl) (n₀:=w.heap.size) (by simp)
  (all90_yields hs hx hB0) (fun _=>rfl)
  (fun pre W=>(∃v,Boxed W w.heap.size 102 v/\W.ownsRow w.heap.size 3 1 v pre.length (pre.map fun n:Nat=>Value.int .i64 (n:Nat))/\True)/\Below w.heap.size w W)
  (OwnFrom.and (Own.from (holdsRow_own w.heap.size w.heap.size 102 3 1 (fun pre:List Nat=>pre.length) (fun pre=>pre.map fun n:Nat=>Value.int .i64 (n:Nat)) (fun _ _=>True)) _) (ownFrom_below (Yyt _) (by simp)))
  ⟨⟨_,bO,World.ownsRow_nil _ _ _ _,trivial⟩,hB0⟩
  (fun x=>{ tmps:=#[.slice s.a s.n s.c,undef,.slice none 0 0,.pointer (some ⟨w.heap.size,0,none⟩),.int .i64 (x:Nat),.slice s.a s.n s.c,.func (.func 153) #[.slice s.a s.n s.c] #[],.int .i64 (x:Nat),undef,undef,undef,undef,undef],defers:=[] }) ?assign ?body ?done
 case assign=>
  intro l x W K hK
  gi_wp2
  exact hK
 case body=>
  rintro l pre x W ⟨⟨v,hv,hrow,-⟩,hB⟩ hpre;have hc:=hv.cell;have hpl:pre.length<(elems p).length:=by have:=hpre.length_le;simp at this;omega
  gi_wp2_with (gi_at_builtin;refine wpListIn_append_own _ rfl _ _ 102 rfl w.heap.size 3 i0 (.int .i64 0) 1 8 Tryz.underlying102 hi hz0 hz1 hz2 rfl (by decide) _ _ _ rfl (hrow.alloc _) ⟨W.heap.size,0,none⟩ 1 1 [.int .i64 (x:Nat)] rfl rfl (cell_one_new _ _ _) (by simp[Value.oneCell']) (by have:maxLen=9223372036854775807:=rfl;omega) (by omega) (by have:=hB.size;simp;omega) ?_;intro v' w1 hown' hgrow _;obtain⟨g',cap',rfl⟩:=ownsRow_succ hown';obtain⟨hv1,hv2,hr2,hk2,hb2⟩:=hv.appended (by decide) hrow hB.size (Yyt _) hown' hgrow;have hc1:=hv1.cell;have hf1:=hv1.frozen)
  exact⟨⟨_,hv2,by simpa using hr2⟩,hB.trans hb2⟩
 case done=>
  rintro W ⟨⟨v,hv,hrow,-⟩,hB⟩ hK;have hc:=hv.cell
  gi_wp2
  refine⟨by simp,.inl ⟨_,_,rfl,run_takeDeferred hK,?_⟩⟩;exact⟨_,results_tmp rfl _ _ _,v,rfl,ownsRow_putObj hrow _ hK rfl,hB.trans (belowK_b (w:=w) (Yyt _) W _ _ _ (by simp) hK rfl rfl)⟩
theorem list42 (p:Nat->Bool) (s:Sl) (h:Heap) (hx:Gx h) (hs:SetV h s p) :
  Fn Pz 84 #[.slice s.a s.n s.c] h fun v h'=>Ext h h'/\∃r:Sl,v=.slice r.a r.n r.c/\OwnS h' h.size 3 1 r (((elems p).map fun n:Nat=>(n:Int)).map inC).flatten:=by
 intro w hw;subst hw;refine (callsIn_wide.1 (list42_in p s w hx hs)).mono ?_;rintro e w' ⟨v,rfl,hrow,hB⟩;obtain⟨r,hr,hn,ho⟩:=OwnS.of_row hrow;have e1:(((elems p).map fun n:Nat=>(n:Int)).map inC).flatten=(elems p).map fun n:Nat=>Value.int .i64 (n:Nat):=by
  rw[List.map_map]
  induction elems p with
  | nil=>rfl
  | cons a l ih=>rw[Yyl,Yyu,ih];rfl
 exact⟨v,rfl,⟨⟨hB.size,fun k hk=>hB.block k hk⟩,r,hr,by rw[e1];exact ho⟩,hB.os,hB.tape,hB.output,trivial⟩
end Go.VC
end

section

end

section
namespace Go.VC
open Go.Proofs Go.LexS
def isPath (l:Nm):Bool:=decide (l.length<=50)&&(pieces l).all isWord
theorem fn256 (l:Nm) (h:Heap):Fn Pz 299 #[.string (bs l)] h fun v h'=>v=.bool (!isWord l)/\Ext h h':=by
 apply vc299;unfold W299;refine (isword132 (bs l) h).mono ?_;rintro _ h3 ⟨rfl,E⟩;exact⟨_,rfl,rfl,E⟩
theorem cal256:callable Pz 299=true:=by kernel_rfl
theorem idx281 (L:List Nm) (s:Sl) (h:Heap) (hr:RL h 1 s nmC L) :
  Fn Pz 308 #[.slice s.a s.n s.c,.func (.func 299) #[] #[]] h fun v h'=>(∃k:Int,v=.int .i64 k/\decide (k>=0)=L.any fun x=>!isWord x)/\Ext h h':=by
 apply vc308;unfold W308;have hn:=hr.ln;have hm:=hr.sm;have hs:=St.refl h;refine up_loopS (n:=s.n) hs (fun i=>∀(j:Nat) (y:Nm),j<i->L[j]?=some y->(!isWord y)=false) (fun j y hj=>by omega) ?_;rintro-i h5 hi ⟨hs,hd⟩;refine sB_intro (fun l=>?_) (fun l=>?_)
 .replace l:=lt_t l;refine (hr.ext hs.ext).rw.nbI (by omega) (by omega) fun b o d g t=>?_;replace g:L[i]?=some d:=g;refine⟨_,t.hd,?_⟩;rw[cal256,cond_true];refine (fn256 d h5).mono ?_;rintro _ h11 ⟨rfl,E⟩;replace hs:=hs.step E;refine⟨_,rfl,sB_intro (fun c=>?_) (fun c=>?_)⟩
  .exact⟨⟨_,rfl,by rw[any_t g (p:=fun x=>!isWord x) c];exact decide_eq_true (by omega)⟩,hs.ext⟩
  .exact Up.next l (by omega) ⟨hs,scan_next (p:=fun x=>!isWord x) g c hd⟩
 .replace l:=lt_f l;refine⟨⟨_,rfl,?_⟩,hs.ext⟩;rw[any_f (p:=fun x=>!isWord x) fun j x hj=>hd j x (by have:=(Ya.1 hj).1;omega) hj];rfl
theorem any254 (L:List Nm) (s:Sl) (h:Heap) (hr:RL h 1 s nmC L) :
  Fn Pz 297 #[.slice s.a s.n s.c,.func (.func 299) #[] #[]] h fun v h'=>v=.bool (L.any fun x=>!isWord x)/\Ext h h':=by
 apply vc297;unfold W297;refine (idx281 L s h hr).mono ?_;rintro _ h3 ⟨⟨k,rfl,hk⟩,E⟩;exact⟨_,rfl,by rw[hk],E⟩
theorem any_not (L:List Nm):(!(L.any fun x=>!isWord x))=L.all isWord:=by
 induction L with
 | nil=>rfl
 | cons a L ih=>rw[List.any_cons,List.all_cons,<-ih];cases isWord a<;>simp
theorem path224 (l:Nm) (h:Heap) (hx:Gm h):Fn Pz 268 #[.string (bs l)] h fun v h'=>v=.bool (isPath l)/\Ext h h':=by
 apply vc268;unfold W268;rw[bs_size];refine sBi (fun c=>?_) (fun c=>?_)
 .have hl:l.length<=50:=by omega
  refine (split255 l h hx hl).mono ?_;rintro _ h3 ⟨E3,s,rfl,hr⟩;refine⟨_,rfl,?_⟩;refine (any254 _ s h3 hr).mono ?_;rintro _ h6 ⟨rfl,E6⟩;refine⟨_,rfl,?_,E3.trans E6⟩;unfold isPath;rw[decide_eq_true hl,any_not];rfl
 .refine⟨?_,(St.refl h).ext⟩;unfold isPath;rw[decide_eq_false (by omega)];rfl
def allF (L:List Dc):List Fld:=L.flatMap (·.fs)
theorem app130:appB Pz 166 260 4 40=true:=by kernel_rfl
theorem allF_le:∀(L:List Dc),(∀d∈L,d.fs.length<=1048576)->(allF L).length<=L.length*1048576
 | [],_=>by simp[allF]
 | d::L,h=>by
  have h1:=allF_le L fun x hx=>h x (Yn _ hx);have h2:=h d (by simp);unfold allF at *;rw[List.flatMap_cons,Yh,Yyj,Nat.succ_mul];omega
theorem allF_snoc (L:List Dc) (d:Dc):allF (L++[d])=allF L++d.fs:=by unfold allF;rw[List.flatMap_append,List.flatMap_singleton]
theorem fldrows (L:List Fld):∀r∈L.map Fld.cs,r.length=4:=fun r hr=>by obtain⟨x,_,rfl⟩:=Yp.1 hr;rfl
theorem one_of {α:Type} {cs:α->List Value} (h:∀x,(cs x).all oneB=true) (L:List α):(L.map cs).flatten.all oneB=true:=by
 induction L with
 | nil=>rfl
 | cons a L ih=>rw[Yyl,Yyu,List.all_append,h a,ih];rfl
theorem fields223 (L:List Dc) (s:Sl) (h:Heap) (hL:DL h s L) (h40:L.length<=40) :
  Fn Pz 267 #[.slice s.a s.n s.c] h fun v h'=>Ext h h'/\∃r:Sl,v=.slice r.a r.n r.c/\OwnS h' h.size 260 4 r ((allF L).map Fld.cs).flatten:=by
 apply vc267;unfold W267;have hn:=hL.r.ln;have hs:=(St.refl h).nil_ 260 4;refine up_loopA (n:=s.n) hs (fun i rows=>rows=(allF (L.take i)).map Fld.cs) rfl ?_;rintro-i out h6 rows hi hs q;refine sB_intro (fun l=>?_) (fun l=>?_)
 .replace l:=lt_t l;refine (hL.ext hs.ext).r.rw.nbI (by omega) (by omega) fun b o d g t=>?_;replace g:L[i]?=some d:=g;refine⟨_,_,_,_,_,t,?_⟩;refine hs.newput (vs:=d.cs) rfl rfl fun h15 hs=>?_;refine⟨_,hs.rd 0 rfl rfl,?_⟩;have hd:=(hL.i d (Yb g)).pf.ext hs.ext;have hlen:=(hs.len 1 rfl (by omega)).1;have h1:=allF_le (L.take i) fun x hx=>(hL.i x (List.mem_of_mem_take hx)).pf.sm;have h2:=hd.sm;have h3:=hd.ln;have h4:(L.take i).length*1048576<=40*1048576:=Nat.mul_le_mul_right _ (by rw[Yu];omega);rw[q,Yc] at hlen;refine hs.appRw 1 rfl app130 hd.rw (fldrows _) hd.nil (one_of (fun _=>rfl) _) (by omega) (by simp only[maxLen];omega) fun r h18 hr hs=>?_;refine UpA.next l (by omega) ⟨_,hs.drop 1,?_⟩;rw[q,take_snoc g,allF_snoc,Ym]
 .replace l:=lt_f l;rw[Yj (by omega)] at q;have:=hs.give 0 rfl;rw[q] at this;exact⟨hs.ext,out,rfl,this⟩
theorem cal226:callable Pz 270=true:=by kernel_rfl
theorem cal229:callable Pz 273=true:=by kernel_rfl
theorem bsEq (a b:Nm):(ByteArray.toList (bs a)==ByteArray.toList (bs b))=decide (a=b):=strEq _ _
theorem fn226 (d:Dc) (n:Nm) (c:Addr) (h:Heap) (hc0:hc h c=some (.string (bs n))):Fn Pz 270 #[.agg ⟨d.cs⟩,.pointer (some c)] h fun v h'=>v=.bool (decide (d.nm=n))/\Ext h h':=by
 apply vc270 (bs d.nm) d.hf d.first d.hd d.he c;unfold W270
 have hs:=St.refl h;refine hs.newb fun h6 hs=>?_;refine⟨_,hs.rd 0 rfl rfl,_,hc_ext hs.ext hc0,?_⟩;rw[bsEq];exact⟨rfl,hs.ext⟩
theorem fn229 (d:Fld) (n:Nm) (c:Addr) (h:Heap) (hc0:hc h c=some (.string (bs n))):Fn Pz 273 #[.agg ⟨d.cs⟩,.pointer (some c)] h fun v h'=>v=.bool (decide (d.nm=n))/\Ext h h':=by
 apply vc273 (bs d.nm) d.k d.lo d.hi c;unfold W273;have hs:=St.refl h;refine hs.newb fun h6 hs=>?_;refine⟨_,hs.rd 0 rfl rfl,_,hc_ext hs.ext hc0,?_⟩;rw[bsEq];exact⟨rfl,hs.ext⟩
theorem has225 (L:List Dc) (n:Nm) (c:Addr) (s:Sl) (h:Heap) (hr:RL h 5 s Dc.cs L) (hc0:hc h c=some (.string (bs n))) :
  Fn Pz 269 #[.slice s.a s.n s.c,.func (.func 270) #[] #[.pointer (some c)]] h fun v h'=>v=.bool (L.any fun d=>decide (d.nm=n))/\Ext h h':=by
 apply vc269;unfold W269;have key:Fn Pz 300 #[.slice s.a s.n s.c,.func (.func 270) #[] #[.pointer (some c)]] h fun v h'=>(∃k:Int,v=.int .i64 k/\decide (k>=0)=L.any fun d=>decide (d.nm=n))/\Ext h h':=by
  apply vc300;unfold W300;have hn:=hr.ln;have hm:=hr.sm;have hs:=St.refl h;refine up_loopS (n:=s.n) hs (fun i=>∀(j:Nat) (y:Dc),j<i->L[j]?=some y->decide (y.nm=n)=false) (fun j y hj=>by omega) ?_;rintro-i h5 hi ⟨hs,hd⟩;refine sB_intro (fun l=>?_) (fun l=>?_)
  .replace l:=lt_t l;refine (hr.ext hs.ext).rw.nbI (by omega) (by omega) fun b o d g t=>?_;replace g:L[i]?=some d:=g;refine⟨_,_,_,_,_,t,?_⟩;rw[cal226,cond_true];refine (fn226 d n c h5 (hc_ext hs.ext hc0)).mono ?_;rintro _ h11 ⟨rfl,E⟩;replace hs:=hs.step E;refine⟨_,rfl,sB_intro (fun c=>?_) (fun c=>?_)⟩
   .exact⟨⟨_,rfl,by rw[any_t g (p:=fun d=>decide (d.nm=n)) c];exact decide_eq_true (by omega)⟩,hs.ext⟩
   .exact Up.next l (by omega) ⟨hs,scan_next (p:=fun d=>decide (d.nm=n)) g c hd⟩
  .replace l:=lt_f l;refine⟨⟨_,rfl,?_⟩,hs.ext⟩;rw[any_f (p:=fun d:Dc=>decide (d.nm=n)) fun j x hj=>hd j x (by have:=(Ya.1 hj).1;omega) hj];rfl
 refine key.mono ?_;rintro _ h3 ⟨⟨k,rfl,hk⟩,E⟩;exact⟨_,rfl,by rw[hk],E⟩
theorem has228 (L:List Fld) (n:Nm) (c:Addr) (s:Sl) (h:Heap) (hr:RL h 4 s Fld.cs L) (hc0:hc h c=some (.string (bs n))) :
  Fn Pz 272 #[.slice s.a s.n s.c,.func (.func 273) #[] #[.pointer (some c)]] h fun v h'=>v=.bool (L.any fun d=>decide (d.nm=n))/\Ext h h':=by
 apply vc272;unfold W272;have key:Fn Pz 301 #[.slice s.a s.n s.c,.func (.func 273) #[] #[.pointer (some c)]] h fun v h'=>(∃k:Int,v=.int .i64 k/\decide (k>=0)=L.any fun d=>decide (d.nm=n))/\Ext h h':=by
  apply vc301;unfold W301;have hn:=hr.ln;have hm:=hr.sm;have hs:=St.refl h;refine up_loopS (n:=s.n) hs (fun i=>∀(j:Nat) (y:Fld),j<i->L[j]?=some y->decide (y.nm=n)=false) (fun j y hj=>by omega) ?_;rintro-i h5 hi ⟨hs,hd⟩;refine sB_intro (fun l=>?_) (fun l=>?_)
  .replace l:=lt_t l;refine (hr.ext hs.ext).rw.nbI (by omega) (by omega) fun b o d g t=>?_;replace g:L[i]?=some d:=g;refine⟨_,_,_,_,t,?_⟩;rw[cal229,cond_true];refine (fn229 d n c h5 (hc_ext hs.ext hc0)).mono ?_;rintro _ h11 ⟨rfl,E⟩;replace hs:=hs.step E;refine⟨_,rfl,sB_intro (fun c=>?_) (fun c=>?_)⟩
   .exact⟨⟨_,rfl,by rw[any_t g (p:=fun d=>decide (d.nm=n)) c];exact decide_eq_true (by omega)⟩,hs.ext⟩
   .exact Up.next l (by omega) ⟨hs,scan_next (p:=fun d=>decide (d.nm=n)) g c hd⟩
  .replace l:=lt_f l;refine⟨⟨_,rfl,?_⟩,hs.ext⟩;rw[any_f (p:=fun d:Fld=>decide (d.nm=n)) fun j x hj=>hd j x (by have:=(Ya.1 hj).1;omega) hj];rfl
 refine key.mono ?_;rintro _ h3 ⟨⟨k,rfl,hk⟩,E⟩;exact⟨_,rfl,by rw[hk],E⟩
def SortS (k lo hi:Int):Prop:=k=1 /\ -1000<=lo/\lo<=hi/\hi<=1000\/k=2/\0<=lo/\lo<=hi/\hi<=40
instance (k lo hi:Int):Decidable (SortS k lo hi):=by unfold SortS;infer_instance
theorem sorted227 (k lo hi:Int) (h:Heap):Fn Pz 271 #[.agg ⟨[.int .i64 k,.int .i64 lo,.int .i64 hi]⟩] h fun v h'=>v=.bool (decide (SortS k lo hi))/\Ext h h':=by
 apply vc271 k lo hi;unfold W271;have hs:=St.refl h;refine hs.newb fun h4 hs=>?_;have E:=hs.ext;have r0:=hs.rd 0 rfl (i:=0) rfl;have r1:=hs.rd 0 rfl (i:=1) rfl;have r2:=hs.rd 0 rfl (i:=2) rfl;clear hs
 repeat' first
  | refine Exists.intro k (And.intro r0 ?_)
  | refine Exists.intro lo (And.intro r1 ?_)
  | refine Exists.intro hi (And.intro r2 ?_)
  | refine sBi (fun _=>?_) (fun _=>?_)
  | refine sBe (fun _=>?_) (fun _=>?_)
 all_goals
  refine⟨?_,E⟩;clear r0 r1 r2 E;congr 1;rw[Bool.eq_iff_iff];simp only[decide_eq_true_eq,Bool.false_eq_true,false_iff];unfold SortS;omega
def TextS (all:List Fld) (x:Int):Prop:=0<=x/\∃f,all[x.toNat]?=some f/\f.k=2
structure GuardS (all:List Fld) (ds:List Df) (es:List Eqs):Prop where
 nd:ds.length<=20
 ne:es.length<=20
 d:∀x∈ds,-1<=min x.x x.y/\max x.x x.y<all.length /\ -20000<=x.c/\x.c<=20000
 e:∀x∈es,TextS all x.x/\TextS all x.y
noncomputable instance (all:List Fld) (ds:List Df) (es:List Eqs):Decidable (GuardS all ds es):=Classical.propDecidable _
theorem two_at {x y:Int} {i:Nat} (hi:i<2):List.take 1 (List.drop (Int.toNat (i:Int)*1) ([.int .i64 x,.int .i64 y]:List Value))=[.int .i64 (if i=0 then x else y)]:=by
 rcases i with _ | _ | i
 .rfl
 .rfl
 .omega
theorem guarded230 (all:List Fld) (ds:List Df) (es:List Eqs) (sd se sa:Sl) (h:Heap) (hd:RL h 3 sd Df.cs ds) (he:RL h 2 se Eqs.cs es) (ha:Rw h 4 sa (all.map Fld.cs)) :
  Fn Pz 274 #[.agg ⟨[.slice sd.a sd.n sd.c,.slice se.a se.n se.c]⟩,.slice sa.a sa.n sa.c] h fun v h'=>v=.bool (decide (GuardS all ds es))/\Ext h h':=by
 apply vc274 sd se sa;unfold W274;have hs:=St.refl h;have hnd:=hd.ln;have hne:=he.ln;have hna:=ha.ln;refine hs.newb fun h3 hs=>?_;refine⟨_,hs.rd 0 rfl rfl,?_⟩;refine sBi (fun c1=>?_) (fun c1=>?_)
 .exact⟨dF fun hG=>by have:=hG.nd;omega,hs.ext⟩
 .refine⟨_,hs.rd 0 rfl rfl,?_⟩;refine sBi (fun c2=>?_) (fun c2=>?_)
  .exact⟨dF fun hG=>by have:=hG.ne;omega,hs.ext⟩
  .refine⟨_,hs.rd 0 rfl rfl,?_⟩;refine up_loopS (n:=sd.n) hs (fun i=>∀(j:Nat) (x:Df),j<i->ds[j]?=some x -> -1<=min x.x x.y/\max x.x x.y<all.length /\ -20000<=x.c/\x.c<=20000) (fun j x hj=>by omega) ?_;rintro-i7 h11 k7 ⟨hs,q7⟩;refine sB_intro (fun l7=>?_) (fun l7=>?_)
   .have l7:=lt_t l7;refine (hd.ext hs.ext).rw.nbI (by omega) (by omega) fun b12 o13 d12 g12 t12=>?_;replace g12:_[i7]?=some d12:=g12;have hm:=Yb g12;refine⟨_,_,_,t12,?_⟩;refine hs.newput (vs:=d12.cs) rfl rfl fun h18 hs=>?_;refine⟨_,hs.rd 0 rfl rfl,?_⟩;refine⟨_,hs.rd 0 rfl rfl,?_⟩;rw[imin_min];refine sBi (fun c3=>?_) (fun c3=>?_)
    .exact⟨dF fun hG=>by have:=hG.d _ hm;omega,hs.ext⟩
    .refine⟨_,hs.rd 0 rfl rfl,?_⟩;refine⟨_,hs.rd 0 rfl rfl,?_⟩;rw[imax_max];refine sBi (fun c4=>?_) (fun c4=>?_)
     .exact⟨dF fun hG=>by have:=hG.d _ hm;omega,hs.ext⟩
     .refine⟨_,hs.rd 0 rfl rfl,?_⟩;refine sBi (fun c5=>?_) (fun c5=>?_)
      .exact⟨dF fun hG=>by have:=hG.d _ hm;omega,hs.ext⟩
      .refine⟨_,hs.rd 0 rfl rfl,?_⟩;refine sBi (fun c6=>?_) (fun c6=>?_)
       .exact⟨dF fun hG=>by have:=hG.d _ hm;omega,hs.ext⟩
       .refine Up.next l7 (by omega) ⟨hs.drop 1,fun j x hj hx=>?_⟩;by_cases e:j=i7
        .subst e;rw[g12] at hx;cases hx;refine⟨?_,?_,?_,?_⟩<;>omega
        .exact q7 j x (by omega) hx
   .have l7:=lt_f l7;have Q7:∀x∈ds,-1<=min x.x x.y/\max x.x x.y<all.length /\ -20000<=x.c/\x.c<=20000:=fun x hx=>by
     obtain⟨j,hj⟩:=Yf.1 hx;exact q7 j x (by have:=(Ya.1 hj).1;omega) hj
    clear q7;refine⟨_,hs.rd 0 rfl rfl,?_⟩;refine up_loopS (n:=se.n) hs (fun i=>∀(j:Nat) (x:Eqs),j<i->es[j]?=some x->TextS all x.x/\TextS all x.y) (fun j x hj=>by omega) ?_;rintro-i27 h31 k27 ⟨hs,q27⟩;refine sB_intro (fun l27=>?_) (fun l27=>?_)
    .have l27:=lt_t l27;refine (he.ext hs.ext).rw.nbI (by omega) (by omega) fun b32 o33 d32 g32 t32=>?_;replace g32:_[i27]?=some d32:=g32;have hm:=Yb g32;refine⟨_,_,t32,?_⟩;refine hs.newput (vs:=d32.cs) rfl rfl fun h37 hs=>?_;refine⟨_,_,hs.at 0 rfl (n:=2) rfl,?_⟩;refine up_loopS (n:=2) hs (fun i=>∀j,j<i->TextS all (if j=0 then d32.x else d32.y)) (fun j hj=>by omega) ?_;rintro-i40 h44 k40 ⟨hs,q40⟩;refine sBi (fun c7=>?_) (fun c7=>?_)
     .have l40:i40<2:=by omega
      refine⟨⟨by omega,by omega⟩,_,two_at l40,?_⟩;have hx:GuardS all ds es->TextS all (if i40=0 then d32.x else d32.y):=fun hG=>by
       have:=hG.e _ hm;split
       .exact this.1
       .exact this.2
      generalize hxe:(if i40=0 then d32.x else d32.y)=x at *;refine sBi (fun c8=>?_) (fun c8=>?_)
      .exact⟨dF fun hG=>by have:=(hx hG).1;omega,hs.ext⟩
      .refine sBi (fun c9=>?_) (fun c9=>?_)
       .exact⟨dF fun hG=>by obtain⟨f,hf,_⟩:=(hx hG).2;have:=(Ya.1 hf).1;omega,hs.ext⟩
       .refine (ha.ext hs.ext).nbI (by omega) (by omega) fun b46 o47 d46 g46 t46=>?_;refine⟨_,t46.nth 1 rfl,?_⟩;refine sBn (fun c10=>?_) (fun c10=>?_)
        .exact⟨dF fun hG=>by obtain⟨f,hf,hk⟩:=(hx hG).2;rw[g46] at hf;cases hf;exact c10 hk,hs.ext⟩
        .refine Up.next l40 (by omega) ⟨hs,fun j hj=>?_⟩;by_cases e:j=i40
         .subst e;rw[hxe];exact⟨by omega,d46,g46,c10⟩
         .exact q40 j (by omega)
     .have h0:=q40 0 (by omega);have h1:=q40 1 (by omega);refine Up.next l27 (by omega) ⟨hs.drop 1,fun j x hj hx=>?_⟩;by_cases e:j=i27
      .subst e;rw[g32] at hx;cases hx;exact⟨h0,h1⟩
      .exact q27 j x (by omega) hx
    .have l27:=lt_f l27;have Q27:∀x∈es,TextS all x.x/\TextS all x.y:=fun x hx=>by
      obtain⟨j,hj⟩:=Yf.1 hx;exact q27 j x (by have:=(Ya.1 hj).1;omega) hj
     exact⟨dT ⟨by omega,by omega,Q7,Q27⟩,hs.ext⟩
structure FldS (fs:List Fld) (i:Nat) (f:Fld):Prop where
 pw:isWord f.nm=true
 ps:SortS f.k f.lo f.hi
 pd:((fs.take i).any fun x=>decide (x.nm=f.nm))=false
structure DcS (L:List Dc) (i:Nat) (d:Dc):Prop where
 pp:isPath d.nm=true
 pn:d.fs.length<=4
 pf:d.first=((allF (L.take i)).length:Nat)
 pd:((L.take i).any fun x=>decide (x.nm=d.nm))=false
 pfs:∀k f,d.fs[k]?=some f->FldS d.fs k f
 pg:GuardS (allF L) d.ds d.es
structure DeclS (L:List Dc):Prop where
 pn:L.length<=40
 pv:(allF L).length<=24
 pd:∀i d,L[i]?=some d->DcS L i d
noncomputable instance (L:List Dc):Decidable (DeclS L):=Classical.propDecidable _
theorem allF_take (L:List Dc) (i:Nat):(allF (L.take i)).length<=(allF L).length:=by
 have:allF L=allF (L.take i)++allF (L.drop i):=by unfold allF;rw[<-List.flatMap_append,List.take_append_drop]
 rw[this,Yh];omega
theorem bF {b:Bool} (h:(!b)=true):b=false:=by cases b<;>simp_all
theorem bT {b:Bool} (h:(!b)=false):b=true:=by cases b<;>simp_all
theorem valid191 (L:List Dc) (s:Sl) (h:Heap) (hL:DL h s L) (hx:Gm h) :
  Fn Pz 224 #[.slice s.a s.n s.c] h fun v h'=>v=.bool (decide (DeclS L))/\Ext h h':=by
 apply vc224;unfold W224;have hs:=St.refl h;have hn:=hL.r.ln;have hsm:=hL.r.sm;refine sBi (fun c1=>?_) (fun c1=>?_)
 .exact⟨dF fun hG=>by have:=hG.pn;omega,hs.ext⟩
 .refine (fields223 L s h hL (by omega)).mono ?_;rintro _ h3 ⟨E3,x2,rfl,hall⟩;replace hs:=hs.gift E3 hall (fldrows _);have hxn:x2.n=(allF L).length:=(hs.rows 0 rfl (by omega)).ln;refine⟨_,rfl,?_⟩;refine sBi (fun c2=>?_) (fun c2=>?_)
  .exact⟨dF fun hG=>by have:=hG.pv;omega,hs.ext⟩
  .refine⟨fun at_7 x_8 h' m=>∃i:Nat,x_8=i/\m=s.n-i/\i<=s.n/\St h h' [.sl x2 260 4 ((allF L).map Fld.cs)]/\(at_7=((allF (L.take i)).length:Nat))/\∀j d,j<i->L[j]?=some d->DcS L j d,⟨_,0,rfl,rfl,by omega,hs,rfl,fun j d hj=>by omega⟩,?_⟩;rintro-_ _ h9 m ⟨i,rfl,rfl,hi,hs,rfl,q⟩;refine sBi (fun c3=>?_) (fun c3=>?_)
   .have l3:i<s.n:=by omega
    refine (hL.ext hs.ext).r.rw.nbI (by omega) (by omega) fun b10 o11 d10 g10 t10=>?_;replace g10:_[i]?=some d10:=g10;have hle:=allF_take L i;have hd:=hL.i d10 (Yb g10);refine⟨_,_,_,_,_,t10,?_⟩;refine hs.newput (vs:=d10.cs) rfl rfl fun h18 hs=>?_;refine⟨_,hs.rd 0 rfl rfl,?_⟩;refine (path224 d10.nm h18 (hx.ext hs.ext)).mono ?_;rintro _ h22 ⟨rfl,Eh22⟩;replace hs:=hs.step Eh22;refine⟨_,rfl,?_⟩;refine sB_intro (fun c4=>?_) (fun c4=>?_)
    .exact⟨dF fun hG=>(by have:=(hG.pd i _ g10).pp;rw[bF c4] at this;cases this),hs.ext⟩
    .refine⟨_,hs.rd 0 rfl rfl,?_⟩;have hfl:=hd.pf.ln;refine sBi (fun c5=>?_) (fun c5=>?_)
     .exact⟨dF fun hG=>by have:=(hG.pd i _ g10).pn;omega,hs.ext⟩
     .refine⟨_,hs.rd 0 rfl rfl,?_⟩;refine sBn (fun c6=>?_) (fun c6=>?_)
      .exact⟨dF fun hG=>c6 (hG.pd i _ g10).pf,hs.ext⟩
      .have hcap:=hL.r.cap;refine⟨by omega,?_⟩;refine (has225 (L.take i) d10.nm _ _ h22 ((hL.r.ext hs.ext).take (by omega)) (hs.rd 0 rfl rfl)).mono ?_;rintro _ h27 ⟨rfl,Eh27⟩;replace hs:=hs.step Eh27;refine⟨_,rfl,?_⟩;refine sB_intro (fun c7=>?_) (fun c7=>?_)
       .exact⟨dF fun hG=>(by have:=(hG.pd i _ g10).pd;rw[c7] at this;cases this),hs.ext⟩
       .refine⟨_,hs.rd 0 rfl rfl,?_⟩;refine⟨_,hs.rd 0 rfl rfl,?_⟩;refine up_loopS (n:=d10.hf.n) hs (fun k=>∀(j:Nat) (f:Fld),j<k->d10.fs[j]?=some f->FldS d10.fs j f) (fun j x hj=>by omega) ?_;rintro-i30 h34 k30 ⟨hs,q30⟩;refine sB_intro (fun l30=>?_) (fun l30=>?_)
        .have l30:=lt_t l30;refine (hd.pf.ext hs.ext).rw.nbI (by omega) (by omega) fun b35 o36 d35 g35 t35=>?_;replace g35:_[i30]?=some d35:=g35;refine⟨_,_,_,_,t35,?_⟩;refine hs.newput (vs:=d35.cs) rfl rfl fun h42 hs=>?_;refine⟨_,hs.rd 0 rfl rfl,?_⟩;refine (isword132 (bs d35.nm) h42).mono ?_;rintro _ h46 ⟨rfl,Eh46⟩;replace hs:=hs.step Eh46;refine⟨_,rfl,?_⟩;rw[bs_list];refine sB_intro (fun c8=>?_) (fun c8=>?_)
         .exact⟨dF fun hG=>(by have:=((hG.pd i _ g10).pfs _ _ g35).pw;rw[bF c8] at this;cases this),hs.ext⟩
         .refine⟨_,_,_,hs.at 0 rfl (n:=3) rfl,?_⟩;refine (sorted227 d35.k d35.lo d35.hi h46).mono ?_;rintro _ h52 ⟨rfl,Eh52⟩;replace hs:=hs.step Eh52;refine⟨_,rfl,?_⟩;refine sB_intro (fun c9=>?_) (fun c9=>?_)
          .exact⟨dF fun hG=>Yyo (bF c9) ((hG.pd i _ g10).pfs _ _ g35).ps,hs.ext⟩
          .refine⟨_,hs.rd 1 rfl rfl,?_⟩;have hcap:=hd.pf.cap;refine⟨⟨by omega,by omega,by omega⟩,?_⟩;refine (has228 (d10.fs.take i30) d35.nm _ _ h52 ((hd.pf.ext hs.ext).take (by omega)) (hs.rd 0 rfl rfl)).mono ?_;rintro _ h56 ⟨rfl,Eh56⟩;replace hs:=hs.step Eh56;refine⟨_,rfl,?_⟩;refine sB_intro (fun c10=>?_) (fun c10=>?_)
           .exact⟨dF fun hG=>(by have:=((hG.pd i _ g10).pfs _ _ g35).pd;rw[c10] at this;cases this),hs.ext⟩
           .refine Up.next l30 (by omega) ⟨hs.drop 1,fun j f hj hf=>?_⟩;by_cases e:j=i30
            .subst e;rw[g35] at hf;cases hf;exact⟨bT c8,Yyn (bT c9),c10⟩
            .exact q30 j f (by omega) hf
        .have l30:=lt_f l30;have Q30:∀k f,d10.fs[k]?=some f->FldS d10.fs k f:=fun k f hf=>q30 k f (by have:=(Ya.1 hf).1;omega) hf;refine⟨_,_,hs.at 0 rfl (n:=2) rfl,?_⟩;refine (guarded230 (allF L) d10.ds d10.es d10.hd d10.he x2 h34 (hd.pd.ext hs.ext) (hd.pe.ext hs.ext) (hs.rows 1 rfl (by omega))).mono ?_;rintro _ h62 ⟨rfl,Eh62⟩;replace hs:=hs.step Eh62;refine⟨_,rfl,?_⟩;refine sB_intro (fun c11=>?_) (fun c11=>?_)
         .exact⟨dF fun hG=>Yyo (bF c11) (hG.pd i _ g10).pg,hs.ext⟩
         .refine⟨_,by omega,i+1,?_,rfl,by omega,hs.drop 1,?_,fun j d hj hd'=>?_⟩
          .rw[w64 (by omega) (by omega)];omega
          .rw[take_snoc g10,allF_snoc,Yh,w64 (by omega) (by omega)];omega
          .by_cases e:j=i
           .subst e;rw[g10] at hd';cases hd';exact⟨bT c4,by omega,c6,c7,Q30,Yyn (bT c11)⟩
           .exact q j d (by omega) hd'
   .exact⟨dT ⟨by omega,by omega,fun i' d hd=>q i' d (by have:=(Ya.1 hd).1;omega) hd⟩,hs.ext⟩
theorem app131:appB Pz 167 263 3 24=true:=by kernel_rfl
theorem dfrows (L:List Df):∀r∈L.map Df.cs,r.length=3:=fun r hr=>by obtain⟨x,_,rfl⟩:=Yp.1 hr;rfl
theorem bounds192 (d:Dc) (h:Heap) (hd:DI h d) (h4:d.fs.length<=4) (h5:d.ds.length<=20) (h6:d.es.length<=20) :
  Fn Pz 225 #[.agg ⟨d.cs⟩] h fun v h'=>Ext h h'/\∃s:Sl,v=.slice s.a s.n s.c:=by
 apply vc225 (bs d.nm) d.hf d.first d.hd d.he;unfold W225
 have hs:=St.refl h;have n1:=hd.pf.ln;have n2:=hd.pd.ln;have n3:=hd.pe.ln;refine hs.newb fun h6 hs=>?_;refine⟨_,hs.rd 0 rfl rfl,?_⟩;refine up_loopA (n:=d.hf.n) (hs.nil_ 263 3) (fun i rows=>rows.length=2*i) rfl ?_;rintro-i out_11 h13 rows hi hs q;refine sB_intro (fun l=>?_) (fun l=>?_)
 .replace l:=lt_t l;refine (hd.pf.ext hs.ext).rw.nbI (by omega) (by omega) fun b14 o15 d14 g14 t14=>?_;refine⟨_,_,_,_,t14,?_⟩;refine hs.newput (vs:=d14.cs) rfl rfl fun h21 hs=>?_;refine⟨_,hs.rd 2 rfl rfl,?_⟩;refine⟨_,hs.rd 0 rfl rfl,?_⟩;refine⟨_,hs.rd 2 rfl rfl,?_⟩;refine⟨_,hs.rd 0 rfl rfl,?_⟩;have hl:=(hs.len 1 rfl (by omega)).1;refine hs.app 1 rfl app131 (m:=2) [[_,_,_],[_,_,_]] rfl rfl (by simp) rfl (by omega) (by simp only[maxLen];omega) fun s27 h28 ns27 hs=>?_;exact UpA.next l (by omega) ⟨_,hs.drop 1,by rw[Yh,q];rfl⟩
 .replace l:=lt_f l;refine⟨_,hs.rd 1 rfl rfl,?_⟩;have hl:=(hs.len 0 rfl (by omega)).1;refine hs.appRw 0 rfl app131 (hd.pd.ext hs.ext).rw (dfrows _) hd.pd.nil (one_of (fun _=>rfl) _) (by omega) (by simp only[maxLen];omega) fun s31 h32 ns31 hs=>?_;refine⟨_,hs.rd 1 rfl rfl,?_⟩;refine up_loopA (n:=d.he.n) hs (fun i rows=>rows.length<=28+2*i) (by rw[Yh,Yc];omega) ?_;rintro-i out_37 h39 rows hi hs q;refine sB_intro (fun l=>?_) (fun l=>?_)
  .replace l:=lt_t l;refine (hd.pe.ext hs.ext).rw.nbI (by omega) (by omega) fun b40 o41 d40 g40 t40=>?_;refine⟨_,_,t40,?_⟩;refine hs.newput (vs:=d40.cs) rfl rfl fun h45 hs=>?_;refine⟨by omega,_,hs.rd 0 rfl (i:=0) rfl,by omega,_,hs.rd 0 rfl (i:=1) rfl,by omega,_,hs.rd 0 rfl (i:=1) rfl,by omega,_,hs.rd 0 rfl (i:=0) rfl,?_⟩;have hl:=(hs.len 1 rfl (by omega)).1;refine hs.app 1 rfl app131 (m:=2) [[_,_,_],[_,_,_]] rfl rfl (by simp) rfl (by omega) (by simp only[maxLen];omega) fun s51 h52 ns51 hs=>?_;exact UpA.next l (by omega) ⟨_,hs.drop 1,by rw[Yh];show _+2<=_;omega⟩
  .exact⟨hs.ext,out_37,rfl⟩
theorem bounds134 (L:List Dc) (s:Sl) (h:Heap) (hL:DL h s L) (hx:Gm h) (hne:L≠[]) :
  Fn Pz 162 #[.slice s.a s.n s.c,.int .i64 0] h fun v h'=>Ext h h'/\∃s:Sl,v=.tuple ⟨[.slice s.a s.n s.c,.int .i64 (if DeclS L then 0 else 1)]⟩:=by
 apply vc162;unfold W162;have hn:=hL.r.ln;have hpos:0<L.length:=List.length_pos_iff.2 hne;have hs:=St.refl h;refine sBi (fun c1=>by omega) (fun c1=>?_);refine sBi (fun c2=>by omega) (fun c2=>?_);refine (valid191 L s h hL hx).mono ?_;rintro _ h3 ⟨rfl,Eh3⟩;replace hs:=hs.step Eh3;refine⟨_,rfl,?_⟩;refine sB_intro (fun c3=>?_) (fun c3=>?_)
 .rw[if_neg (Yyo (bF c3))];exact⟨hs.ext,⟨none,0,0⟩,rfl⟩
 .have hD:=Yyn (bT c3);rw[if_pos hD];refine (hL.ext hs.ext).r.rw.nbI (by omega) (by omega) fun b4 o5 d4 g4 t4=>?_;refine⟨_,_,_,_,_,t4,?_⟩;have hd:=hD.pd _ _ g4;refine (bounds192 d4 h3 ((hL.i d4 (Yb g4)).ext hs.ext) hd.pn hd.pg.nd hd.pg.ne).mono ?_;rintro _ h13 ⟨Eh13,r,rfl⟩;exact⟨_,rfl,(hs.step Eh13).ext,r,rfl⟩
theorem declared78 (L:List Dc) (s:Sl) (h:Heap) (hL:DL h s L) (hx:Gm h):Fn Pz 90 #[.slice s.a s.n s.c] h fun v h'=>v=.bool (decide (DeclS L))/\Ext h h':=by
 apply vc90;unfold W90;have hn:=hL.r.ln;refine sBe (fun c1=>?_) (fun c1=>?_)
 .have:L=[]:=List.length_eq_zero_iff.1 (by omega);subst this;exact⟨dT ⟨by simp,by simp[allF],fun i d hd=>by simp at hd⟩,(St.refl h).ext⟩
 .refine (bounds134 L s h hL hx (fun e=>by subst e;simp at hn;omega)).mono ?_;rintro _ h4 ⟨E,r,rfl⟩;refine⟨_,_,rfl,?_,E⟩;by_cases hD:DeclS L
  .rw[if_pos hD,decide_eq_true hD];rfl
  .rw[if_neg hD,decide_eq_false hD];rfl
structure NamedS (g:Gl):Prop where
 w:isWord g.nm=true
 n1:1<=g.rs.length
 n6:g.rs.length<=6
 r:∀i s,g.rs[i]?=some s->isWord s=true/\s∉g.rs.take i
noncomputable instance (g:Gl):Decidable (NamedS g):=Classical.propDecidable _
theorem named76 (g:Gl) (h:Heap) (hg:GI h g):Fn Pz 88 #[g.v] h fun v h'=>v=.bool (decide (NamedS g))/\Ext h h':=by
 apply vc88 (bs g.nm) g.hr g.hd g.n g.s g.e g.he g.ht;unfold W88;have hs:=St.refl h;have hn:=hg.r.ln;have hcap:=hg.r.cap;refine hs.newb fun h9 hs=>?_;refine⟨_,hs.rd 0 rfl rfl,?_⟩;refine (isword132 _ _).mono ?_;rintro _ h13 ⟨rfl,Eh13⟩;replace hs:=hs.step Eh13;refine⟨_,rfl,?_⟩;refine sB_intro (fun c1=>?_) (fun c1=>?_)
 .skip
  exact⟨dF fun hG=>(by have:=hG.w;rw[show isWord g.nm=false from bF c1] at this;cases this),hs.ext⟩
 .skip
  refine⟨_,hs.rd 0 rfl rfl,?_⟩;refine sBi (fun c2=>?_) (fun c2=>?_)
  .skip
   exact⟨dF fun hG=>(by have:=hG.n1;omega),hs.ext⟩
  .skip
   refine⟨_,hs.rd 0 rfl rfl,?_⟩;refine sBi (fun c3=>?_) (fun c3=>?_)
   .skip
    exact⟨dF fun hG=>(by have:=hG.n6;omega),hs.ext⟩
   .skip
    refine⟨_,hs.rd 0 rfl rfl,?_⟩;refine up_loopS (n:=g.hr.n) hs (fun i17=>∀(j:Nat) (s:Nm),j<i17->g.rs[j]?=some s->isWord s=true/\s∉g.rs.take j) (fun j s hj=>by omega) ?_;rintro-i17 h21 k17 ⟨hs,q17⟩;refine sB_intro (fun l17=>?_) (fun l17=>?_)
    .have l17:=lt_t l17;refine ((hg.r.ext hs.ext).rw).nbI (by omega) (by omega) fun b22 o23 d22 g22 t22=>?_;replace g22:_[i17]?=some d22:=g22;refine⟨_,t22.hd,?_⟩;refine (isword132 _ _).mono ?_;rintro _ h27 ⟨rfl,Eh27⟩;replace hs:=hs.step Eh27;refine⟨_,rfl,?_⟩;refine sB_intro (fun c4=>?_) (fun c4=>?_)
     .skip
      exact⟨dF fun hG=>(by have:=(hG.r _ _ g22).1;rw[show isWord d22=false from bF c4] at this;cases this),hs.ext⟩
     .skip
      refine⟨_,hs.rd 0 rfl rfl,?_⟩;refine⟨by omega,?_⟩;refine (has133 (g.rs.take i17) (bs d22) ⟨subA g.hr.a (Int.toNat 0) g.hr.c 1,Int.toNat (i17:Int)-Int.toNat 0,g.hr.c-Int.toNat 0⟩ _ ((hg.r.ext hs.ext).take (by omega))).mono ?_;rintro _ h31 ⟨rfl,rfl⟩;refine⟨_,rfl,?_⟩;refine sB_intro (fun c5=>?_) (fun c5=>?_)
      .skip
       exact⟨dF fun hG=>(hG.r _ _ g22).2 (Yyn c5),hs.ext⟩
      .skip
       exact Up.next l17 (by omega) ⟨hs,fun j s hj hx=>by by_cases e:j=i17;(subst e;rw[g22] at hx;cases hx;exact⟨bT c4,Yyo c5⟩);exact q17 j s (by omega) hx⟩
    .have l17:=lt_f l17;exact⟨dT ⟨bT c1,by omega,by omega,fun j s hx=>q17 j s (by have:=(Ya.1 hx).1;omega) hx⟩,hs.ext⟩
def EdS (g:Gl) (x:Ed):Prop:=0<=x.f/\0<=x.t/\0<=x.a/\0<=x.b/\0<=x.l/\x.f<g.n/\x.t<g.n/\x.a<g.rs.length/\x.b<g.rs.length/\x.a≠x.b/\x.l<g.ds.length
structure NumS (g:Gl):Prop where
 n:1<=g.n/\g.n<=200/\0<=g.s/\0<=g.e/\g.s<g.n/\g.e<g.n
 m:g.es.length<=400
 e:∀x∈g.es,EdS g x
noncomputable instance (g:Gl):Decidable (NumS g):=Classical.propDecidable _
theorem numbered77 (g:Gl) (h:Heap) (hg:GI h g):Fn Pz 89 #[g.v] h fun v h'=>v=.bool (decide (NumS g))/\Ext h h':=by
 apply vc89 (bs g.nm) g.hr g.hd g.n g.s g.e g.he g.ht;unfold W89;have hs:=St.refl h;have hn:=hg.e.ln;have hnr:=hg.r.ln;have hnd:=hg.d.r.ln;simp only[imin_min,imax_max];refine hs.newb fun h9 hs=>?_;refine⟨_,hs.rd 0 rfl rfl,?_⟩;refine sBi (fun c1=>?_) (fun c1=>?_);rotate_left;refine⟨_,hs.rd 0 rfl rfl,?_⟩;refine sBi (fun c2=>?_) (fun c2=>?_);rotate_left;refine⟨_,hs.rd 0 rfl rfl,?_⟩;refine⟨_,hs.rd 0 rfl rfl,?_⟩;refine sBi (fun c3=>?_) (fun c3=>?_);rotate_left;refine⟨_,hs.rd 0 rfl rfl,?_⟩;refine⟨_,hs.rd 0 rfl rfl,?_⟩;refine⟨_,hs.rd 0 rfl rfl,?_⟩;refine sBi (fun c4=>?_) (fun c4=>?_);rotate_left;refine⟨_,hs.rd 0 rfl rfl,?_⟩;refine sBi (fun c5=>?_) (fun c5=>?_);rotate_left;refine⟨_,hs.rd 0 rfl rfl,?_⟩;refine up_loopS (n:=g.he.n) hs (fun i19=>∀(j:Nat) (x:Ed),j<i19->g.es[j]?=some x->EdS g x) (fun j s hj=>by omega) ?_;rintro-i19 h23 k19 ⟨hs,q19⟩;refine sB_intro (fun l19=>?_) (fun l19=>?_);have l19:=lt_t l19;refine ((hg.e.ext hs.ext).rw).nbI (by omega) (by omega) fun b24 o25 d24 g24 t24=>?_;replace g24:_[i19]?=some d24:=g24;refine⟨_,_,_,_,_,_,t24,?_⟩;refine hs.newput rfl rfl fun h33 hs=>?_;refine⟨_,_,_,hs.at 0 rfl (n:=3) rfl,?_⟩;refine hs.newput rfl rfl fun h38 hs=>?_;refine⟨_,hs.rd 1 rfl rfl,?_⟩;refine⟨_,hs.rd 1 rfl rfl,?_⟩;refine⟨_,hs.rd 0 rfl rfl,?_⟩;refine⟨_,hs.rd 0 rfl rfl,?_⟩;refine⟨_,hs.rd 0 rfl rfl,?_⟩;refine sBi (fun c6=>?_) (fun c6=>?_);rotate_left;refine⟨_,hs.rd 1 rfl rfl,?_⟩;refine⟨_,hs.rd 1 rfl rfl,?_⟩;refine⟨_,hs.rd 2 rfl rfl,?_⟩;refine sBi (fun c7=>?_) (fun c7=>?_);rotate_left;refine⟨_,hs.rd 0 rfl rfl,?_⟩;refine⟨_,hs.rd 0 rfl rfl,?_⟩;refine⟨_,hs.rd 2 rfl rfl,?_⟩;refine sBi (fun c8=>?_) (fun c8=>?_);rotate_left;refine⟨_,hs.rd 0 rfl rfl,?_⟩;refine⟨_,hs.rd 0 rfl rfl,?_⟩;refine sBe (fun c9=>?_) (fun c9=>?_);rotate_left;refine⟨_,hs.rd 0 rfl rfl,?_⟩;refine⟨_,hs.rd 2 rfl rfl,?_⟩;refine sBi (fun c10=>?_) (fun c10=>?_);rotate_left;exact Up.next l19 (by omega) ⟨hs.drop 2,fun j x hj hx=>by by_cases e:j=i19;(subst e;rw[g24] at hx;cases hx;unfold EdS;omega);exact q19 j x (by omega) hx⟩;have l19:=lt_f l19;exact⟨dT ⟨by omega,by omega,fun x hx=>by obtain⟨j,hj⟩:=Yf.1 hx;exact q19 j x (by have:=(Ya.1 hj).1;omega) hj⟩,hs.ext⟩;all_goals first | exact⟨dF fun hG=>(by have:=hG.n;have:=hG.m;first | omega | (have:=hG.e _ (Yb g24);unfold EdS at this;omega)),hs.ext⟩
def PairBad (i k:Nat) (x y:Ed):Prop:=(i≠k/\x.f=y.f/\((x.a=y.a/\x.b=y.b/\x.l=y.l)\/x.a≠y.a\/x.ag=true))\/(x.ag=true/\y.t=x.f/\(x.a≠y.a\/x.l≠y.l))
structure OrdS (g:Gl):Prop where
 e:∀x∈g.es,x.f≠g.e
 s:∀x∈g.es,x.ag=true->x.f≠g.s
 p:∀i x,g.es[i]?=some x->∀k y,g.es[k]?=some y->¬PairBad i k x y
noncomputable instance (g:Gl):Decidable (OrdS g):=Classical.propDecidable _
theorem ordered79 (g:Gl) (h:Heap) (hg:GI h g):Fn Pz 91 #[g.v] h fun v h'=>v=.bool (decide (OrdS g))/\Ext h h':=by
 apply vc91 (bs g.nm) g.hr g.hd g.n g.s g.e g.he g.ht;unfold W91 V91a V91b;have hs:=St.refl h;have hn:=hg.e.ln;have hsm:=hg.e.sm;refine hs.newb fun h9 hs=>?_;refine⟨_,hs.rd 0 rfl rfl,?_⟩;refine up_loopS (n:=g.he.n) hs (fun i11=>∀(j:Nat) (x:Ed),j<i11->g.es[j]?=some x->x.f≠g.e/\(x.ag=true->x.f≠g.s)/\∀k y,g.es[k]?=some y->¬PairBad j k x y) (fun j s hj=>by omega) ?_;rintro-i11 h15 k11 ⟨hs,q11⟩;refine sB_intro (fun l11=>?_) (fun l11=>?_);have l11:=lt_t l11;refine ((hg.e.ext hs.ext).rw).nbI (by omega) (by omega) fun b16 o17 d16 g16 t16=>?_;replace g16:_[i11]?=some d16:=g16;refine⟨_,_,_,_,_,_,t16,?_⟩;refine hs.newput rfl rfl fun h25 hs=>?_;refine⟨_,hs.rd 0 rfl rfl,?_⟩;refine⟨_,hs.rd 1 rfl rfl,?_⟩;refine sBe (fun c1=>?_) (fun c1=>?_);rotate_left;refine⟨_,hs.rd 0 rfl rfl,?_⟩;refine sB_intro (fun c2=>?_) (fun c2=>?_);refine⟨_,hs.rd 0 rfl rfl,?_⟩;refine⟨_,hs.rd 1 rfl rfl,?_⟩;refine sBe (fun c3=>?_) (fun c3=>?_);rotate_left;refine⟨_,hs.rd 1 rfl rfl,?_⟩;refine up_loopS (n:=g.he.n) hs (fun i32=>∀(k:Nat) (y:Ed),k<i32->g.es[k]?=some y->¬PairBad i11 k d16 y) (fun j s hj=>by omega) ?_;rintro-i32 h36 k32 ⟨hs,q32⟩;refine sB_intro (fun l32=>?_) (fun l32=>?_);have l32:=lt_t l32;refine ((hg.e.ext hs.ext).rw).nbI (by omega) (by omega) fun b37 o38 d37 g37 t37=>?_;replace g37:_[i32]?=some d37:=g37;refine⟨_,_,_,_,_,_,t37,?_⟩;refine hs.newput rfl rfl fun h46 hs=>?_;refine sBn (fun c4=>?_) (fun c4=>?_);refine⟨_,hs.rd 1 rfl rfl,?_⟩;refine⟨_,hs.rd 0 rfl rfl,?_⟩;refine sBe (fun c5=>?_) (fun c5=>?_);refine⟨_,_,_,hs.at 1 rfl (n:=3) rfl,?_⟩;refine⟨_,_,_,hs.at 0 rfl (n:=3) rfl,?_⟩;refine sB_intro (fun c6=>?_) (fun c6=>?_);rotate_left;refine⟨_,hs.rd 1 rfl rfl,?_⟩;refine⟨_,hs.rd 0 rfl rfl,?_⟩;refine sBn (fun c7=>?_) (fun c7=>?_);rotate_left;refine⟨_,hs.rd 1 rfl rfl,?_⟩;refine sB_intro (fun c8=>?_) (fun c8=>?_);rotate_left;refine⟨_,hs.rd 1 rfl rfl,?_⟩;refine sB_intro (fun c9=>?_) (fun c9=>?_);refine⟨_,hs.rd 0 rfl rfl,?_⟩;refine⟨_,hs.rd 1 rfl rfl,?_⟩;refine sBe (fun c10=>?_) (fun c10=>?_);refine⟨_,hs.rd 1 rfl rfl,?_⟩;refine⟨_,hs.rd 0 rfl rfl,?_⟩;refine sBn (fun c11=>?_) (fun c11=>?_);rotate_left;refine⟨_,hs.rd 1 rfl rfl,?_⟩;refine⟨_,hs.rd 0 rfl rfl,?_⟩;refine sBn (fun c12=>?_) (fun c12=>?_);rotate_left;rotate_left;rotate_left;rotate_left;refine⟨_,hs.rd 1 rfl rfl,?_⟩;refine sB_intro (fun c13=>?_) (fun c13=>?_);refine⟨_,hs.rd 0 rfl rfl,?_⟩;refine⟨_,hs.rd 1 rfl rfl,?_⟩;refine sBe (fun c14=>?_) (fun c14=>?_);refine⟨_,hs.rd 1 rfl rfl,?_⟩;refine⟨_,hs.rd 0 rfl rfl,?_⟩;refine sBn (fun c15=>?_) (fun c15=>?_);rotate_left;refine⟨_,hs.rd 1 rfl rfl,?_⟩;refine⟨_,hs.rd 0 rfl rfl,?_⟩;refine sBn (fun c16=>?_) (fun c16=>?_);rotate_left;rotate_left;rotate_left;rotate_left;refine⟨_,hs.rd 1 rfl rfl,?_⟩;refine sB_intro (fun c17=>?_) (fun c17=>?_);refine⟨_,hs.rd 0 rfl rfl,?_⟩;refine⟨_,hs.rd 1 rfl rfl,?_⟩;refine sBe (fun c18=>?_) (fun c18=>?_);refine⟨_,hs.rd 1 rfl rfl,?_⟩;refine⟨_,hs.rd 0 rfl rfl,?_⟩;refine sBn (fun c19=>?_) (fun c19=>?_);rotate_left;refine⟨_,hs.rd 1 rfl rfl,?_⟩;refine⟨_,hs.rd 0 rfl rfl,?_⟩;refine sBn (fun c20=>?_) (fun c20=>?_);rotate_left;rotate_left;rotate_left;rotate_left;have l32:=lt_f l32;exact Up.next l11 (by omega) ⟨hs.drop 1,fun j x hj hx=>by by_cases e:j=i11;(subst e;rw[g16] at hx;cases hx;exact⟨c1,by first | exact fun _=>c3 | exact fun hc=>(by rw[c2] at hc;cases hc),by first | exact fun k y hk=>q32 k y (by have:=(Ya.1 hk).1;omega) hk | exact fun k y hk=>q90 k y (by have:=(Ya.1 hk).1;omega) hk⟩);exact q11 j x (by omega) hx⟩;refine⟨_,hs.rd 1 rfl rfl,?_⟩;refine up_loopS (n:=g.he.n) hs (fun i90=>∀(k:Nat) (y:Ed),k<i90->g.es[k]?=some y->¬PairBad i11 k d16 y) (fun j s hj=>by omega) ?_;rintro-i90 h94 k90 ⟨hs,q90⟩;refine sB_intro (fun l90=>?_) (fun l90=>?_);have l90:=lt_t l90;refine ((hg.e.ext hs.ext).rw).nbI (by omega) (by omega) fun b95 o96 d95 g95 t95=>?_;replace g95:_[i90]?=some d95:=g95;refine⟨_,_,_,_,_,_,t95,?_⟩;refine hs.newput rfl rfl fun h104 hs=>?_;refine sBn (fun c21=>?_) (fun c21=>?_);refine⟨_,hs.rd 1 rfl rfl,?_⟩;refine⟨_,hs.rd 0 rfl rfl,?_⟩;refine sBe (fun c22=>?_) (fun c22=>?_);refine⟨_,_,_,hs.at 1 rfl (n:=3) rfl,?_⟩;refine⟨_,_,_,hs.at 0 rfl (n:=3) rfl,?_⟩;refine sB_intro (fun c23=>?_) (fun c23=>?_);rotate_left;refine⟨_,hs.rd 1 rfl rfl,?_⟩;refine⟨_,hs.rd 0 rfl rfl,?_⟩;refine sBn (fun c24=>?_) (fun c24=>?_);rotate_left;refine⟨_,hs.rd 1 rfl rfl,?_⟩;refine sB_intro (fun c25=>?_) (fun c25=>?_);rotate_left;refine⟨_,hs.rd 1 rfl rfl,?_⟩;refine sB_intro (fun c26=>?_) (fun c26=>?_);refine⟨_,hs.rd 0 rfl rfl,?_⟩;refine⟨_,hs.rd 1 rfl rfl,?_⟩;refine sBe (fun c27=>?_) (fun c27=>?_);refine⟨_,hs.rd 1 rfl rfl,?_⟩;refine⟨_,hs.rd 0 rfl rfl,?_⟩;refine sBn (fun c28=>?_) (fun c28=>?_);rotate_left;refine⟨_,hs.rd 1 rfl rfl,?_⟩;refine⟨_,hs.rd 0 rfl rfl,?_⟩;refine sBn (fun c29=>?_) (fun c29=>?_);rotate_left;rotate_left;rotate_left;rotate_left;refine⟨_,hs.rd 1 rfl rfl,?_⟩;refine sB_intro (fun c30=>?_) (fun c30=>?_);refine⟨_,hs.rd 0 rfl rfl,?_⟩;refine⟨_,hs.rd 1 rfl rfl,?_⟩;refine sBe (fun c31=>?_) (fun c31=>?_);refine⟨_,hs.rd 1 rfl rfl,?_⟩;refine⟨_,hs.rd 0 rfl rfl,?_⟩;refine sBn (fun c32=>?_) (fun c32=>?_);rotate_left;refine⟨_,hs.rd 1 rfl rfl,?_⟩;refine⟨_,hs.rd 0 rfl rfl,?_⟩;refine sBn (fun c33=>?_) (fun c33=>?_);rotate_left;rotate_left;rotate_left;rotate_left;refine⟨_,hs.rd 1 rfl rfl,?_⟩;refine sB_intro (fun c34=>?_) (fun c34=>?_);refine⟨_,hs.rd 0 rfl rfl,?_⟩;refine⟨_,hs.rd 1 rfl rfl,?_⟩;refine sBe (fun c35=>?_) (fun c35=>?_);refine⟨_,hs.rd 1 rfl rfl,?_⟩;refine⟨_,hs.rd 0 rfl rfl,?_⟩;refine sBn (fun c36=>?_) (fun c36=>?_);rotate_left;refine⟨_,hs.rd 1 rfl rfl,?_⟩;refine⟨_,hs.rd 0 rfl rfl,?_⟩;refine sBn (fun c37=>?_) (fun c37=>?_);rotate_left;rotate_left;rotate_left;rotate_left;have l90:=lt_f l90;exact Up.next l11 (by omega) ⟨hs.drop 1,fun j x hj hx=>by by_cases e:j=i11;(subst e;rw[g16] at hx;cases hx;exact⟨c1,by first | exact fun _=>c3 | exact fun hc=>(by rw[c2] at hc;cases hc),by first | exact fun k y hk=>q32 k y (by have:=(Ya.1 hk).1;omega) hk | exact fun k y hk=>q90 k y (by have:=(Ya.1 hk).1;omega) hk⟩);exact q11 j x (by omega) hx⟩;have l11:=lt_f l11;exact⟨dT ⟨fun x hx=>by obtain⟨j,hj⟩:=Yf.1 hx;exact (q11 j x (by have:=(Ya.1 hj).1;omega) hj).1,fun x hx=>by obtain⟨j,hj⟩:=Yf.1 hx;exact (q11 j x (by have:=(Ya.1 hj).1;omega) hj).2.1,fun i x hx=>(q11 i x (by have:=(Ya.1 hx).1;omega) hx).2.2⟩,hs.ext⟩;all_goals first | exact⟨dF fun hG=>(by first | exact hG.e _ (Yb g16) c1 | exact hG.s _ (Yb g16) c2 c3 | (refine hG.p _ _ g16 _ _ g37 ?_;clear hG q11 q32 t37 t16 hs hg;unfold PairBad;grind) | (refine hG.p _ _ g16 _ _ g95 ?_;clear hG q11 q90 t95 t16 hs hg;unfold PairBad;grind)),hs.ext⟩ | exact Up.next l32 (by omega) ⟨hs.drop 1,fun k y hk hy=>by by_cases e:k=i32;(subst e;rw[g37] at hy;cases hy;clear q11 q32 t37 t16 hs hg;unfold PairBad;grind);exact q32 k y (by omega) hy⟩ | exact Up.next l90 (by omega) ⟨hs.drop 1,fun k y hk hy=>by by_cases e:k=i90;(subst e;rw[g95] at hy;cases hy;clear q11 q90 t95 t16 hs hg;unfold PairBad;grind);exact q90 k y (by omega) hy⟩
def lastS (ts:List To) (i:Nat):Int:=if i=0 then -1 else match ts[i-1]? with | some t=>t.s | none=>-1
structure TmS (g:Gl) (i:Nat) (t:To):Prop where
 o:lastS g.ts i<t.s
 k:1<=t.k/\t.k<=1000
 e:0<=t.e/\∃x,g.es[t.e.toNat]?=some x/\x.f=t.s/\x.ag=false
def TimS (g:Gl):Prop:=∀i t,g.ts[i]?=some t->TmS g i t
noncomputable instance (g:Gl):Decidable (TimS g):=Classical.propDecidable _
theorem lastS_next {ts:List To} {i:Nat} {t:To} (h:ts[i]?=some t):lastS ts (i+1)=t.s:=by
 unfold lastS;rw[if_neg (by omega),Nat.add_sub_cancel,h]
theorem timed80 (g:Gl) (h:Heap) (hg:GI h g):Fn Pz 92 #[g.v] h fun v h'=>v=.bool (decide (TimS g))/\Ext h h':=by
 apply vc92 (bs g.nm) g.hr g.hd g.n g.s g.e g.he g.ht;unfold W92;have hs:=St.refl h;have hn:=hg.t.ln;have hne:=hg.e.ln;have hsm:=hg.t.sm;refine hs.newb fun h9 hs=>?_;refine⟨_,hs.rd 0 rfl rfl,?_⟩;refine⟨fun last_14 x_15 h' m=>∃i:Nat,x_15=i/\m=g.ht.n-i/\i<=g.ht.n/\St h h' [.blk h.size g.cs 27]/\last_14=lastS g.ts i/\∀j t,j<i->g.ts[j]?=some t->TmS g j t,⟨_,0,rfl,rfl,by omega,hs,rfl,fun j t hj=>by omega⟩,?_⟩;rintro-_ _ h16 m ⟨i,rfl,rfl,hi,hs,rfl,q⟩;refine sBi (fun c1=>?_) (fun c1=>?_);refine ((hg.t.ext hs.ext).rw).nbI (by omega) (by omega) fun b17 o18 d17 g17 t17=>?_;refine⟨_,_,_,t17,?_⟩;refine hs.newput rfl rfl fun h23 hs=>?_;refine⟨_,hs.rd 0 rfl rfl,?_⟩;refine sBi (fun c2=>?_) (fun c2=>?_);rotate_left;refine⟨_,hs.rd 0 rfl rfl,?_⟩;refine sBi (fun c3=>?_) (fun c3=>?_);rotate_left;refine⟨_,hs.rd 0 rfl rfl,?_⟩;refine sBi (fun c4=>?_) (fun c4=>?_);rotate_left;refine⟨_,hs.rd 0 rfl rfl,?_⟩;refine sBi (fun c5=>?_) (fun c5=>?_);rotate_left;refine⟨_,hs.rd 0 rfl rfl,?_⟩;refine⟨_,hs.rd 1 rfl rfl,?_⟩;refine sBi (fun c6=>?_) (fun c6=>?_);rotate_left;refine⟨_,hs.rd 1 rfl rfl,?_⟩;refine⟨_,hs.rd 0 rfl rfl,?_⟩;refine ((hg.e.ext hs.ext).rw).nbI (by omega) (by omega) fun b32 o33 d32 g32 t32=>?_;refine⟨_,t32.hd,?_⟩;refine⟨_,hs.rd 0 rfl rfl,?_⟩;refine sBn (fun c7=>?_) (fun c7=>?_);rotate_left;refine⟨_,hs.rd 1 rfl rfl,?_⟩;refine⟨_,hs.rd 0 rfl rfl,?_⟩;refine ((hg.e.ext hs.ext).rw).nbI (by omega) (by omega) fun b38 o39 d38 g38 t38=>?_;refine⟨_,t38.nth 5 rfl,?_⟩;refine sB_intro (fun c8=>?_) (fun c8=>?_);rotate_left;refine⟨_,hs.rd 0 rfl rfl,?_⟩;exact⟨_,by omega,i+1,by rw[w64 (by omega) (by omega)];omega,rfl,by omega,hs.drop 1,(lastS_next g17).symm,fun j t hj hx=>by by_cases e:j=i;(subst e;rw[show g.ts[j]?=some d17 from g17] at hx;cases hx;exact⟨by omega,by omega,by omega,d32,g32,c7,by rw[g38] at g32;cases g32;exact c8⟩);exact q j t (by omega) hx⟩;exact⟨dT fun j t hx=>q j t (by have:=(Ya.1 hx).1;omega) hx,hs.ext⟩;all_goals first | exact⟨dF fun hG=>(by replace hG:=hG i _ g17;have ho:=hG.o;have hk:=hG.k;obtain⟨he0,x,hx,hf,hag⟩:=hG.e;have hxl:=(Ya.1 hx).1;first | omega | (rw[g32] at hx;cases hx;first | exact c7 hf | (rw[g38] at g32;cases g32;rw[c8] at hag;cases hag))),hs.ext⟩
theorem app42:appB Pz 102 3 1 8=true:=by kernel_rfl
theorem inrows (L:List Int):∀r∈L.map inC,r.length=1:=fun r hr=>by obtain⟨x,_,rfl⟩:=Yp.1 hr;rfl
theorem index135 (L:List Int) (x:Int) (s:Sl) (h:Heap) (hr:Rw h 1 s (L.map inC)) (hm:L.length<=1048576) :
  Fn Pz 163 #[.slice s.a s.n s.c,.int .i64 x] h fun v h'=>(∃k:Int,v=.int .i64 k/\decide (k>=0)=decide (x∈L))/\h'=h:=by
 apply vc163;unfold W163;have hn:=hr.ln;refine up_loop (n:=s.n) (fun i h'=>h'=h/\∀(j:Nat) (y:Int),j<i->L[j]?=some y->decide (x=y)=false) ⟨rfl,fun j y hj=>by omega⟩ ?_;rintro-i h5 hi ⟨rfl,hd⟩;refine sB_intro (fun l=>?_) (fun l=>?_)
 .replace l:=lt_t l;refine hr.nbI (by omega) (by omega) fun b o d g t=>?_;replace g:L[i]?=some d:=g;refine⟨_,t.hd,?_⟩;refine sBe (fun he=>?_) (fun hne=>?_)
  .exact⟨⟨_,rfl,by rw[decide_eq_true (show (i:Int)>=0 by omega),decide_eq_true (by rw[he];exact Yb g)]⟩,rfl⟩
  .exact Up.next l (by omega) ⟨rfl,scan_next (p:=fun y=>decide (x=y)) g (decide_eq_false hne) hd⟩
 .replace l:=lt_f l;refine⟨⟨_,rfl,?_⟩,rfl⟩;rw[decide_eq_false (show ¬((-1:Int)>=0) by omega),decide_eq_false];intro hm;obtain⟨j,hj⟩:=Yf.1 hm;exact Yyo (hd j _ (by have:=(Ya.1 hj).1;omega) hj) rfl
theorem has81 (L:List Int) (x:Int) (s:Sl) (h:Heap) (hr:Rw h 1 s (L.map inC)) (hm:L.length<=1048576) :
  Fn Pz 93 #[.slice s.a s.n s.c,.int .i64 x] h fun v h'=>v=.bool (decide (x∈L))/\h'=h:=by
 apply vc93;unfold W93;refine (index135 L x s h hr hm).mono ?_;rintro v h3 ⟨⟨k,rfl,hk⟩,rfl⟩;exact⟨_,rfl,by rw[hk],rfl⟩
theorem spread82 (g:Gl) (src:Int) (bk:Bool) (h:Heap) (hg:GI h g) (hN:NumS g) (h0:0<=src) (h1:src<g.n) :
  Fn Pz 94 #[g.v,.int .i64 src,.bool bk] h fun v h'=>Ext h h'/\∃(s:Sl) (D:List Int),v=.slice s.a s.n s.c/\OwnS h' h.size 3 1 s (D.map inC).flatten/\BF g.es bk g.n.toNat src D []:=by
 apply vc94 (bs g.nm) g.hr g.hd g.n g.s g.e g.he g.ht;unfold W94;have hs:=St.refl h;have hn:=hg.e.ln;have hb:=hN.n;have he:=hN.e;have hm:=hN.m;refine hs.newb fun h9 hs=>?_;refine hs.newb fun h10 hs=>?_;refine⟨_,hs.rd 1 rfl rfl,?_⟩;refine (repeat60 g.n (by omega) (by omega) _ h10 (hs.rd 0 rfl rfl)).mono ?_;rintro _ h14 ⟨E14,x13,rfl,ho⟩;replace hs:=hs.gift E14 ho (inrows _);refine⟨_,rfl,?_⟩;have hxn:=(hs.rows 0 rfl (by omega)).ln;rw[Yg] at hxn;refine hs.set 0 rfl (by omega) h0 (by omega) 0 rfl rfl (fun b15 o16 h17 hs=>?_) rfl;refine hs.newb fun h18 hs=>?_;have hs:=(hs.blkS 1 1 [[.int .i64 src]] rfl (by simp) rfl (by decide)).toQ (by omega);have bf0:BF g.es bk g.n.toNat src ((List.replicate g.n.toNat (-1:Int)).set src.toNat 0) [src]:=BF.start h0 (by omega) (by omega);refine⟨fun todo h' m=>∃(D T:List Int),St h h' [.q todo 3 1 (T.map inC),.sl x13 3 1 (D.map inC),.blk h9.size [.int .i64 (-1)] 3,.blk h.size g.cs 27]/\BF g.es bk g.n.toNat src D T/\m=2*D.count (-1)+T.length/\m<=401,⟨_,_,[src],hs,bf0,rfl,?_⟩,?_⟩
 .have:List.count (-1) ((List.replicate g.n.toNat (-1:Int)).set src.toNat 0)<=_:=List.count_le_length;rw[Yyh,Yg] at this;rw[Yv];omega
 rintro-todo_22 h23 m ⟨D,T,hs,bf,rfl,hmm⟩;have hq:=(hs.qlen 0 rfl).1;rw[Yc] at hq;refine sBi (fun c1=>?_) (fun c1=>?_)
 .refine⟨_,hs.rd 3 rfl rfl,?_⟩;obtain⟨a0,R0,rfl⟩:∃a R,T=a::R:=by cases T with
   | nil=>simp at hq;omega
   | cons a R=>exact⟨a,R,rfl⟩
  refine⟨fun todo x h' m=>∃(i:Nat) (D' R:List Int),x=i/\m=g.he.n-i/\i<=g.he.n/\St h h' [.q todo 3 1 ((a0::R).map inC),.sl x13 3 1 (D'.map inC),.blk h9.size [.int .i64 (-1)] 3,.blk h.size g.cs 27]/\BF g.es bk g.n.toNat src D' (a0::R) /\
   (∀(j:Nat) (x:Ed),j<i->g.es[j]?=some x->src_ bk x=a0->Vis D' (dst_ bk x))/\2*D'.count (-1)+R.length+1<=2*D.count (-1)+(a0::R0).length,⟨_,0,D,R0,rfl,rfl,by omega,hs,bf,fun j x hj=>by omega,by rw[Yyj];omega⟩,?_⟩
  rintro-todo_28 _ h30 _ ⟨i,D',R,rfl,rfl,hi,hs,bf,hdone,hmea⟩;have hq:=(hs.qlen 0 rfl);rw[Yc,Yyj] at hq;have hlD:=bf.len;have hxn2:=(hs.rows 1 rfl (by omega)).ln;refine sBi (fun c2=>?_) (fun c2=>?_)
  .have l2:i<g.he.n:=by omega
   refine (hg.e.ext hs.ext).rw.nbI (by omega) (by omega) fun b31 o32 d31 g31 t31=>?_;replace g31:g.es[i]?=some d31:=g31;have hE:=he d31 (Yb g31);unfold EdS at hE;refine⟨_,_,_,_,_,_,t31,?_⟩;refine hs.newput (vs:=d31.cs) rfl rfl fun h40 hs=>?_;refine⟨_,hs.rd 0 rfl rfl,?_⟩;refine⟨_,hs.rd 0 rfl rfl,?_⟩;refine⟨fun a b h'=>St h h' [.blk h30.size d31.cs 67,.q todo_28 3 1 ((a0::R).map inC),.sl x13 3 1 (D'.map inC),.blk h9.size [.int .i64 (-1)] 3,.blk h.size g.cs 27]/\a=src_ bk d31/\b=dst_ bk d31,?_,?_⟩
   .cases bk
    .exact⟨hs,rfl,rfl⟩
    .exact⟨hs,rfl,rfl⟩
   .rintro-a b h46 ⟨hs,ha,hb'⟩;have ha0:0<=a/\a<g.n/\0<=b/\b<g.n:=by rw[ha,hb'];unfold src_ dst_;cases bk<;>simp<;>omega
    have next0:∀ {todo:Sl} {h':Heap} {D2 R2:List Int},St h h' [.blk h30.size d31.cs 67,.q todo 3 1 ((a0::R2).map inC),.sl x13 3 1 (D2.map inC),.blk h9.size [.int .i64 (-1)] 3,.blk h.size g.cs 27]->BF g.es bk g.n.toNat src D2 (a0::R2) ->
      (∀v,Vis D' v->Vis D2 v)->(a=a0->Vis D2 b)->2*D2.count (-1)+R2.length+1<=2*D.count (-1)+(a0::R0).length ->
      ∃m,m<g.he.n-i/\∃(i2:Nat) (D' R:List Int),IntKind.wrap .i64 ((i:Int)+1)=i2/\m=g.he.n-i2/\i2<=g.he.n/\St h h' [.q todo 3 1 ((a0::R).map inC),.sl x13 3 1 (D'.map inC),.blk h9.size [.int .i64 (-1)] 3,.blk h.size g.cs 27]/\BF g.es bk g.n.toNat src D' (a0::R) /\
       (∀(j:Nat) (x:Ed),j<i2->g.es[j]?=some x->src_ bk x=a0->Vis D' (dst_ bk x))/\2*D'.count (-1)+R.length+1<=2*D.count (-1)+(a0::R0).length:=by
     intro todo h' D2 R2 hs2 bf2 hmono hedge hm2;refine⟨_,by omega,i+1,D2,R2,by rw[w64 (by omega) (by omega)];omega,rfl,by omega,hs2.drop 1,bf2,fun j x hj hx hsx=>?_,hm2⟩;by_cases e:j=i
     .subst e;rw[g31] at hx;cases hx;rw[<-hb'];exact hedge (by rw[ha,hsx])
     .exact hmono _ (hdone j x (by omega) hx hsx)
    refine (hs.qrw 1 rfl (by omega)).nbI (cs:=inC) (L:=a0::R) (by omega) (by omega) fun b47 o48 d47 g47 t47=>?_;have ed:a0=d47:=by simpa using g47
    subst ed;refine⟨_,t47.hd,?_⟩;refine sBe (fun c4=>?_) (fun c4=>?_)
    .subst c4;have hva:Vis D' a:=bf.t a (by simp);obtain⟨_,da,hda,hda0⟩:=hva;refine (hs.rows 2 rfl (by omega)).nbI (by omega) (by omega) fun b50 o51 db g50 t50=>?_;refine⟨_,t50.hd,?_⟩;refine sBi (fun c5=>?_) (fun c5=>?_)
     .refine (hs.rows 2 rfl (by omega)).nbI (by omega) (by omega) fun b53 o54 d53 g53 t53=>?_;rw[hda] at g53;cases g53;refine⟨_,t53.hd,?_⟩;have hadj:Adj g.es bk a b:=⟨d31,Yb g31,ha.symm,hb'.symm⟩;obtain⟨bf2,hcnt,hd0,hd2⟩:=bf.push ⟨by omega,da,hda,hda0⟩ hda (by omega) g50 c5 hadj;rw[w64 (n:=da+1) (by omega) (by omega)];refine hs.set 2 rfl (by omega) (by omega) (by omega) (da+1) rfl rfl (fun b56 o57 h58 hs=>?_) rfl;have hcl:D'.count (-1)<=D'.length:=List.count_le_length;have hRl:R.length<=2000:=by omega
      refine hs.qapp 1 rfl app42 (m:=1) [[.int .i64 b]] rfl rfl (by omega) (by simp) rfl (by omega) (by simp only[maxLen];omega) fun s60 h61 ns60 hs=>?_;have hs':St h h61 [.blk h30.size d31.cs 67,.q s60 3 1 ((a::(R++[b])).map inC),.sl x13 3 1 ((D'.set b.toNat (da+1)).map inC),.blk h9.size [.int .i64 (-1)] 3,.blk h.size g.cs 27]:=by
       have e:(a::(R++[b])).map inC=(a::R).map inC++[[.int .i64 b]]:=by simp[inC]
       rw[e];exact hs
      refine next0 hs' bf2 (fun v hv=>(vis_set (by omega) (by have:=(Ya.1 g50).1;omega) (by omega)).2 (.inr hv)) (fun _=>(vis_set (by omega) (by have:=(Ya.1 g50).1;omega) (by omega)).2 (.inl rfl)) ?_;rw[Yh,Yv];omega
     .exact next0 hs bf (fun v hv=>hv) (fun _=>⟨by omega,db,g50,by omega⟩) hmea
    .exact next0 hs bf (fun v hv=>hv) (fun e=>absurd e c4) hmea
  .refine⟨⟨by omega,by omega,by omega⟩,?_⟩;rw[Yyl] at hs;refine⟨_,?_,D',R,hs.qtail,?_,rfl,?_⟩
   .rw[Yyj] at hmea ⊢;omega
   rotate_left
   .omega
   .refine⟨bf.len,bf.src,bf.r,fun t ht=>bf.t t (Yn _ ht),fun v w hv hn' hvw=>?_,bf.b⟩;by_cases hva:v=a0
    .subst hva;obtain⟨x,hx,h3,h4⟩:=hvw;obtain⟨j,hj⟩:=Yf.1 hx;rw[<-h4];exact hdone j x (by have:=(Ya.1 hj).1;omega) hj h3
    .exact bf.c v w hv (by rw[Yr,not_or];exact⟨hva,hn'⟩) hvw
 .have:T=[]:=List.length_eq_zero_iff.1 (by omega);subst this;exact⟨hs.ext,x13,D,rfl,hs.give 1 rfl,bf⟩
structure ValidS (g:Gl):Prop where
 nam:NamedS g
 num:NumS g
 dcl:DeclS g.ds
 ord:OrdS g
 tim:TimS g
 fwd:∀v:Int,0<=v->v<g.n->Rch g.es false g.s v
 bwd:∀v:Int,0<=v->v<g.n->Rch g.es true g.e v
noncomputable instance (g:Gl):Decidable (ValidS g):=Classical.propDecidable _
theorem valid38 (g:Gl) (h:Heap) (hg:GI h g) (hx:Gm h):Fn Pz 40 #[g.v] h fun v h'=>v=.bool (decide (ValidS g))/\Ext h h':=by
 apply vc40 (bs g.nm) g.hr g.hd g.n g.s g.e g.he g.ht;unfold W40;have hs:=St.refl h;refine hs.newb fun h9 hs=>?_;refine⟨_,_,_,_,_,_,_,_,hs.at 0 rfl (n:=8) rfl,?_⟩;refine (named76 g _ (hg.ext hs.ext)).mono ?_;rintro _ h20 ⟨rfl,Eh20⟩;replace hs:=hs.step Eh20;refine⟨_,rfl,?_⟩;refine sB_intro (fun c1=>?_) (fun c1=>?_)
 .skip
  refine⟨_,_,_,_,_,_,_,_,hs.at 0 rfl (n:=8) rfl,?_⟩;refine (numbered77 g _ (hg.ext hs.ext)).mono ?_;rintro _ h31 ⟨rfl,Eh31⟩;replace hs:=hs.step Eh31;refine⟨_,rfl,?_⟩;refine sB_intro (fun c2=>?_) (fun c2=>?_)
  .skip
   refine⟨_,hs.rd 0 rfl rfl,?_⟩;refine (declared78 g.ds _ _ (hg.d.ext hs.ext) (hx.ext hs.ext)).mono ?_;rintro _ h35 ⟨rfl,Eh35⟩;replace hs:=hs.step Eh35;refine⟨_,rfl,?_⟩;refine sB_intro (fun c3=>?_) (fun c3=>?_)
   .skip
    refine⟨_,_,_,_,_,_,_,_,hs.at 0 rfl (n:=8) rfl,?_⟩;refine (ordered79 g _ (hg.ext hs.ext)).mono ?_;rintro _ h46 ⟨rfl,Eh46⟩;replace hs:=hs.step Eh46;refine⟨_,rfl,?_⟩;refine sB_intro (fun c4=>?_) (fun c4=>?_)
    .skip
     refine⟨_,_,_,_,_,_,_,_,hs.at 0 rfl (n:=8) rfl,?_⟩;refine (timed80 g _ (hg.ext hs.ext)).mono ?_;rintro _ h57 ⟨rfl,Eh57⟩;replace hs:=hs.step Eh57;refine⟨_,rfl,?_⟩;refine sB_intro (fun c5=>?_) (fun c5=>?_)
     .skip
      refine⟨_,_,_,_,_,_,_,_,hs.at 0 rfl (n:=8) rfl,?_⟩;refine⟨_,hs.rd 0 rfl rfl,?_⟩;refine (spread82 g _ _ _ (hg.ext hs.ext) (Yyn c2) (by have:=(Yyn c2).n;omega) (by have:=(Yyn c2).n;omega)).mono ?_;rintro _ h69 ⟨E69,x68,D,rfl,ho,bf⟩;replace hs:=hs.gift E69 ho (inrows _);refine⟨_,rfl,?_⟩;refine (has81 _ _ _ _ (hs.rows 0 rfl (by omega)) (by have:=bf.len;have:=(Yyn c2).n;omega)).mono ?_;rintro _ h72 ⟨rfl,rfl⟩;refine⟨_,rfl,?_⟩;refine sB_intro (fun c6=>?_) (fun c6=>?_)
      .skip
       refine⟨_,_,_,_,_,_,_,_,hs.at 1 rfl (n:=8) rfl,?_⟩;refine⟨_,hs.rd 1 rfl rfl,?_⟩;refine (spread82 g _ _ _ (hg.ext hs.ext) (Yyn c2) (by have:=(Yyn c2).n;omega) (by have:=(Yyn c2).n;omega)).mono ?_;rintro _ h84 ⟨E84,x83,D2,rfl,ho2,bf2⟩;replace hs:=hs.gift E84 ho2 (inrows _);refine⟨_,rfl,?_⟩;refine (has81 _ _ _ _ (hs.rows 0 rfl (by omega)) (by have:=bf2.len;have:=(Yyn c2).n;omega)).mono ?_;rintro _ h87 ⟨rfl,rfl⟩;refine⟨_,rfl,?_⟩;refine⟨?_,hs.ext⟩;have hN:=(Yyn c2).n;have h1:∀v:Int,0<=v->v<g.n->Rch g.es false g.s v:=by
        intro v h0 h2;apply Classical.byContradiction;intro h3;have h4:(-1:Int)∈D:=bf.all.2 fun hall=>h3 (hall v h0 (by omega));rw[decide_eq_true h4] at c6;cases c6
       by_cases h2:∀v:Int,0<=v->v<g.n->Rch g.es true g.e v
       .have h4:¬((-1:Int)∈D2):=fun hm=>bf2.all.1 hm fun v h0 h3=>h2 v h0 (by omega);rw[decide_eq_false h4,decide_eq_true (show ValidS g from ⟨Yyn c1,Yyn c2,Yyn c3,Yyn c4,Yyn c5,h1,h2⟩)];rfl
       .have h4:(-1:Int)∈D2:=bf2.all.2 fun hall=>h2 fun v h0 h3=>hall v h0 (by omega);rw[decide_eq_true h4,decide_eq_false (fun hG:ValidS g=>h2 hG.bwd)];rfl
      .skip
       exact⟨dF fun hG=>by have h1:=bf.all.1 (by simpa using c6);exact h1 fun v h0 h2=>hG.fwd v h0 (by omega),hs.ext⟩
     .skip
      exact⟨dF fun hG=>Yyo c5 hG.tim,hs.ext⟩
    .skip
     exact⟨dF fun hG=>Yyo c4 hG.ord,hs.ext⟩
   .skip
    exact⟨dF fun hG=>Yyo c3 hG.dcl,hs.ext⟩
  .skip
   exact⟨dF fun hG=>Yyo c2 hG.num,hs.ext⟩
 .skip
  exact⟨dF fun hG=>Yyo c1 hG.nam,hs.ext⟩
theorem word58 (ws:List Nat) (s:Sl) (i:Nat) (h:Heap) (hr:Rw h 1 s (ws.map wC)) (hl:ws.length<=64) :
  Fn Pz 127 #[.slice s.a s.n s.c,.int .i64 i] h fun v h'=>v=.int .u64 ((ws.getD i 0:Nat):Int)/\h'=h:=by
 apply vc127;unfold W127;have hn:=hr.ln;rw[imin_min];refine sBi (fun c1=>?_) (fun c1=>?_)
 .refine hr.nbI (by omega) (by omega) fun b1 o2 d1 g1 t1=>?_;refine⟨_,t1.hd,?_,rfl⟩;rw[Yo,show ws[i]?=some d1 from g1];rfl
 .refine⟨?_,rfl⟩;rw[Yo,Yl (by omega)];rfl
theorem has29 (p:Nat->Bool) (s:Sl) (n:Int) (h:Heap) (hr:SetV h s p) :
  Fn Pz 67 #[.slice s.a s.n s.c,.int .i64 n] h fun v h'=>v=.bool (decide (0<=n/\n<4096)&&p n.toNat)/\h'=h:=by
 apply vc67;unfold W67;obtain⟨ws,h1,h2,h3,h4⟩:=hr.ex;refine sBi (fun c1=>?_) (fun c1=>?_)
 .refine sBi (fun c2=>?_) (fun c2=>?_)
  .obtain⟨m,rfl⟩:=Int.eq_ofNat_of_zero_le c1;refine⟨by omega,?_⟩;have e1:IntKind.wrap .i64 (Int.tdiv (m:Int) 64)=((m/64:Nat):Int):=by
    have:Int.tdiv (m:Int) 64=((m/64:Nat):Int):=rfl;rw[this];exact w64 (by omega) (by omega)
   rw[e1];refine (word58 ws s (m/64) h h1 h2).mono ?_;rintro _ h5 ⟨rfl,rfl⟩;have e2:Int.tmod (m:Int) 64=((m%64:Nat):Int):=rfl;refine⟨_,rfl,by omega,by rw[e2];omega,?_,rfl⟩;rw[e2,bit_has (by
    rw[Yo];cases hw:ws[m/64]? with
    | none=>exact Nat.two_pow_pos 64
    | some w=>exact h3 w (Yb hw)) (by omega)]
   rw[decide_eq_true (by omega),Bool.true_and];have:=h4 m;unfold memB at this;rw[show ((m:Int)).toNat=m from rfl,<-this]
  .exact⟨by rw[decide_eq_false (by omega)];rfl,rfl⟩
 .exact⟨by rw[decide_eq_false (by omega)];rfl,rfl⟩
theorem cal101:callable Pz 136=true:=by kernel_rfl
theorem made121 (n:Nat):madeL Pz 144 n=((List.replicate n 0).map wC).flatten:=by
 have e:zeroC Pz 144=[.int .u64 0]:=by kernel_rfl
 unfold madeL;rw[e,List.map_replicate];rfl
theorem wrows (L:List Nat):∀r∈L.map wC,r.length=1:=fun r hr=>by obtain⟨x,_,rfl⟩:=Yp.1 hr;rfl
theorem wflat (ws:List Nat) (i:Nat):((ws.map wC).flatten)[i]?=(ws[i]?).map fun w=>.int .u64 (w:Int):=by
 by_cases h:i<ws.length
 .have:=getElem?_flatten (k:=1) (ws.map wC) i 0 (wC ws[i]) (wrows ws) (by rw[Yd,Yi h];rfl) (by omega);rw[Nat.mul_one,Nat.add_zero] at this;rw[this,Yi h];rfl
 .have hl:((ws.map wC).flatten).length=ws.length:=by rw[flatten_len _ (wrows ws),Yc,Nat.mul_one]
  rw[Yl (by omega),Yl (by omega)];rfl
theorem wsplice {ws:List Nat} {i:Nat} (hi:i<ws.length) (w:Nat):splice ((ws.map wC).flatten) (i*1) [.int .u64 (w:Int)]=((ws.set i w).map wC).flatten:=by
 have:=splice_flat (n:=1) (j:=0) (vs:=[.int .u64 (w:Int)]) (row:=wC ws[i]) (ws.map wC) i (wrows ws) (by rw[Yd,Yi hi];rfl) (by simp);rw[Nat.add_zero] at this;rw[this,List.map_set];rfl
structure SI (ws:List Nat) (k:Nat) (p:Nat->Bool):Prop where
 pl:ws.length<=64
 pk:k<=ws.length
 pw:∀w∈ws,w<2^64
 pz:∀(i w:Nat),k<=i->ws[i]?=some w->w=0
 pm:∀j,memB ws j=p j
def setB (b:Nat) (ws:List Nat):It:=.blk b (ws.map wC).flatten 144
theorem SI.v {ws:List Nat} {k:Nat} {p:Nat->Bool} (hS:SI ws k p) {h:Heap} {b:Nat} (ho:Own h b (ws.map wC).flatten 144) (c:Nat):SetV h ⟨some ⟨b,0,none⟩,k,c⟩ p:=by
 refine⟨ws.take k,⟨by rw[Yc,Yu];have:=hS.pk;simp only;omega,fun _=>⟨b,0,rfl,fun i row hi j v hj=>?_⟩⟩,by rw[Yu];have:=hS.pl;omega,fun w hw=>hS.pw w (List.mem_of_mem_take hw),fun j=>by rw[memB_take hS.pz];exact hS.pm j⟩;rw[Yd] at hi;obtain⟨w,hw,rfl⟩:=Yya.1 hi;have hj0:j=0:=by have:=(Ya.1 hj).1;simpa [wC] using this
 subst hj0;have hv:v=.int .u64 (w:Int):=by simpa [wC] using hj.symm
 subst hv;rw[addk_at,Own.hc ho,wflat];rw[Yyf] at hw;split at hw
 .rw[show 0+i*1+0=i by omega,hw];rfl
 .cases hw
theorem build100 (ws:List Nat) (p:Nat->Bool) (b:Nat) (h:Heap) (hl:ws.length=64) (hw:∀w∈ws,w<2^64) (hm:∀j,memB ws j=p j) (hb:∀(i w:Nat),ws[i]?=some w->hc h ⟨b,i,none⟩=some (.int .u64 (w:Int))) :
  Fn Pz 135 #[.int .i64 64,.func (.func 136) #[] #[.pointer (some ⟨b,0,none⟩)]] h fun v h'=>Ext h h'/\∃(k:Nat),v=.slice (some ⟨h.size,0,none⟩) k k/\Own h' h.size (ws.map wC).flatten 144/\SI ws k p:=by
 apply vc135;unfold W135 V135b V135a;have hs:=St.refl h;rw[show imin (64:Int) 64=64 from rfl,show Int.toNat 64=64 from rfl,made121];refine⟨by decide,?_⟩;refine hs.newb fun h1 hs=>?_;refine up_loop (n:=64) (fun i h'=>∃us:List Nat,us.length=64/\us.take i=ws.take i/\St h h' [.blk h.size (us.map wC).flatten 144]) ⟨List.replicate 64 0,by rw[Yg],rfl,hs⟩ ?_;rintro-i h6 hi ⟨us,hul,hut,hs⟩;refine sB_intro (fun l=>?_) (fun l=>?_)
 .replace l:=lt_t l;rw[cal101,cond_true];obtain⟨w,hw1⟩:=get_some (l:=ws) (i:=i) (by omega);have hfn:Fn Pz 136 #[.int .i64 (i:Int),.pointer (some ⟨b,0,none⟩)] h6 fun v h'=>v=.int .u64 (w:Int)/\h'=h6:=by
   apply vc136 (i:Int) b 0;unfold W136;refine⟨by omega,_,?_,rfl,rfl⟩;have:=hc_ext hs.ext (hb i w hw1);rw[show (0+Int.toNat (i:Int)*1)=i by simp];exact this
  refine hfn.mono ?_;rintro _ h9 ⟨rfl,rfl⟩;refine⟨_,rfl,by omega,?_⟩;rw[show (0+Int.toNat (i:Int)*1)=i*1 by simp];refine hs.put 0 rfl (o:=i*1) (vs:=[.int .u64 (w:Int)]) rfl (by rw[flatten_len _ (wrows us),Yc,Yv];omega) fun h10 hs=>?_;refine Up.next l (by omega) ⟨us.set i w,by rw[Yyh];exact hul,?_,?_⟩
  .rw[take_snoc hw1,<-hut,take_snoc (x:=w) (by rw[Yq (by omega)]),List.take_set_of_le (Yyt _)]
  .rw[<-wsplice (by omega)];exact hs
 .replace l:=lt_f l;have hi64:i=64:=by omega
  subst hi64;rw[Yj (by omega),Yj (by omega)] at hut;subst hut;refine⟨fun n h' m=>∃k:Nat,n=k/\m=k/\k<=64/\h'=h6/\∀i w,k<=i->us[i]?=some w->w=0,⟨_,64,rfl,rfl,by omega,rfl,fun i w hi hw=>by have:=(Ya.1 hw).1;omega⟩,?_⟩;rintro-_ h16 m ⟨k,rfl,rfl,hk,rfl,hz⟩;have hfin:∀v:Value,v=.slice (subA (some ⟨h.size,0,none⟩) (Int.toNat 0) (Int.toNat (m:Int)) 1) (Int.toNat (m:Int)-Int.toNat 0) (Int.toNat (m:Int)-Int.toNat 0) ->
    Ext h h16/\∃(k:Nat),v=.slice (some ⟨h.size,0,none⟩) k k/\Own h16 h.size (us.map wC).flatten 144/\SI us k p:=by
   rintro v rfl;refine⟨hs.ext,m,?_,hs.get (k:=0) rfl,⟨by omega,by omega,hw,hz,hm⟩⟩;rw[show subA (some (⟨h.size,0,none⟩:Addr)) (Int.toNat 0) (Int.toNat (m:Int)) 1=some ⟨h.size,0,none⟩ from subA_zero _ _ _];rfl
  refine sBi (fun c1=>?_) (fun c1=>?_)
  .have hk1:IntKind.wrap .i64 ((m:Int)-1)=((m-1:Nat):Int):=by rw[w64 (by omega) (by omega)];omega
   rw[hk1];obtain⟨w,hw2⟩:=get_some (l:=us) (i:=m-1) (by omega);refine⟨by omega,_,hs.rd 0 rfl (by rw[show (0+Int.toNat ((m-1:Nat):Int)*1)=m-1 by simp,wflat,hw2];rfl),?_⟩;refine sBe (fun c2=>?_) (fun c2=>?_)
   .refine⟨_,by omega,m-1,rfl,rfl,by omega,rfl,fun i w' hi hw'=>?_⟩;by_cases e:i=m-1
    .subst e;rw[hw2] at hw';cases hw';omega
    .exact hz i w' (by omega) hw'
   .exact⟨by omega,hfin _ rfl⟩
  .exact⟨by omega,hfin _ rfl⟩
theorem make55 (l:List Int) (s:Sl) (h:Heap) (hr:Rw h 1 s (l.map inC)) (hm:l.length<=1048576) :
  Fn Pz 74 #[.slice s.a s.n s.c] h fun v h'=>Ext h h'/\∃(b k:Nat) (ws:List Nat),v=.slice (some ⟨b,0,none⟩) k k/\h.size<=b/\Own h' b (ws.map wC).flatten 144/\SI ws k fun j=>decide (((j:Nat):Int)∈l/\j<4096):=by
 apply vc74;unfold W74;have hn:=hr.ln;have hs:=St.refl h;refine hs.newb fun h1 hs=>?_;refine up_loop (n:=s.n) (fun i h'=>∃ws:List Nat,ws.length=64/\(∀w∈ws,w<2^64)/\(∀j,memB ws j=decide (((j:Nat):Int)∈l.take i/\j<4096))/\St h h' [.blk h.size (ws.map wC).flatten 253]) ⟨List.replicate 64 0,by rw[Yg],fun w hw=>by rw[List.eq_of_mem_replicate hw];decide,fun j=>by rw[memB_zero,Yyk];exact (decide_eq_false (fun h=>by cases h.1)).symm,hs⟩ ?_;rintro-i h6 hi ⟨ws,hwl,hw,hmem,hs⟩;refine sB_intro (fun l2=>?_) (fun l2=>?_)
 .replace l2:=lt_t l2;refine (hr.ext hs.ext).nbI (by omega) (by omega) fun b7 o8 d7 g7 t7=>?_;replace g7:l[i]?=some d7:=g7;refine⟨_,t7.hd,?_⟩;have skip:¬(0<=d7/\d7<4096)->∃m,m<s.n-i/\Up s.n (fun i h'=>∃ws:List Nat,ws.length=64/\(∀w∈ws,w<2^64)/\(∀j,memB ws j=decide (((j:Nat):Int)∈l.take i/\j<4096))/\St h h' [.blk h.size (ws.map wC).flatten 253]) (IntKind.wrap .i64 ((i:Int)+1)) h6 m:=fun hno=>
   Up.next l2 (by omega) ⟨ws,hwl,hw,fun j=>by
    rw[hmem j,take_snoc g7];have:(j:Int)∈List.take i l/\j<4096 ↔ (j:Int)∈List.take i l++[d7]/\j<4096:=by
     rw[Yk,Ye];constructor
     .rintro⟨h1,h2⟩;exact⟨.inl h1,h2⟩
     .rintro⟨h1 | h1,h2⟩
      .exact⟨h1,h2⟩
      .omega
    exact decide_eq_decide.2 this,hs⟩
  refine sBi (fun c1=>?_) (fun c1=>?_)
  .refine sBi (fun c2=>?_) (fun c2=>?_)
   .obtain⟨n,rfl⟩:=Int.eq_ofNat_of_zero_le c1;have e1:IntKind.wrap .i64 (Int.tdiv (n:Int) 64)=((n/64:Nat):Int):=by
     have:Int.tdiv (n:Int) 64=((n/64:Nat):Int):=rfl;rw[this];exact w64 (by omega) (by omega)
    have e2:Int.tmod (n:Int) 64=((n%64:Nat):Int):=rfl;have e3:(0+Int.toNat ((n/64:Nat):Int)*1)=n/64*1:=Nat.zero_add _;rw[e1,e2,e3];have hnl:n/64<ws.length:=by omega
    have hg:ws[n/64]?=some (ws.getD (n/64) 0):=by rw[Yo,Yi hnl];rfl
    have hlt:=hw _ (Yb hg);refine⟨by omega,by omega,_,hs.rd 0 rfl (by rw[Nat.mul_one,wflat,hg];rfl),by omega,by omega,by omega,?_⟩;have h2k:2^(n%64)<2^64:=Nat.pow_lt_pow_right (by omega) (by omega);rw[shl_one (by omega),or_nat hlt h2k];refine hs.put 0 rfl (o:=n/64*1) (vs:=[.int .u64 ((ws.getD (n/64) 0|||2^(n%64):Nat):Int)]) rfl (by rw[flatten_len _ (wrows ws),Yc,Yv];omega) fun h11 hs=>?_;refine Up.next l2 (by omega) ⟨ws.set (n/64) (ws.getD (n/64) 0|||2^(n%64)),by rw[Yyh];exact hwl,fun w hw'=>?_,fun j=>?_,?_⟩
    .rcases List.mem_or_eq_of_mem_set hw' with hw' | rfl
     .exact hw w hw'
     .exact Nat.or_lt_two_pow hlt h2k
    .rw[memB_set hnl,hmem j,take_snoc g7,<-Bool.decide_or];refine decide_eq_decide.2 ?_;rw[Yk,Ye];constructor
     .rintro (rfl | ⟨h1,h2⟩)
      .exact⟨.inr rfl,by omega⟩
      .exact⟨.inl h1,h2⟩
     .rintro⟨h1 | h1,h2⟩
      .exact .inr ⟨h1,h2⟩
      .exact .inl (by omega)
    .have hs2:=hs;rw[show (List.set [It.blk h.size (ws.map wC).flatten 253] 0 (.blk h.size (splice (ws.map wC).flatten (n/64*1) [.int .u64 ((ws.getD (n/64) 0|||2^(n%64):Nat):Int)]) 253))=[.blk h.size (splice (ws.map wC).flatten (n/64*1) [.int .u64 ((ws.getD (n/64) 0|||2^(n%64):Nat):Int)]) 253] from rfl,wsplice hnl] at hs2;exact hs2
   .exact skip (by omega)
  .exact skip (by omega)
 .replace l2:=lt_f l2;rw[Yj (by omega)] at hmem;refine (build100 ws _ h.size h6 hwl hw hmem fun i w hiw=>hs.rd 0 rfl (by rw[wflat,hiw];rfl)).mono ?_;rintro _ h17 ⟨E,k,rfl,ho,hS⟩;exact⟨⟨some ⟨h6.size,0,none⟩,k,k⟩,rfl,(hs.step E).ext,_,k,ws,rfl,hs.ext.1,ho,hS⟩
theorem made42 (n:Nat):madeL Pz 102 n=((List.replicate n (⟨none,0,0⟩:Sl)).map slC).flatten:=by
 have e:zeroC Pz 102=[.slice none 0 0]:=by kernel_rfl
 unfold madeL;rw[e,List.map_replicate];rfl
theorem made173 (n:Nat):madeL Pz 231 n=((List.replicate n (⟨none,0,0⟩:Sl)).map slC).flatten:=by
 have e:zeroC Pz 231=[.slice none 0 0]:=by kernel_rfl
 unfold madeL;rw[e,List.map_replicate];rfl
theorem slrows (L:List Sl):∀r∈L.map slC,r.length=1:=fun r hr=>by obtain⟨x,_,rfl⟩:=Yp.1 hr;rfl
theorem app173:appB Pz 231 233 4 32=true:=by kernel_rfl
structure LkL (g:Gl) (role:Int) (i:Nat) (qs:List (Sl × List Int)) (vs:List (Sl × List Ar)):Prop where
 ql:qs.length=g.n.toNat
 vl:vs.length=g.n.toNat
 q:∀(n:Nat) q,qs[n]?=some q->q.2=quietL (g.es.take i) role n
 v:∀(n:Nat) q,vs[n]?=some q->q.2=visL (g.es.take i) role n
def lkA (g:Gl) (role:Int) (b bg:Nat) (hq hv:Sl) (qs:List (Sl × List Int)) (vs:List (Sl × List Ar)):List It:=
 [.blk b (g.cs++[.int .i64 role,.slice hq.a hq.n hq.c,.slice hv.a hv.n hv.c]) 230,.sl hq 102 1 ((qs.map Prod.fst).map slC),.sl hv 231 1 ((vs.map Prod.fst).map slC),.blk bg g.cs 27]
theorem LkL.len {g:Gl} {role:Int} {i n:Nat} {qs:List (Sl × List Int)} {vs:List (Sl × List Ar)} (h:LkL g role i qs vs) {q:Sl × List Int} (hq:qs[n]?=some q):q.2.length<=g.es.length:=by
 rw[h.q n q hq];exact Yys (List.length_filterMap_le _ _) (by rw[Yu];omega)
theorem LkL.lenv {g:Gl} {role:Int} {i n:Nat} {qs:List (Sl × List Int)} {vs:List (Sl × List Ar)} (h:LkL g role i qs vs) {q:Sl × List Ar} (hq:vs[n]?=some q):q.2.length<=g.es.length:=by
 rw[h.v n q hq];exact Yys (List.length_filterMap_le _ _) (by rw[Yu];omega)
theorem LkL.nextQ {g:Gl} {role:Int} {i m:Nat} {qs:List (Sl × List Int)} {vs:List (Sl × List Ar)} {x:Ed} {q:Sl × List Int} {r:Sl} (h:LkL g role i qs vs) (hx:g.es[i]?=some x) (hn:vis1 role x=none) (hm:x.f=(m:Int)) (hq:qs[m]?=some q):LkL g role (i+1) (qs.set m (r,q.2++[x.t])) vs:=by
 refine⟨by rw[Yyh];exact h.ql,h.vl,fun n q' hq'=>?_,fun n q' hq'=>?_⟩
 .rw[take_snoc hx,quietL_snoc];by_cases e:n=m
  .subst e;rw[Yq (Ya.1 hq).1] at hq';cases hq';rw[if_pos hm,hn];show q.2++[x.t]=_;rw[h.q n q hq]
  .rw[Yy (fun h=>e h.symm)] at hq';rw[if_neg (by omega),Yw];exact h.q n q' hq'
 .rw[take_snoc hx,visL_snoc,hn];rw[show (if x.f=(n:Int) then [] else []:List Ar)=[] by split<;>rfl,Yw];exact h.v n q' hq'
theorem LkL.nextV {g:Gl} {role:Int} {i m:Nat} {qs:List (Sl × List Int)} {vs:List (Sl × List Ar)} {x:Ed} {q:Sl × List Ar} {r:Sl} {e:Ev} (h:LkL g role i qs vs) (hx:g.es[i]?=some x) (hn:vis1 role x=some e) (hm:x.f=(m:Int)) (hq:vs[m]?=some q):LkL g role (i+1) qs (vs.set m (r,q.2++[⟨e,x.t⟩])):=by
 refine⟨h.ql,by rw[Yyh];exact h.vl,fun n q' hq'=>?_,fun n q' hq'=>?_⟩
 .rw[take_snoc hx,quietL_snoc,hn];rw[show (if x.f=(n:Int) then [] else []:List Int)=[] by split<;>rfl,Yw];exact h.q n q' hq'
 .rw[take_snoc hx,visL_snoc];by_cases e:n=m
  .subst e;rw[Yq (Ya.1 hq).1] at hq';cases hq';rw[if_pos hm,hn];show q.2++[_]=_;rw[h.v n q hq]
  .rw[Yy (fun h=>e h.symm)] at hq';rw[if_neg (by omega),Yw];exact h.v n q' hq'
theorem LkL.start (g:Gl) (role:Int):LkL g role 0 (List.replicate g.n.toNat (⟨none,0,0⟩,[])) (List.replicate g.n.toNat (⟨none,0,0⟩,[])):=
 ⟨by rw[Yg],by rw[Yg],fun n q hq=>by rw[List.eq_of_mem_replicate (Yb hq)];rfl,fun n q hq=>by rw[List.eq_of_mem_replicate (Yb hq)];rfl⟩
theorem fst_set {α β:Type} (Q:List (α × β)) (i:Nat) (r:α) (d:β):(Q.set i (r,d)).map Prod.fst=(Q.map Prod.fst).set i r:=List.map_set
theorem map_range {α β:Type} [Inhabited α] (Q:List α) (f:α->β):Q.map f=(List.range Q.length).map fun i=>f (Q.getD i default):=by
 apply Yyr;intro i;rw[Yd,Yd];by_cases h:i<Q.length
 .rw[Yyb h,Yi h];simp[Yo,Yi h]
 .rw[Yl (by omega),Yl (by rw[Yyd];omega)];rfl
instance {α:Type}:Inhabited (Sl × List α):=⟨⟨⟨none,0,0⟩,[]⟩⟩
theorem LkL.fin {g:Gl} {role:Int} {i:Nat} {h0 h:Heap} {b bg:Nat} {hq hv:Sl} {qs:List (Sl × List Int)} {vs:List (Sl × List Ar)} (hL:LkL g role i qs vs) (hi:g.es.length<=i)
  (hs:St h0 h (lkA g role b bg hq hv qs vs++qs.map (nest 3 1 inC)++vs.map (nest 233 4 Ar.cs))) (hqn:hq.n=g.n.toNat) (hvn:hv.n=g.n.toNat):LkI h ⟨b,0,none⟩ g role:=by
 have key:∀ {α:Type} (Q:List (Sl × List α)),(Q.map Prod.fst).map slC=(List.range Q.length).map fun i=>slC ((Q.getD i default).1):=fun Q=>by rw[List.map_map,map_range];rfl
 refine⟨hq,hv,fun i=>(qs.getD i default).1,fun i=>(vs.getD i default).1,rfl,hs.at 0 rfl (n:=11) rfl,hqn,hvn,?_,?_,fun i hi'=>?_,fun i hi'=>?_⟩
 .have:=hs.rw 1 rfl (by omega);rw[key,hL.ql] at this;exact this
 .have:=hs.rw 2 rfl (by omega);rw[key,hL.vl] at this;exact this
 .have hil:i<qs.length:=by rw[hL.ql];exact hi'
  have hg:qs[i]?=some (qs.getD i default):=by rw[Yo,Yi hil];rfl
  have:=hs.rw (4+i) (rows:=(qs.getD i default).2.map inC) (s:=(qs.getD i default).1) (e:=3) (n:=1) (by
   have:=get_mid (P:=lkA g role b bg hq hv qs vs) (Q:=qs.map (nest 3 1 inC)) (R:=vs.map (nest 233 4 Ar.cs)) (i:=i) (by rw[Yc];exact hil);rw[show (lkA g role b bg hq hv qs vs).length=4 from rfl] at this;rw[this,Yd,hg];rfl) (by omega)
  rw[hL.q i _ hg,Yj hi] at this;exact this
 .have hil:i<vs.length:=by rw[hL.vl];exact hi'
  have hg:vs[i]?=some (vs.getD i default):=by rw[Yo,Yi hil];rfl
  have:=hs.rw ((lkA g role b bg hq hv qs vs++qs.map (nest 3 1 inC)).length+i) (rows:=(vs.getD i default).2.map Ar.cs) (s:=(vs.getD i default).1) (e:=233) (n:=4) (by
   rw[Yyc (by omega),Nat.add_sub_cancel_left,Yd,hg];rfl) (by omega)
  rw[hL.v i _ hg,Yj hi] at this;exact this
theorem look52 (g:Gl) (role:Int) (h:Heap) (hg:GI h g) (hx:Gm h) :
  Fn Pz 63 #[g.v,.int .i64 role] h fun v h'=>Ext h h'/\((¬(ValidS g/\0<=role/\role<g.rs.length)/\v=.tuple ⟨[.pointer none,.int .i64 1]⟩) \/
   ((ValidS g/\0<=role/\role<g.rs.length)/\∃b,h.size<=b/\v=.tuple ⟨[.pointer (some ⟨b,0,none⟩),.int .i64 0]⟩/\LkI h' ⟨b,0,none⟩ g role)):=by
 apply vc63 (bs g.nm) g.hr g.hd g.n g.s g.e g.he g.ht;unfold W63 V63a V63c V63b;have hs:=St.refl h;have hn:=hg.e.ln;have hnr:=hg.r.ln;have hsm:=hg.e.sm;refine hs.newb fun h9 hs=>?_;refine⟨_,_,_,_,_,_,_,_,hs.at 0 rfl (n:=8) rfl,?_⟩;refine (valid38 g _ (hg.ext hs.ext) (hx.ext hs.ext)).mono ?_;rintro _ h20 ⟨rfl,Eh20⟩;replace hs:=hs.step Eh20;refine⟨_,rfl,?_⟩;refine sB_intro (fun c1=>?_) (fun c1=>?_)
 .exact⟨hs.ext,.inl ⟨fun hG=>Yyo (bF c1) hG.1,rfl⟩⟩
 .have hV:=Yyn (bT c1);refine sBi (fun c2=>?_) (fun c2=>?_)
  .exact⟨hs.ext,.inl ⟨fun hG=>by omega,rfl⟩⟩
  .refine⟨_,hs.rd 0 rfl rfl,?_⟩;refine sBi (fun c3=>?_) (fun c3=>?_)
   .exact⟨hs.ext,.inl ⟨fun hG=>by omega,rfl⟩⟩
   .refine⟨_,_,_,_,_,_,_,_,hs.at 0 rfl (n:=8) rfl,?_⟩;refine⟨_,hs.rd 0 rfl rfl,?_⟩;refine⟨_,hs.rd 0 rfl rfl,?_⟩;have hb:=hV.num.n;have hE:=hV.num.e;have hm4:=hV.num.m;have fin:ValidS g/\0<=role/\role<g.rs.length:=⟨hV,by omega,by omega⟩;rw[made42,made173];have hrep:∀ {α:Type},((List.replicate g.n.toNat ((⟨none,0,0⟩,[]):Sl × List α)).map Prod.fst)=List.replicate g.n.toNat (⟨none,0,0⟩:Sl):=List.map_replicate;have hmx:g.n.toNat<=maxLen:=by simp only[maxLen];omega
    refine⟨?_,?_⟩;refine⟨by omega,?_⟩;refine hs.newbE fun h32 E32 hs=>⟨E32.sm,?_⟩;have hs:=hs.blkS g.n.toNat 1 _ rfl (slrows _) (by rw[Yc,Yg]) hmx;refine⟨by omega,?_⟩;refine hs.newbE fun h33 E33 hs=>⟨E33.sm,?_⟩;have hs:=hs.blkS g.n.toNat 1 _ rfl (slrows _) (by rw[Yc,Yg]) hmx;have hle:h.size<=h33.size:=hs.ext.1;refine hs.newb fun h34 hs=>?_;have hs:St h h34 (lkA g role h33.size h.size ⟨some ⟨h20.size,0,none⟩,g.n.toNat,g.n.toNat⟩ ⟨some ⟨h32.size,0,none⟩,g.n.toNat,g.n.toNat⟩ (List.replicate g.n.toNat (⟨none,0,0⟩,[])) (List.replicate g.n.toNat (⟨none,0,0⟩,[]))++(List.replicate g.n.toNat ((⟨none,0,0⟩,[]):Sl × List Int)).map (nest 3 1 inC)++(List.replicate g.n.toNat ((⟨none,0,0⟩,[]):Sl × List Ar)).map (nest 233 4 Ar.cs)):=by
     have h1:St h h34 (lkA g role h33.size h.size ⟨some ⟨h20.size,0,none⟩,g.n.toNat,g.n.toNat⟩ ⟨some ⟨h32.size,0,none⟩,g.n.toNat,g.n.toNat⟩ (List.replicate g.n.toNat (⟨none,0,0⟩,[])) (List.replicate g.n.toNat (⟨none,0,0⟩,[]))++[]):=by
      unfold lkA;rw[hrep,hrep];exact hs.perm (.cons _ (.swap _ _ _))
     have h2:=h1.nests (α:=Ar) (e:=233) (k:=4) (cs:=Ar.cs) g.n.toNat;rw[Yw] at h2;exact h2.nests (α:=Int) (e:=3) (k:=1) (cs:=inC) g.n.toNat
    generalize esq:(⟨some ⟨h20.size,0,none⟩,g.n.toNat,g.n.toNat⟩:Sl)=sq at hs;have nsq:sq.n=g.n.toNat:=by rw[<-esq]
    clear esq;generalize esv:(⟨some ⟨h32.size,0,none⟩,g.n.toNat,g.n.toNat⟩:Sl)=sv at hs;rotate_left;refine⟨by omega,?_⟩;refine hs.newbE fun h32 E32 hs=>⟨E32.sm,?_⟩;have hs:=hs.blkS g.n.toNat 1 _ rfl (slrows _) (by rw[Yc,Yg]) hmx;refine⟨by omega,?_⟩;refine hs.newbE fun h33 E33 hs=>⟨E33.sm,?_⟩;have hs:=hs.blkS g.n.toNat 1 _ rfl (slrows _) (by rw[Yc,Yg]) hmx;have hle:h.size<=h33.size:=hs.ext.1;refine hs.newb fun h34 hs=>?_;have hs:St h h34 (lkA g role h33.size h.size ⟨some ⟨h32.size,0,none⟩,g.n.toNat,g.n.toNat⟩ ⟨some ⟨h20.size,0,none⟩,g.n.toNat,g.n.toNat⟩ (List.replicate g.n.toNat (⟨none,0,0⟩,[])) (List.replicate g.n.toNat (⟨none,0,0⟩,[]))++(List.replicate g.n.toNat ((⟨none,0,0⟩,[]):Sl × List Int)).map (nest 3 1 inC)++(List.replicate g.n.toNat ((⟨none,0,0⟩,[]):Sl × List Ar)).map (nest 233 4 Ar.cs)):=by
     have h1:St h h34 (lkA g role h33.size h.size ⟨some ⟨h32.size,0,none⟩,g.n.toNat,g.n.toNat⟩ ⟨some ⟨h20.size,0,none⟩,g.n.toNat,g.n.toNat⟩ (List.replicate g.n.toNat (⟨none,0,0⟩,[])) (List.replicate g.n.toNat (⟨none,0,0⟩,[]))++[]):=by
      unfold lkA;rw[hrep,hrep];exact hs
     have h2:=h1.nests (α:=Ar) (e:=233) (k:=4) (cs:=Ar.cs) g.n.toNat;rw[Yw] at h2;exact h2.nests (α:=Int) (e:=3) (k:=1) (cs:=inC) g.n.toNat
    generalize esq:(⟨some ⟨h32.size,0,none⟩,g.n.toNat,g.n.toNat⟩:Sl)=sq at hs;have nsq:sq.n=g.n.toNat:=by rw[<-esq]
    clear esq;generalize esv:(⟨some ⟨h20.size,0,none⟩,g.n.toNat,g.n.toNat⟩:Sl)=sv at hs;all_goals
     have nsv:sv.n=g.n.toNat:=by rw[<-esv]
     clear esv;refine⟨_,hs.rd 3 rfl rfl,?_⟩;refine up_loop (n:=g.he.n) (fun i h'=>∃qs vs,LkL g role i qs vs/\St h h' (lkA g role h33.size h.size sq sv qs vs++qs.map (nest 3 1 inC)++vs.map (nest 233 4 Ar.cs))) ⟨_,_,LkL.start g role,hs⟩ ?_;rintro-i h40 hi ⟨qs,vs,hL,hs⟩;refine sB_intro (fun l=>?_) (fun l=>?_)
     .replace l:=lt_t l;refine (hg.e.ext hs.ext).rw.nbI (by omega) (by omega) fun b41 o42 x g41 t41=>?_;replace g41:g.es[i]?=some x:=g41;have hxE:=hE x (Yb g41);unfold EdS at hxE;obtain⟨m,hm⟩:∃m:Nat,x.f=m:=⟨x.f.toNat,by omega⟩;obtain⟨q,hq⟩:=get_some (l:=qs) (i:=m) (by rw[hL.ql];omega);obtain⟨v,hv⟩:=get_some (l:=vs) (i:=m) (by rw[hL.vl];omega);have hql:=hL.len hq;have hvl:=hL.lenv hv;have hqn:q.1.n=q.2.length:=by
       have:=hs.len (4+m) (s:=q.1) (e:=3) (n:=1) (rows:=q.2.map inC) (by
        have:=get_mid (P:=lkA g role h33.size h.size sq sv qs vs) (Q:=qs.map (nest 3 1 inC)) (R:=vs.map (nest 233 4 Ar.cs)) (i:=m) (by rw[Yc];exact (Ya.1 hq).1);rw[show (lkA g role h33.size h.size sq sv qs vs).length=4 from rfl] at this;rw[this,Yd,hq];rfl) (by omega)
       rw[this.1,Yc]
      have hvn:v.1.n=v.2.length:=by
       have:=hs.len ((lkA g role h33.size h.size sq sv qs vs++qs.map (nest 3 1 inC)).length+m) (s:=v.1) (e:=233) (n:=4) (rows:=v.2.map Ar.cs) (by
        rw[Yyc (by omega),Nat.add_sub_cancel_left,Yd,hv];rfl) (by omega)
       rw[this.1,Yc]
      refine⟨_,_,_,_,_,_,t41,?_⟩;refine hs.newput (vs:=x.cs) rfl rfl fun h50 hs=>?_;refine⟨_,hs.rd 0 rfl rfl,?_⟩;refine sBe (fun c4=>?_) (fun c4=>?_)
      .have hvis:vis1 role x=some ⟨true,x.b,x.l⟩:=by unfold vis1;rw[if_pos c4]
       refine⟨_,hs.rd 1 rfl rfl,?_⟩;refine⟨_,hs.rd 0 rfl rfl,?_⟩;refine⟨_,hs.rd 1 rfl rfl,?_⟩;refine⟨_,hs.rd 0 rfl rfl,?_⟩;refine (hs.rows 3 rfl (by omega)).nbI (cs:=slC) (L:=vs.map Prod.fst) (by omega) (by omega) fun b56 o57 d56 g56 t56=>?_;have ed:d56=v.1:=by
        rw[hm,show ((m:Int)).toNat=m from rfl,Yd,hv] at g56;exact (Yyp g56).symm
       subst ed;refine⟨_,t56.hd,?_⟩;refine⟨_,hs.rd 0 rfl rfl,?_⟩;refine⟨_,hs.rd 0 rfl rfl,?_⟩;refine⟨_,hs.rd 0 rfl rfl,?_⟩;refine hs.newbE fun h62 E62 hs=>⟨E62.sm,?_⟩;have hs':St h h62 ((.blk h50.size (Ar.cs ⟨⟨true,x.b,x.l⟩,x.t⟩) 233 :: .blk h40.size x.cs 67::(lkA g role h33.size h.size sq sv qs vs++qs.map (nest 3 1 inC)))++vs.map (nest 233 4 Ar.cs)++[]):=by rw[Yw];exact hs
       refine hs'.nestAt hv app173 (⟨⟨true,x.b,x.l⟩,x.t⟩:Ar) (hs'.at 0 rfl (n:=4) rfl) rfl rfl (by omega) (by simp only[maxLen];omega) fun r h64 hr hs3=>?_;rw[Yw] at hs3;refine⟨sm_cons (hs'.same hs3 1 1 rfl rfl) (sm_cons (hs'.same hs3 2 2 rfl rfl) sm_nil),?_⟩;refine hs3.set 4 (cs:=slC) (l:=vs.map Prod.fst) rfl (by omega) (by omega) (by omega) r rfl rfl (fun b o h67 hs4=>?_) rfl;refine Up.next l (by omega) ⟨qs,vs.set m (r,v.2++[⟨⟨true,x.b,x.l⟩,x.t⟩]),hL.nextV g41 hvis hm hv,?_⟩;rw[hm] at hs4;have hs5:=hs4.drop 2;unfold lkA;rw[fst_set];exact hs5
      .refine⟨_,hs.rd 0 rfl rfl,?_⟩;refine sBe (fun c5=>?_) (fun c5=>?_)
       .have hvis:vis1 role x=some ⟨false,x.a,x.l⟩:=by unfold vis1;rw[if_neg c4,if_pos c5]
        refine⟨_,hs.rd 1 rfl rfl,?_⟩;refine⟨_,hs.rd 0 rfl rfl,?_⟩;refine⟨_,hs.rd 1 rfl rfl,?_⟩;refine⟨_,hs.rd 0 rfl rfl,?_⟩;refine (hs.rows 3 rfl (by omega)).nbI (cs:=slC) (L:=vs.map Prod.fst) (by omega) (by omega) fun b56 o57 d56 g56 t56=>?_;have ed:d56=v.1:=by
         rw[hm,show ((m:Int)).toNat=m from rfl,Yd,hv] at g56;exact (Yyp g56).symm
        subst ed;refine⟨_,t56.hd,?_⟩;refine⟨_,hs.rd 0 rfl rfl,?_⟩;refine⟨_,hs.rd 0 rfl rfl,?_⟩;refine⟨_,hs.rd 0 rfl rfl,?_⟩;refine hs.newbE fun h62 E62 hs=>⟨E62.sm,?_⟩;have hs':St h h62 ((.blk h50.size (Ar.cs ⟨⟨false,x.a,x.l⟩,x.t⟩) 233 :: .blk h40.size x.cs 67::(lkA g role h33.size h.size sq sv qs vs++qs.map (nest 3 1 inC)))++vs.map (nest 233 4 Ar.cs)++[]):=by rw[Yw];exact hs
        refine hs'.nestAt hv app173 (⟨⟨false,x.a,x.l⟩,x.t⟩:Ar) (hs'.at 0 rfl (n:=4) rfl) rfl rfl (by omega) (by simp only[maxLen];omega) fun r h64 hr hs3=>?_;rw[Yw] at hs3;refine⟨sm_cons (hs'.same hs3 1 1 rfl rfl) (sm_cons (hs'.same hs3 2 2 rfl rfl) sm_nil),?_⟩;refine hs3.set 4 (cs:=slC) (l:=vs.map Prod.fst) rfl (by omega) (by omega) (by omega) r rfl rfl (fun b o h67 hs4=>?_) rfl;refine Up.next l (by omega) ⟨qs,vs.set m (r,v.2++[⟨⟨false,x.a,x.l⟩,x.t⟩]),hL.nextV g41 hvis hm hv,?_⟩;rw[hm] at hs4;have hs5:=hs4.drop 2;unfold lkA;rw[fst_set];exact hs5
       .have hvis:vis1 role x=none:=by unfold vis1;rw[if_neg c4,if_neg c5]
        refine⟨_,hs.rd 1 rfl rfl,?_⟩;refine⟨_,hs.rd 0 rfl rfl,?_⟩;refine⟨_,hs.rd 1 rfl rfl,?_⟩;refine⟨_,hs.rd 0 rfl rfl,?_⟩;refine (hs.rows 2 rfl (by omega)).nbI (cs:=slC) (L:=qs.map Prod.fst) (by omega) (by omega) fun b56 o57 d56 g56 t56=>?_;have ed:d56=q.1:=by
         rw[hm,show ((m:Int)).toNat=m from rfl,Yd,hq] at g56;exact (Yyp g56).symm
        subst ed;refine⟨_,t56.hd,?_⟩;refine⟨_,hs.rd 0 rfl rfl,?_⟩;refine hs.newbE fun h62 E62 hs=>⟨E62.sm,?_⟩;have hs':St h h62 ((.blk h50.size (inC x.t) 3 :: .blk h40.size x.cs 67::lkA g role h33.size h.size sq sv qs vs)++qs.map (nest 3 1 inC)++vs.map (nest 233 4 Ar.cs)):=hs;refine hs'.nestAt hq app42 x.t (hs'.at 0 rfl (n:=1) rfl) rfl rfl (by omega) (by simp only[maxLen];omega) fun r h64 hr hs3=>⟨sm_cons (hs'.same hs3 1 1 rfl rfl) (sm_cons (hs'.same hs3 2 2 rfl rfl) sm_nil),?_⟩;refine hs3.set 3 (cs:=slC) (l:=qs.map Prod.fst) rfl (by omega) (by omega) (by omega) r rfl rfl (fun b o h67 hs4=>?_) rfl;refine Up.next l (by omega) ⟨qs.set m (r,q.2++[x.t]),vs,hL.nextQ g41 hvis hm hq,?_⟩;unfold lkA;rw[fst_set];rw[hm] at hs4;exact hs4.drop 2
     .replace l:=lt_f l;refine⟨hs.ext,.inr ⟨fin,h33.size,hle,rfl,hL.fin (by omega) hs nsq nsv⟩⟩
theorem made4 (n:Nat):madeL Pz 4 n=(List.replicate n false).map Value.bool:=by
 have e:zeroC Pz 4=[.bool false]:=by kernel_rfl
 unfold madeL;rw[e,List.map_replicate]
 induction n with
 | zero=>rfl
 | succ n ih=>rw[List.replicate_succ,List.replicate_succ,Yyu,ih];rfl
theorem SI.congr {ws:List Nat} {k:Nat} {p q:Nat->Bool} (h:SI ws k p) (e:p=q):SI ws k q:=e ▸ h
theorem closed53 (g:Gl) (role:Int) (b:Nat) (l:List Int) (s:Sl) (h:Heap) (hl:LkI h ⟨b,0,none⟩ g role) (hV:ValidS g) (hr:Rw h 1 s (l.map inC)) (hb:∀x∈l,0<=x/\x<g.n) (hsm:l.length<=1048576) :
  Fn Pz 64 #[.pointer (some ⟨b,0,none⟩),.slice s.a s.n s.c] h fun v h'=>Ext h h'/\∃(c k:Nat) (ws:List Nat),v=.slice (some ⟨c,0,none⟩) k k/\h.size<=c/\Own h' c (ws.map wC).flatten 144/\SI ws k (clo g.es role l):=by
 apply vc64;unfold W64 V64a;have hs:=St.refl h;have hn:=hr.ln;have hN:=hV.num.n;have hE:=hV.num.e;obtain⟨hq,hv,qs,vs,h1,h2,h3,h4,h5,h6,h7,h8⟩:=hl.ex;clear hl;refine⟨_,h2.nth 3 rfl,by omega,?_⟩;rw[made4];refine hs.newb fun h2' hs=>?_;have hs:=hs.nil_ 3 1;refine⟨fun todo x h' m=>∃(i:Nat) (D:List Bool) (T:List Int),x=i/\m=s.n-i/\i<=s.n/\St h h' [.sl todo 3 1 (T.map inC),.blk h.size (D.map Value.bool) 4]/\CL g.es role g.n.toNat l D T/\∀x∈l.take i,x∈T,⟨_,0,_,[],rfl,rfl,by omega,hs,CL.start _ _ _ _,fun x hx=>by rw[Yyk] at hx;cases hx⟩,?_⟩;rintro-todo_6 _ h8' m ⟨i,D,T,rfl,rfl,hi,hs,hC,hT⟩;have htl:=(hs.rows 0 rfl (by omega)).ln;have hle:=hC.le;have hDl:=hC.len;refine sBi (fun c1=>?_) (fun c1=>?_)
 .refine (hr.ext hs.ext).nbI (by omega) (by omega) fun b9 o10 d9 g9 t9=>?_;replace g9:l[i]?=some d9:=g9;have hd:=hb d9 (Yb g9);refine⟨_,t9.hd,⟨by omega,by omega⟩,?_⟩;obtain⟨y,hy⟩:=get_some (l:=D) (i:=d9.toNat) (by omega);have e0:0+Int.toNat d9*1=d9.toNat:=by omega
  rw[e0];refine⟨_,hs.rd 1 rfl (by rw[map_get,hy];rfl),?_⟩;refine sB_intro (fun c2=>?_) (fun c2=>?_)
  .have hyf:y=false:=bF c2;subst hyf;refine⟨⟨by omega,by omega⟩,?_⟩;refine hs.put 1 rfl (o:=d9.toNat) (vs:=[.bool true]) rfl (by rw[Yc,Yv];omega) fun h13 hs=>?_;refine hs.app 0 rfl app42 (m:=1) [[.int .i64 d9]] rfl rfl (by simp) rfl (by omega) (by simp only[maxLen];omega) fun s15 h16 ns15 hs=>?_;refine⟨_,by omega,i+1,D.set d9.toNat true,T++[d9],by rw[w64 (by omega) (by omega)];omega,rfl,by omega,?_,hC.push hd.1 hy (.base (Yb g9)),fun x hx=>?_⟩
   .rw[Ym,<-map_splice _ (by omega)];exact hs
   .rw[take_snoc g9] at hx;rw[Yk] at hx ⊢;exact hx.imp (hT x) id
  .have hyt:y=true:=bT c2;subst hyt;refine⟨_,by omega,i+1,D,T,by rw[w64 (by omega) (by omega)];omega,rfl,by omega,hs,hC,fun x hx=>?_⟩;rw[take_snoc g9,Yk,Ye] at hx;rcases hx with hx | rfl
   .exact hT x hx
   .exact (hC.mem x).2 ⟨hd.1,hy⟩
 .have hlT:∀x∈l,x∈T:=fun x hx=>hT x (by rw[Yj (by omega)];exact hx);clear hT;refine⟨fun todo x h' m=>∃(i:Nat) (D:List Bool) (T:List Int),x=i/\m=g.n.toNat-i/\i<=T.length/\St h h' [.sl todo 3 1 (T.map inC),.blk h.size (D.map Value.bool) 4]/\CL g.es role g.n.toNat l D T/\(∀x∈l,x∈T)/\∀v∈T.take i,∀b∈quietL g.es role v.toNat,b∈T,⟨_,0,D,T,rfl,rfl,by omega,hs,hC,hlT,fun v hv=>by rw[Yyk] at hv;cases hv⟩,?_⟩;clear hs hC htl hle hDl hlT;rintro-todo_22 _ h24 m ⟨i,D,T,rfl,rfl,hi,hs,hC,hlT,hcl⟩;have htl:=(hs.rows 0 rfl (by omega)).ln;have hle:=hC.le;refine sBi (fun c2=>?_) (fun c2=>?_)
  .refine⟨_,(atC_ext hs.ext h2).nth 9 rfl,?_⟩;refine (hs.rows 0 rfl (by omega)).nbI (by omega) (by omega) fun b26 o27 v g26 t26=>?_;replace g26:T[i]?=some v:=g26;have hvm:=(hC.mem v).1 (Yb g26);have hvl:v.toNat<g.n.toNat:=by have:=(Ya.1 hvm.2).1;have:=hC.len;omega
   refine⟨_,t26.hd,?_⟩;refine (h5.ext hs.ext).nbI (by omega) (by omega) fun b29 o30 k g29 t29=>?_;have hk:k=v.toNat:=by rw[Yyb hvl] at g29;exact (Yyp g29).symm
   subst hk;refine⟨_,t29.hd,?_⟩;have hrow:=h7 v.toNat hvl;have hrn:=hrow.ln;have hqb:∀x∈quietL g.es role v.toNat,0<=x/\x<g.n:=fun x hx=>by
    obtain⟨e,he,_,_,rfl⟩:=quietL_mem.1 hx;have:=hE e he;unfold EdS at this;omega
   have hql:(quietL g.es role v.toNat).length<=400:=Yys (List.length_filterMap_le _ _) hV.num.m;refine⟨fun todo x h' m=>∃(j:Nat) (D:List Bool) (T':List Int),x=j/\m=(qs v.toNat).n-j/\j<=(qs v.toNat).n/\St h h' [.sl todo 3 1 (T'.map inC),.blk h.size (D.map Value.bool) 4]/\CL g.es role g.n.toNat l D T'/\(∃R,T'=T++R)/\∀b∈(quietL g.es role v.toNat).take j,b∈T',⟨_,0,D,T,rfl,rfl,by omega,hs,hC,⟨[],by simp⟩,fun v hv=>by rw[Yyk] at hv;cases hv⟩,?_⟩;clear hs hC htl hle;rintro-todo_35 _ h37 m ⟨j,D,T',rfl,rfl,hj,hs,hC,⟨R,rfl⟩,hcl2⟩;have htl:=(hs.rows 0 rfl (by omega)).ln;have hle:=hC.le;have hDl:=hC.len;refine sBi (fun c3=>?_) (fun c3=>?_)
   .refine (hrow.ext hs.ext).nbI (by omega) (by omega) fun b38 o39 y g38 t38=>?_;replace g38:(quietL g.es role v.toNat)[j]?=some y:=g38;have hy:=hqb y (Yb g38);refine⟨_,t38.hd,⟨by omega,by omega⟩,?_⟩;obtain⟨z,hz⟩:=get_some (l:=D) (i:=y.toNat) (by omega);have e0:0+Int.toNat y*1=y.toNat:=by omega
    rw[e0];refine⟨_,hs.rd 1 rfl (by rw[map_get,hz];rfl),?_⟩;refine sB_intro (fun c4=>?_) (fun c4=>?_)
    .have hzf:z=false:=bF c4;subst hzf;refine⟨⟨by omega,by omega⟩,?_⟩;refine hs.put 1 rfl (o:=y.toNat) (vs:=[.bool true]) rfl (by rw[Yc,Yv];omega) fun h42 hs=>?_;refine hs.app 0 rfl app42 (m:=1) [[.int .i64 y]] rfl rfl (by simp) rfl (by omega) (by simp only[maxLen];omega) fun s44 h45 ns44 hs=>?_;have hqr:Qr g.es role l y:=by
      obtain⟨e,he,h9,h10,rfl⟩:=quietL_mem.1 (Yb g38);exact .step (hC.r v (by rw[Yk];exact .inl (Yb g26))) ⟨e,he,h9,by omega,rfl⟩
     refine⟨_,by omega,j+1,D.set y.toNat true,T++R++[y],by rw[w64 (by omega) (by omega)];omega,rfl,by omega,?_,hC.push hy.1 hz hqr,⟨R++[y],by rw[Yz]⟩,fun x hx=>?_⟩
     .rw[Ym,<-map_splice _ (by omega)];exact hs
     .rw[take_snoc g38] at hx;rw[Yk] at hx ⊢;exact hx.imp (hcl2 x) id
    .have hzt:z=true:=bT c4;subst hzt;refine⟨_,by omega,j+1,D,T++R,by rw[w64 (by omega) (by omega)];omega,rfl,by omega,hs,hC,⟨R,rfl⟩,fun x hx=>?_⟩;rw[take_snoc g38,Yk,Ye] at hx;rcases hx with hx | rfl
     .exact hcl2 x hx
     .exact (hC.mem x).2 ⟨hy.1,hz⟩
   .rw[Yj (by omega)] at hcl2;have hil:=(Ya.1 g26).1;rw[Yh] at hle;refine⟨_,by omega,i+1,D,T++R,by rw[w64 (by omega) (by omega)];omega,rfl,by rw[Yh];omega,hs,hC,fun x hx=>by rw[Yk];exact .inl (hlT x hx),fun w hw b hb=>?_⟩;rw[Yyq (by omega),take_snoc g26,Yk,Ye] at hw;rcases hw with hw | rfl
    .rw[Yk];exact .inl (hcl w hw b hb)
    .exact hcl2 b hb
  .rw[Yj (by omega)] at hcl;refine (make55 T todo_22 h24 (hs.rows 0 rfl (by omega)) (by omega)).mono ?_;rintro _ h51 ⟨E,c,k,ws,rfl,hc,ho,hS⟩;refine⟨⟨some ⟨c,0,none⟩,k,k⟩,rfl,(hs.step E).ext,c,k,ws,rfl,Yys hs.ext.1 hc,ho,hS.congr ?_⟩
   funext j
   rw[Bool.eq_iff_iff,decide_eq_true_eq,clo_iff,hC.end_ hlT hcl];refine⟨fun h=>h.1,fun h=>⟨h,?_⟩⟩;have:=(hC.mem (j:Int)).1 ((hC.end_ hlT hcl _).2 h);have h9:=(Ya.1 this.2).1;have h10:=hC.len;omega
theorem evrows (L:List Ev):∀r∈L.map Ev.cs,r.length=3:=fun r hr=>by obtain⟨x,_,rfl⟩:=Yp.1 hr;rfl
theorem app151:appB Pz 127 140 3 24=true:=by kernel_rfl
theorem nan151 (x:Int) (h:Heap):Fn Pz 111 #[.int .i64 x] h fun v h'=>v=.bool false/\h'=h:=by
 apply vc111;unfold W111;exact⟨by rw[bne_self_eq_false],rfl⟩
theorem cmp110 (x y:Int) (h:Heap):Fn Pz 54 #[.int .i64 x,.int .i64 y] h fun v h'=>v=.int .i64 (cmpI x y)/\h'=h:=by
 apply vc54;unfold W54;refine (nan151 x h).mono ?_;rintro _ _ ⟨rfl,rfl⟩;refine⟨_,rfl,?_⟩;refine (nan151 y _).mono ?_;rintro _ _ ⟨rfl,rfl⟩;refine⟨_,rfl,?_⟩;refine sB_f rfl (sB_f rfl ?_);unfold cmpI;refine sBi (fun c=>?_) (fun c=>sBi (fun d=>?_) (fun d=>?_))
 .exact⟨by rw[if_pos c],rfl⟩
 .exact⟨by rw[if_neg c,if_pos d],rfl⟩
 .exact⟨by rw[if_neg c,if_neg d],rfl⟩
theorem or109 (l:List Int) (s:Sl) (h:Heap) (hr:Rw h 1 s (l.map inC)) (hm:l.length<=1048576) :
  Fn Pz 53 #[.slice s.a s.n s.c] h fun v h'=>v=.int .i64 (l.foldr orI3 0)/\h'=h:=by
 apply vc53;unfold W53;have hn:=hr.ln;refine up_loop (n:=s.n) (fun i h'=>h'=h/\l.foldr orI3 0=(l.drop i).foldr orI3 0) ⟨rfl,rfl⟩ ?_;rintro-i h5 hi ⟨rfl,hq⟩;refine sB_intro (fun l2=>?_) (fun l2=>?_)
 .replace l2:=lt_t l2;refine hr.nbI (by omega) (by omega) fun b o d g t=>?_;replace g:l[i]?=some d:=g;have hd:l.drop i=d::l.drop (i+1):=by
   obtain⟨hl,he⟩:=Ya.1 g;rw[List.drop_eq_getElem_cons hl,he]
  rw[hd,List.foldr_cons] at hq;refine⟨_,t.hd,?_⟩;refine sBn (fun c=>?_) (fun c=>?_)
  .refine⟨?_,rfl⟩;rw[hq];unfold orI3;rw[if_pos c]
  .refine Up.next l2 (by omega) ⟨rfl,?_⟩;rw[hq];unfold orI3;rw[if_neg (by omega)]
 .replace l2:=lt_f l2;rw[List.drop_eq_nil_of_le (by omega)] at hq;exact⟨by rw[hq];rfl,rfl⟩
theorem compare138 (x y:Ev) (h:Heap):Fn Pz 125 #[.agg ⟨x.cs⟩,.agg ⟨y.cs⟩] h fun v h'=>v=.int .i64 (cmpE x y)/\Ext h h':=by
 apply vc125 x.send x.peer x.label y.send y.peer y.label;unfold W125;have hs:=St.refl h;refine hs.newb fun h7 hs=>?_;refine hs.newb fun h8 hs=>?_;refine⟨_,hs.rd 1 rfl rfl,?_⟩;refine⟨_,hs.rd 0 rfl rfl,?_⟩;refine sB_intro (fun c=>?_) (fun c=>?_)
 .have hne:x.send≠y.send:=by simpa using c
  refine⟨_,hs.rd 1 rfl rfl,?_⟩;unfold cmpE;rw[if_pos hne];refine sB_intro (fun d=>?_) (fun d=>?_)
  .exact⟨by rw[if_pos d],hs.ext⟩
  .exact⟨by rw[if_neg (by rw[d];simp)],hs.ext⟩
 .have he:x.send=y.send:=by simpa using c
  refine⟨_,hs.rd 1 rfl rfl,_,hs.rd 0 rfl rfl,_,hs.rd 1 rfl rfl,_,hs.rd 0 rfl rfl,?_⟩;refine (cmp110 _ _ _).mono ?_;rintro _ _ ⟨rfl,rfl⟩;refine⟨_,rfl,fun _ _ _ _ hv=>hv,?_⟩;refine (cmp110 _ _ _).mono ?_;rintro _ _ ⟨rfl,rfl⟩;refine⟨_,rfl,fun _ _ _ _ hv=>hv,?_⟩;refine hs.newb fun h22 hs=>?_;have hs2:=hs.blkS 2 1 ([cmpI x.peer y.peer,cmpI x.label y.label].map inC) rfl (inrows _) rfl (by decide);refine (or109 [cmpI x.peer y.peer,cmpI x.label y.label] _ h22 (hs2.rows 0 rfl (by omega)) (show 2<=1048576 by decide)).mono ?_;rintro _ _ ⟨rfl,rfl⟩;refine⟨_,rfl,?_,hs.ext⟩;unfold cmpE;rw[if_neg (by simpa using he)];show Value.int .i64 (orI3 _ (orI3 _ 0))=_;congr 1;unfold orI3;split
  .rfl
  .split<;>omega
theorem elems_snoc {α:Type} {f:Nat->List α} (L:List Nat) {i:Nat} {n:Nat} (h:L[i]?=some n):(L.take (i+1)).flatMap f=(L.take i).flatMap f++f n:=by
 rw[take_snoc h,List.flatMap_append,List.flatMap_singleton]
theorem vis_total (es:List Ed) (role:Int):∀(l:List Nat),l.Nodup->(l.flatMap fun n=>visL es role n).length<=es.length
 | l,hl=>by
  induction es with
  | nil=>
   have key:∀l:List Nat,(l.flatMap fun n=>visL [] role n)=[]:=by
    intro l
    induction l with
    | nil=>rfl
    | cons a l ih=>rw[List.flatMap_cons,ih];rfl
   rw[key];exact Yyt _
  | cons x es ih=>
   have h1:∀n,(visL (x::es) role n).length=(visL es role n).length+(if x.f=(n:Int) then (if (vis1 role x).isSome then 1 else 0) else 0):=fun n=>by
    unfold visL;rw[List.filterMap_cons];by_cases h:x.f=(n:Int)
    .rw[if_pos h,if_pos h];cases vis1 role x<;>simp
    .rw[if_neg h,if_neg h];rfl
   have h2:∀l:List Nat,l.Nodup->(l.flatMap fun n=>visL (x::es) role n).length<=(l.flatMap fun n=>visL es role n).length+1:=by
    intro l hl;have h3:∀l:List Nat,l.Nodup->(l.flatMap fun n=>visL (x::es) role n).length<=(l.flatMap fun n=>visL es role n).length+(if x.f.toNat∈l then 1 else 0):=by
     intro l
     induction l with
     | nil=>simp
     | cons a l ihl=>
      intro hnd;obtain⟨hna,hnd⟩:=List.nodup_cons.1 hnd;have h4:=ihl hnd;rw[List.flatMap_cons,List.flatMap_cons,Yh,Yh,h1];by_cases hx:x.f=(a:Int)
      .have hxa:x.f.toNat=a:=by omega
       rw[hxa,if_neg hna] at h4;rw[if_pos hx,hxa,if_pos (Yx:a∈a::l)];split<;>omega
      .rw[if_neg hx];have:(if x.f.toNat∈l then 1 else 0)<=(if x.f.toNat∈a::l then 1 else 0):=by
        split
        .rw[if_pos (by simp_all)];omega
        .omega
       omega
    have:=h3 l hl;split at this<;>omega
   have:=h2 l hl;rw[Yyj];omega
theorem elems_nodup (p:Nat->Bool):(elems p).Nodup:=List.Nodup.sublist List.filter_sublist List.nodup_range
theorem take_flat_le {es:List Ed} {role:Int} {p:Nat->Bool} (i j n:Nat) (h:(elems p)[i]?=some n):(((elems p).take i).flatMap (visL es role)).length+((visL es role n).take j).length<=es.length:=by
 have h1:=vis_total es role ((elems p).take (i+1)) ((elems_nodup p).sublist (List.take_sublist _ _));rw[elems_snoc (f:=visL es role) _ h,Yh] at h1;rw[Yu];omega
theorem flat_map_len {α β:Type} (L:List Nat) (f:Nat->List α) (g:α->β):(L.flatMap fun n=>(f n).map g).length=(L.flatMap f).length:=by
 induction L with
 | nil=>rfl
 | cons a L ih=>rw[List.flatMap_cons,List.flatMap_cons,Yh,Yh,ih,Yc]
theorem flat_filter_len {α β:Type} (L:List Nat) (f:Nat->List α) (g:α->Option β):(L.flatMap fun n=>(f n).filterMap g).length<=(L.flatMap f).length:=by
 induction L with
 | nil=>simp
 | cons a L ih=>
  rw[List.flatMap_cons,List.flatMap_cons,Yh,Yh];have:=List.length_filterMap_le g (f a);omega
theorem elems_get {p:Nat->Bool} {i:Nat} {d:Int} (g:((elems p).map fun n:Nat=>(n:Int))[i]?=some d):∃n:Nat,(elems p)[i]?=some n/\d=n:=by
 rw[Yd] at g;obtain⟨n,hn,rfl⟩:=Yya.1 g;exact⟨n,hn,rfl⟩
theorem range_get {n k d:Nat} (g:(List.range n)[k]?=some d):d=k:=by
 have hl:=(Ya.1 g).1;rw[Yyd] at hl;rw[Yyb hl] at g;exact (Yyp g).symm
theorem events87 (g:Gl) (role:Int) (b:Nat) (p:Nat->Bool) (s:Sl) (h:Heap) (hl:LkI h ⟨b,0,none⟩ g role) (hV:ValidS g) (hx:Gx h) (hs0:SetV h s p) (hp:∀j,p j=true->(j:Int)<g.n) :
  Fn Pz 66 #[.pointer (some ⟨b,0,none⟩),.slice s.a s.n s.c] h fun v h'=>Ext h h'/\∃r:Sl,v=.slice r.a r.n r.c/\OwnS h' h.size 140 3 r ((evs g.es role p).map Ev.cs).flatten:=by
 apply vc66;unfold W66;have hs:=St.refl h;have hm4:=hV.num.m;obtain⟨hq,hv,qs,vs,h1,h2,h3,h4,h5,h6,h7,h8⟩:=hl.ex;clear hl;refine (list42 p s h hx hs0).mono ?_;rintro _ hA ⟨EA,lst,rfl,ho⟩;replace hs:=hs.gift EA ho (inrows _);refine⟨_,rfl,?_⟩;have hln:=(hs.rows 0 rfl (by omega)).ln;rw[Yc] at hln;have hel:(elems p).length<=4096:=Yys (List.length_filter_le _ _) (by rw[Yyd];omega);have hs:=hs.nil_ 140 3;refine up_loopA (n:=lst.n) hs (fun i rows=>rows=(((elems p).take i).flatMap fun n=>(visL g.es role n).map (·.x)).map Ev.cs) rfl ?_;rintro-i out h9 rows hi hs rfl;refine sB_intro (fun l=>?_) (fun l=>?_)
 .replace l:=lt_t l;refine (hs.rows 1 rfl (by omega)).nbI (by omega) (by omega) fun b10 o11 d10 g10 t10=>?_;obtain⟨n,hn,rfl⟩:=elems_get (i:=i) g10;refine⟨_,t10.hd,?_⟩;have hpn:=hp n (elems_mem.1 (Yb hn)).2;refine⟨_,(atC_ext hs.ext h2).nth 10 rfl,?_⟩;refine (h6.ext hs.ext).nbI (by omega) (by omega) fun b14 o15 k g14 t14=>?_;have hk:=range_get g14;rw[show ((n:Int)).toNat=n from rfl] at hk;subst hk;refine⟨_,t14.hd,?_⟩;have hrow:=h8 k (by omega);have hrn:=hrow.ln;have hvl:(visL g.es role k).length<=g.es.length:=List.length_filterMap_le _ _;refine up_loopA (n:=(vs k).n) hs (fun j rows=>rows=((((elems p).take i).flatMap fun n=>(visL g.es role n).map (·.x))++((visL g.es role k).take j).map (·.x)).map Ev.cs) (by simp) ?_;rintro-j out2 h22 rows2 hj hs rfl;refine sB_intro (fun l2=>?_) (fun l2=>?_)
  .replace l2:=lt_t l2;refine (hrow.ext hs.ext).nbI (by omega) (by omega) fun b23 o24 a g23 t23=>?_;replace g23:(visL g.es role k)[j]?=some a:=g23;refine⟨_,_,_,_,t23,?_⟩;refine hs.newput (vs:=a.cs) rfl rfl fun h30 hs=>?_;refine⟨_,_,_,hs.at 0 rfl (n:=3) rfl,?_⟩;have hlen:=(hs.len 1 rfl (by omega)).1;rw[Yc,Yh,Yc,flat_map_len] at hlen;have hle:=take_flat_le (es:=g.es) (role:=role) i j k hn;refine hs.app 1 rfl app151 (m:=1) [a.x.cs] rfl rfl (fun r hr=>by rw[Ye] at hr;rw[hr];rfl) rfl (by omega) (by simp only[maxLen];omega) fun s35 h36 ns35 hs=>?_;refine UpA.next l2 (by omega) ⟨_,hs.drop 1,?_⟩;rw[take_snoc g23,Ym,Ym,Ym,Ym,Yz];rfl
  .replace l2:=lt_f l2;refine UpA.next l (by omega) ⟨_,hs,?_⟩;rw[Yj (l:=visL g.es role k) (by omega),elems_snoc _ hn]
 .replace l:=lt_f l;rw[Yj (by omega)] at hs;have hvt:((elems p).flatMap fun n=>(visL g.es role n).map (·.x)).length<=1048576:=by
   rw[flat_map_len];exact Yys (vis_total g.es role (elems p) (elems_nodup p)) (by omega)
  refine (sort137 hs 0 rfl hvt).mono ?_;rintro _ h40 ⟨rfl,l',hperm,hsrt,hs⟩;refine⟨rfl,?_⟩;refine (compact139 hs 0 rfl (by rw[hperm.length_eq];exact hvt)).mono ?_;rintro _ h43 ⟨r,rfl,hs⟩;refine⟨_,rfl,hs.ext,r,rfl,?_⟩;have:=hs.give 0 rfl;rw[compact_sortE hperm hsrt] at this;exact this
theorem after56 (g:Gl) (role:Int) (b:Nat) (p:Nat->Bool) (x:Ev) (s:Sl) (h:Heap) (hl:LkI h ⟨b,0,none⟩ g role) (hV:ValidS g) (hx:Gx h) (hs0:SetV h s p) (hp:∀j,p j=true->(j:Int)<g.n) :
  Fn Pz 75 #[.pointer (some ⟨b,0,none⟩),.slice s.a s.n s.c,.agg ⟨x.cs⟩] h fun v h'=>Ext h h'/\∃(c k:Nat) (ws:List Nat),v=.slice (some ⟨c,0,none⟩) k k/\h.size<=c/\Own h' c (ws.map wC).flatten 144/\SI ws k (clo g.es role (toL g.es role p x)):=by
 apply vc75 ⟨b,0,none⟩ s x.send x.peer x.label;unfold W75;have hs:=St.refl h;have hm4:=hV.num.m;have hE:=hV.num.e;have hl0:=hl;obtain⟨hq,hv,qs,vs,h1,h2,h3,h4,h5,h6,h7,h8⟩:=hl.ex;clear hl;refine hs.newb fun h4' hs=>?_;refine (list42 p s h4' (hx.ext hs.ext) (hs0.ext hs.ext)).mono ?_;rintro _ hA ⟨EA,lst,rfl,ho⟩;replace hs:=hs.gift EA ho (inrows _);refine⟨_,rfl,?_⟩;have hln:=(hs.rows 0 rfl (by omega)).ln;rw[Yc] at hln;have hel:(elems p).length<=4096:=Yys (List.length_filter_le _ _) (by rw[Yyd];omega);have hs:=hs.nil_ 3 1;refine up_loopA (n:=lst.n) hs (fun i rows=>rows=(((elems p).take i).flatMap fun n=>(visL g.es role n).filterMap fun a=>if a.x=x then some a.to else none).map inC) rfl ?_;rintro-i out h13 rows hi hs rfl;refine sB_intro (fun l=>?_) (fun l=>?_)
 .replace l:=lt_t l;refine (hs.rows 1 rfl (by omega)).nbI (by omega) (by omega) fun b10 o11 d10 g10 t10=>?_;obtain⟨n,hn,rfl⟩:=elems_get (i:=i) g10;refine⟨_,t10.hd,?_⟩;have hpn:=hp n (elems_mem.1 (Yb hn)).2;refine⟨_,(atC_ext hs.ext h2).nth 10 rfl,?_⟩;refine (h6.ext hs.ext).nbI (by omega) (by omega) fun b14 o15 k g14 t14=>?_;have hk:=range_get g14;rw[show ((n:Int)).toNat=n from rfl] at hk;subst hk;refine⟨_,t14.hd,?_⟩;have hrow:=h8 k (by omega);have hrn:=hrow.ln;have hvl:(visL g.es role k).length<=g.es.length:=List.length_filterMap_le _ _;refine up_loopA (n:=(vs k).n) hs (fun j rows=>rows=((((elems p).take i).flatMap fun n=>(visL g.es role n).filterMap fun a=>if a.x=x then some a.to else none)++((visL g.es role k).take j).filterMap fun a=>if a.x=x then some a.to else none).map inC) (by simp) ?_;rintro-j out2 h26 rows2 hj hs rfl;refine sB_intro (fun l2=>?_) (fun l2=>?_)
  .replace l2:=lt_t l2;refine (hrow.ext hs.ext).nbI (by omega) (by omega) fun b23 o24 a g23 t23=>?_;replace g23:(visL g.es role k)[j]?=some a:=g23;refine⟨_,_,_,_,t23,?_⟩;refine hs.newput (vs:=a.cs) rfl rfl fun h30 hs=>?_;refine⟨_,_,_,hs.at 0 rfl (n:=3) rfl,?_⟩;refine⟨_,_,_,hs.at 3 rfl (n:=3) rfl,?_⟩;have hdec:((a.x.send==x.send)&&((a.x.peer==x.peer)&&((a.x.label==x.label)&&true)))=decide (a.x=x):=by
    rw[Bool.eq_iff_iff,decide_eq_true_eq];simp only[Yt,beq_iff_eq,and_true];exact⟨fun ⟨e1,e2,e3⟩=>ev_ext e1 e2 e3,fun e=>by rw[e];exact⟨rfl,rfl,rfl⟩⟩
   rw[hdec];have hlen:=(hs.len 1 rfl (by omega)).1;rw[Yc,Yh] at hlen;have hf1:=flat_filter_len ((elems p).take i) (visL g.es role) (fun a:Ar=>if a.x=x then some a.to else none);have hf2:=List.length_filterMap_le (fun a:Ar=>if a.x=x then some a.to else none) ((visL g.es role k).take j);have hle:=take_flat_le (es:=g.es) (role:=role) i j k hn;refine sBi (fun c=>?_) (fun c=>?_)
   .refine⟨_,hs.rd 0 rfl rfl,?_⟩;refine hs.app 1 rfl app42 (m:=1) [inC a.to] rfl rfl (fun r hr=>by rw[Ye] at hr;rw[hr];rfl) rfl (by omega) (by simp only[maxLen];omega) fun s35 h36 ns35 hs=>?_;refine UpA.next l2 (by omega) ⟨_,hs.drop 1,?_⟩;rw[take_snoc g23,List.filterMap_append,Ym,Ym,Ym,Yz];simp[c]
   .refine UpA.next l2 (by omega) ⟨_,hs.drop 1,?_⟩;rw[take_snoc g23,List.filterMap_append];simp[c]
  .replace l2:=lt_f l2;refine UpA.next l (by omega) ⟨_,hs,?_⟩;rw[Yj (l:=visL g.es role k) (by omega),elems_snoc _ hn]
 .replace l:=lt_f l;rw[Yj (by omega)] at hs;have hf1:=flat_filter_len (elems p) (visL g.es role) (fun a:Ar=>if a.x=x then some a.to else none);have hf2:((elems p).flatMap (visL g.es role)).length<=g.es.length:=vis_total g.es role (elems p) (elems_nodup p);refine (closed53 g role b (toL g.es role p x) out h13 (hl0.ext hs.ext) hV (hs.rows 0 rfl (by omega)) (fun y hy=>?_) (by unfold toL;omega)).mono ?_
  .unfold toL at hy;obtain⟨n,_,hy⟩:=List.mem_flatMap.1 hy;obtain⟨a,ha,hy⟩:=Yym.1 hy;unfold visL at ha;obtain⟨e,he,ha⟩:=Yym.1 ha;have hEe:=hE e he;unfold EdS at hEe;split at ha
   .obtain⟨ev,_,rfl⟩:=Yya.1 ha;split at hy
    .have:e.t=y:=Yyp hy;omega
    .cases hy
   .cases ha
  .rintro _ h50 ⟨E,c,k,ws,rfl,hc,ho,hS⟩;exact⟨⟨some ⟨c,0,none⟩,k,k⟩,rfl,(hs.step E).ext,c,k,ws,rfl,Yys hs.ext.1 hc,ho,hS⟩
def aC (role:Int) (x:Ev):List Value:=[.int .i64 role,.bool x.send,.int .i64 x.peer,.int .i64 x.label,.slice none 0 0]
theorem app56:appB Pz 57 33 5 56=true:=by kernel_rfl
theorem full194 (x:Ev) (role:Int) (h:Heap):Fn Pz 123 #[.agg ⟨x.cs⟩,.int .i64 role] h fun v h'=>v=.agg ⟨aC role x⟩/\Ext h h':=by
 apply vc123 x.send x.peer x.label role;unfold W123;have hs:=St.refl h;refine hs.newb fun h4 hs=>?_;refine hs.newb fun h5 hs=>?_;refine⟨_,hs.rd 1 rfl rfl,?_⟩;refine⟨_,hs.rd 1 rfl rfl,?_⟩;refine⟨_,hs.rd 1 rfl rfl,?_⟩;refine hs.put 0 rfl (o:=0) (vs:=aC role x) rfl (show 5<=5 by decide) fun h9 hs=>?_;refine⟨_,_,_,_,⟨none,0,0⟩,hs.at 0 rfl (n:=5) rfl,rfl,hs.ext⟩
theorem full140 (g:Gl) (role:Int) (b:Nat) (l:List Ev) (s:Sl) (h:Heap) (hl:LkI h ⟨b,0,none⟩ g role) (hr:Rw h 3 s (l.map Ev.cs)) (hm:l.length<=1048576) :
  Fn Pz 65 #[.pointer (some ⟨b,0,none⟩),.slice s.a s.n s.c] h fun v h'=>Ext h h'/\∃r:Sl,v=.slice r.a r.n r.c/\OwnS h' h.size 33 5 r ((l.map (aC role)).flatten):=by
 apply vc65;unfold W65;have hs:=(St.refl h).nil_ 33 5;have hn:=hr.ln;obtain⟨hq,hv,qs,vs,h1,h2,_⟩:=hl.ex;refine up_loopA (n:=s.n) hs (fun i rows=>rows=(l.take i).map (aC role)) rfl ?_;rintro-i out h6 rows hi hs rfl;refine sB_intro (fun l2=>?_) (fun l2=>?_)
 .replace l2:=lt_t l2;refine (hr.ext hs.ext).nbI (by omega) (by omega) fun b7 o8 x g7 t7=>?_;replace g7:l[i]?=some x:=g7;refine⟨_,_,_,t7,?_⟩;refine hs.newput (vs:=x.cs) rfl rfl fun h13 hs=>?_;refine⟨_,_,_,hs.at 0 rfl (n:=3) rfl,?_⟩;refine⟨_,(atC_ext hs.ext h2).nth 8 rfl,?_⟩;refine (full194 x role h13).mono ?_;rintro _ h24 ⟨rfl,E⟩;replace hs:=hs.step E;refine⟨_,_,_,_,⟨none,0,0⟩,rfl,?_⟩;have hlen:=(hs.len 1 rfl (by omega)).1;rw[Yc,Yu] at hlen;refine hs.app 1 rfl app56 (m:=1) [aC role x] rfl rfl (fun r hr=>by rw[Ye] at hr;rw[hr];rfl) rfl (by omega) (by simp only[maxLen];omega) fun s26 h27 ns hs=>?_;refine UpA.next l2 (by omega) ⟨_,hs.drop 1,?_⟩;rw[take_snoc g7,Ym];rfl
 .replace l2:=lt_f l2;rw[Yj (by omega)] at hs;exact⟨hs.ext,out,rfl,hs.give 0 rfl⟩
theorem Qr.lt {g:Gl} {role:Int} {l:List Int} (hV:ValidS g) (hl:∀x∈l,0<=x/\x<g.n) {a:Int} (h:Qr g.es role l a):0<=a/\a<g.n:=by
 induction h with
 | base hm=>exact hl _ hm
 | step _ hx _=>
  obtain⟨x,hx,_,_,rfl⟩:=hx;have:=hV.num.e x hx;unfold EdS at this;omega
theorem clo_lt {g:Gl} {role:Int} {l:List Int} (hV:ValidS g) (hl:∀x∈l,0<=x/\x<g.n) (j:Nat) (h:clo g.es role l j=true):(j:Int)<g.n:=((clo_iff.1 h).lt hV hl).2
theorem St.giftB {h0 h h':Heap} {L:List It} (hs:St h0 h L) (E:Ext h h') {c:Nat} {ws:List Nat} (hc:h.size<=c) (ho:Own h' c (ws.map wC).flatten 144):St h0 h' (setB c ws::L):=
 hs.more E (i:=setB c ws) ho fun b hb=>by cases hb;exact hc
theorem evs_le (es:List Ed) (role:Int) (p:Nat->Bool):(evL es role p).length<=es.length:=by
 unfold evL;rw[flat_map_len];exact vis_total es role (elems p) (elems_nodup p)
theorem insE_len (x:Ev):∀l:List Ev,(insE x l).length<=l.length+1
 | []=>by simp[insE]
 | y::r=>by
  rw[insE];split
  .have:=insE_len x r;simp only[Yyj];omega
  .split<;>simp
theorem sortE_len (l:List Ev):(sortE l).length<=l.length:=by
 unfold sortE
 induction l with
 | nil=>simp
 | cons a l ih=>rw[List.foldr_cons,Yyj];have:=insE_len a (l.foldr insE []);omega
noncomputable def firstE (g:Gl) (role:Int) (st:Int):List Ev:=evs g.es role (clo g.es role [st])
noncomputable def firstB (g:Gl) (role:Int) (st:Int):Bool:=clo g.es role [st] g.e.toNat
theorem first88 (g:Gl) (role st:Int) (h:Heap) (hg:GI h g) (hx:Gx h) (hV:ValidS g) (hr0:0<=role) (hr1:role<g.rs.length) (hs0:0<=st) (hs1:st<g.n) :
  Fn Pz 29 #[g.v,.int .i64 role,.int .i64 st] h fun v h'=>Ext h h'/\∃r:Sl,v=.tuple ⟨[.slice r.a r.n r.c,.bool (firstB g role st),.int .i64 0]⟩/\OwnS h' h.size 33 5 r (((firstE g role st).map (aC role)).flatten):=by
 apply vc29 (bs g.nm) g.hr g.hd g.n g.s g.e g.he g.ht;unfold W29;have hs:=St.refl h;have hN:=hV.num.n;refine hs.newb fun h9 hs=>?_;refine⟨_,_,_,_,_,_,_,_,hs.at 0 rfl (n:=8) rfl,?_⟩;refine (look52 g role h9 (hg.ext hs.ext) (hx.ext hs.ext)).mono ?_;rintro _ h21 ⟨E21,h1 | h1⟩
 .exact absurd ⟨hV,hr0,hr1⟩ h1.1
 obtain⟨_,b,hb,rfl,hl⟩:=h1;replace hs:=hs.step E21;refine⟨_,_,rfl,?_⟩;refine sBn (fun c1=>absurd rfl c1) (fun _=>?_);refine sBi (fun c2=>by omega) (fun c2=>?_);refine⟨_,hs.rd 0 rfl rfl,?_⟩;refine sBi (fun c3=>by omega) (fun c3=>?_);refine hs.newbE fun h23 E23 hs=>?_;have hl2:∀x∈[st],0<=x/\x<g.n:=fun x hx=>by rw[Ye] at hx;omega
 have hsl:=hs.blkS 1 1 ([st].map inC) rfl (inrows _) rfl (by decide);refine (closed53 g role b [st] _ h23 (hl.ext E23) hV (hsl.rows 0 rfl (by omega)) hl2 (show 1<=1048576 by decide)).mono ?_;rintro _ h26 ⟨E26,c,k,ws,rfl,hc,ho,hS⟩;replace hs:=hs.giftB E26 hc ho;refine⟨⟨some ⟨c,0,none⟩,k,k⟩,rfl,?_⟩;refine⟨_,hs.rd 2 rfl rfl,?_⟩;refine (events87 g role b _ _ h26 (hl.ext (E23.trans E26)) hV (hx.ext hs.ext) (hS.v ho k) (clo_lt hV hl2)).mono ?_;rintro _ h30 ⟨E30,r,rfl,hor⟩;have hs0:=hs;replace hs:=hs.gift E30 hor (evrows _);refine⟨r,rfl,E30.sm,?_⟩;refine (full140 g role b _ r h30 (hl.ext ((E23.trans E26).trans E30)) (hs.rows 0 rfl (by omega)) (by
  have:=sortE_len (evL g.es role (clo g.es role [st]));have:=evs_le g.es role (clo g.es role [st]);have:=hV.num.m;show (sortE _).length<=_;omega)).mono ?_
 rintro _ h33 ⟨E33,r2,rfl,ho2⟩;refine⟨r2,rfl,E33.sm,?_⟩;refine (has29 (clo g.es role [st]) ⟨some ⟨c,0,none⟩,k,k⟩ g.e h33 ((hS.v ho k).ext (E30.trans E33))).mono ?_;rintro _ _ ⟨rfl,rfl⟩;refine⟨_,rfl,(hs.step E33).ext,r2,?_,ho2.mono hs.ext.1⟩;rw[decide_eq_true (by omega),Bool.true_and];rfl
structure SE where
 b:Nat
 k:Nat
 ws:List Nat
 p:PSet
def SE.hd (e:SE):List Value:=[.slice (some ⟨e.b,0,none⟩) e.k e.k]
def SE.s (e:SE):Sl:=⟨some ⟨e.b,0,none⟩,e.k,e.k⟩
def SE.it (e:SE):It:=setB e.b e.ws
def bC (b:Bool):List Value:=[.bool b]
theorem St.join {h0 h1 h:Heap} {L1q L2q:List It} (hs1:St h0 h1 L1q) (hs2:St h1 h L2q):St h0 h (L1q++L2q):=by
 have h3:=hs1.step hs2.ext;refine⟨h3.ext,fun i hi=>?_,List.pairwise_append.2 ⟨h3.ap,hs2.ap,fun i hi j hj b hb hc=>?_⟩⟩
 .rcases Yk.1 hi with hi | hi
  .exact h3.ok i hi
  .exact⟨(hs2.ok i hi).1,fun b hb=>Yys hs1.ext.1 ((hs2.ok i hi).2 b hb)⟩
 .have h4:=(hs1.ok i hi).1.lt hb;have h5:=(hs2.ok j hj).2 b hc;omega
theorem toL_lt {g:Gl} {role:Int} {p:PSet} {x:Ev} (hV:ValidS g):∀y∈toL g.es role p x,0<=y/\y<g.n:=by
 intro y hy;unfold toL at hy;obtain⟨n,_,h2⟩:=List.mem_flatMap.1 hy;obtain⟨a,ha,h3⟩:=Yym.1 h2;unfold visL at ha;obtain⟨e,he,h4⟩:=Yym.1 ha;have:=hV.num.e e he;unfold EdS at this;split at h4
 .rw[Yya] at h4;obtain⟨_,_,rfl⟩:=h4;split at h3
  .cases h3;show 0<=e.t/\e.t<g.n;omega
  .cases h3
 .cases h4
theorem drop_get {α:Type} {l:List α} {j:Nat} {x:α} (h:l[j]?=some x):l.drop j=x::l.drop (j+1):=by
 obtain⟨h1,h2⟩:=Ya.1 h;rw[<-h2];exact List.drop_eq_getElem_cons h1
theorem evs_len {g:Gl} {role:Int} {p:PSet} (hV:ValidS g):(evs g.es role p).length<=400:=by
 have h1:=sortE_len (evL g.es role p);have h2:=evs_le g.es role p;have h3:=hV.num.m;show (sortE _).length<=400;omega
theorem made4b (n:Nat):madeL Pz 4 n=((List.replicate n false).map bC).flatten:=by
 have e:zeroC Pz 4=[.bool false]:=by kernel_rfl
 unfold madeL;rw[e,List.map_replicate];rfl
theorem arows (role:Int) (L:List Ev):∀r∈L.map (aC role),r.length=5:=fun r hr=>by obtain⟨x,_,rfl⟩:=Yp.1 hr;rfl
theorem rangeG {n i k:Nat} (h:(List.range n)[i]?=some k):i=k/\i<n:=by
 obtain⟨h1,h2⟩:=Ya.1 h;rw[List.getElem_range] at h2;rw[Yyd] at h1;exact⟨h2,h1⟩
noncomputable def vwG (g:Gl) (role:Int):List Nat->Option Ti:=viewV (fun j:Nat=>firstE g role j) (fun j:Nat=>firstB g role j) (ownE g.es role g.n.toNat).1 (ownT g.es g.ts role g.n.toNat)
noncomputable def raw (g:Gl) (role:Int):Option Mch × Int:=
 if ¬(ValidS g/\0<=role/\role<g.rs.length) then (none,1) else
 match views g role with
 | none=>(none,6)
 | some (S,M)=>if M.length>400 then (none,6) else
  match rawL (vwG g role) 0 S M [] with
  | none=>(none,18)
  | some (M',L)=>(some ⟨role,S.length,0,S.map (fun p=>p g.e.toNat),M',L⟩,0)
def m0:List Value:=[.int .i64 0,.int .i64 0,.int .i64 0,.slice none 0 0,.slice none 0 0,.slice none 0 0]
def mC (m:Mch) (sf sm sl:Sl):List Value:=[.int .i64 m.role,.int .i64 m.n,.int .i64 m.s,.slice sf.a sf.n sf.c,.slice sm.a sm.n sm.c,.slice sl.a sl.n sl.c]
end Go.VC
end

section
namespace Go.VC
open Go.Proofs Go.Maps
theorem kl_int {P:Program} {d t:Nat} {q:IntKind} {n:Int} (hu:P.underlying t=some (.int q)) (hw:(Lit.int q n).wf=true):P.keyLits (d+1) t [.int q n]=some [.int q n]:=by simp[Program.keyLits,hu,hw]
theorem kl_struct {P : Program} {d t : Nat} {fs : Array Field} {cs : List Value} (hu : P.underlying t = some (.struct fs)) (hl : cs.length = P.cellsOf t) (hn : fs.all (·.name != "_") = true) {l : List (TypeId × Nat)} (hf : fs.toList.map (fun f => (f.type, f.offset)) = l)
  {r:List (List Lit)} (hr:l.mapM (fun q=>P.keyLits d q.1 ((cs.drop q.2).take (P.cellsOf q.1)))=some r):P.keyLits (d+1) t cs=some r.flatten:=by
 have e:fs.toList.mapM (fun f=>P.keyLits d f.type ((cs.drop f.offset).take (P.cellsOf f.type)))=some r:=by
  rw[<-hr,<-hf,List.mapM_map];rfl
 unfold Program.keyLits;simp only[hu];rw[if_pos ⟨hl,hn⟩,e];rfl
def inR (n:Int):Prop:=-9223372036854775808<=n/\n<=9223372036854775807
theorem inR.wf {n:Int} (h:inR n):(Lit.int .i64 n).wf=true:=by
 unfold Lit.wf;simp only[Yt,decide_eq_true_eq];have e1:IntKind.i64.min=-9223372036854775808:=by decide
 have e2:IntKind.i64.max=9223372036854775807:=by decide
 rw[e1,e2];exact h
theorem u3:Pz.underlying 3=some (.int .i64):=by kernel_rfl
theorem u4:Pz.underlying 4=some .bool:=by kernel_rfl
theorem su {P : Program} {t : Nat} {l : List (TypeId × Nat)} (h : (match P.underlying t with | some (.struct fs) => decide (fs.toList.map (fun f => (f.type, f.offset)) = l) && fs.all (·.name != "_") | _ => false) = true) :
  ∃ fs, P.underlying t = some (.struct fs) /\ fs.all (·.name != "_") = true /\ fs.toList.map (fun f => (f.type, f.offset)) = l := by
 split at h
 .rename_i fs hu;simp only[Yt,decide_eq_true_eq] at h;exact⟨fs,hu,h.2,h.1⟩
 .cases h
theorem c3:Pz.cellsOf 3=1:=by kernel_rfl
theorem c4:Pz.cellsOf 4=1:=by kernel_rfl
theorem laid25:laidOutB Pz=true:=by kernel_rfl
end Go.VC
end

section

end

section
namespace Go.VC
open Go.Proofs Go.LexS

def natV (c:Nat):Value:=.int .i64 (c:Int)
theorem getD_some {α:Type} {l:List α} {i:Nat} {d x:α} (h:l[i]?=some x):l.getD i d=x:=by rw[Yo,h];rfl
end Go.VC
end

section
namespace Go.VC

end Go.VC
end

section
namespace Go.VC
open Go.Proofs Go.LexS
theorem St.nestLn {α:Type} {h0 h:Heap} {A B:List It} {Q:List (Sl × List α)} {e:TypeId} {n:Nat} {cs:α->List Value} (hs:St h0 h (A++Q.map (nest e n cs)++B)) {i:Nat} {q:Sl × List α} (hi:Q[i]?=some q) (hn:0<n):Rw h n q.1 (q.2.map cs):=by
 have hil:i<(Q.map (nest e n cs)).length:=by rw[Yc];exact (Ya.1 hi).1
 exact hs.rw (A.length+i) (rows:=q.2.map cs) (by rw[get_mid hil,Yd,hi];rfl) hn
def natI (L:List Nat):List Int:=L.map fun c:Nat=>(c:Int)
theorem natI_snoc (L:List Nat) (c:Nat):natI (L++[c])=natI L++[(c:Int)]:=by unfold natI;rw[Ym];rfl
theorem natI_get {L:List Nat} {i:Nat} {d:Int} (h:(natI L)[i]?=some d):∃c:Nat,L[i]?=some c/\d=c:=by
 unfold natI at h;rw[Yd] at h;obtain⟨c,hc,rfl⟩:=Yya.1 h;exact⟨c,hc,rfl⟩
end Go.VC
end

section
namespace Go.VC
open Go.LexS

end Go.VC
end

section
namespace Go.VC
open Go.Proofs Go.LexS

end Go.VC
end

section
namespace Go.VC
open Go.LexS

end Go.VC
end

section
namespace Go.VC
open Go.Proofs Go.LexS
def exD (x:Nm):Dc:=⟨x,⟨none,0,0⟩,0,⟨none,0,0⟩,⟨none,0,0⟩,[],[],[]⟩
def exEs:Bool->List Ed
 | true=>[⟨0,0,1,0,1,false⟩,⟨0,0,1,1,2,false⟩,⟨1,1,2,0,3,false⟩,⟨2,1,2,1,4,false⟩,⟨3,2,1,2,5,false⟩,⟨4,2,1,3,5,false⟩]
 | false=>[⟨0,0,1,0,1,false⟩,⟨0,0,1,1,2,false⟩,⟨1,2,1,2,3,false⟩,⟨2,2,1,3,3,false⟩]
def exGl (b:Bool) (hr hd he ht:Sl):Gl:=⟨[101],hr,hd,if b then 6 else 4,0,if b then 5 else 3,he,ht,[[112],[113],[114]],[exD [97],exD [98],exD [99],exD [100]],exEs b,[]⟩
theorem edge70 (p0 p1 p2 p3 p4:Int) (h:Heap):Fn Pz 87 #[.int .i64 p0,.int .i64 p1,.int .i64 p2,.int .i64 p3,.int .i64 p4] h fun v h'=>v=.agg ⟨Ed.cs ⟨p0,p1,p2,p3,p4,false⟩⟩/\Ext h h':=by
 apply vc87;unfold W87;have hs:=St.refl h;refine hs.newput (vs:=Ed.cs ⟨p0,p1,p2,p3,p4,false⟩) rfl rfl fun h2 hs=>?_;exact⟨_,_,_,_,_,_,hs.at 0 rfl (n:=6) rfl,rfl,hs.ext⟩
theorem RL.none_ {α:Type} {h:Heap} {k:Nat} {cs:α->List Value}:RL h k ⟨none,0,0⟩ cs []:=⟨Rw.nil,Yyt _,fun _=>⟨rfl,rfl⟩,Nat.zero_le _⟩
theorem St.rl {α:Type} {h0 h:Heap} {L:List It} (hs:St h0 h L) (k:Nat) {s:Sl} {e:TypeId} {n:Nat} {cs:α->List Value} {l:List α} (hk:L[k]?=some (.sl s e n (l.map cs))) (hn:0<n) (hl:l.length<=1048576):RL h n s cs l:=by
 have:=hs.len k hk hn;exact⟨hs.rows k hk hn,this.2.1,this.2.2,hl⟩
theorem nmrows (L:List Nm):∀r∈L.map nmC,r.length=1:=fun r hr=>by obtain⟨x,_,rfl⟩:=Yp.1 hr;rfl
theorem dcrows (L:List Dc):∀r∈L.map Dc.cs,r.length=5:=fun r hr=>by obtain⟨x,_,rfl⟩:=Yp.1 hr;rfl
theorem edrows (L:List Ed):∀r∈L.map Ed.cs,r.length=6:=fun r hr=>by obtain⟨x,_,rfl⟩:=Yp.1 hr;rfl
theorem example34 (b:Bool) (h:Heap):Fn Pz 38 #[.bool b] h fun v h'=>Ext h h'/\∃hr hd he:Sl,v=(exGl b hr hd he ⟨none,0,0⟩).v/\GI h' (exGl b hr hd he ⟨none,0,0⟩):=by
 apply vc38;unfold W38 V38a;have hs:=St.refl h;refine hs.newb fun h1 hs=>?_;refine hs.newb fun h2 hs=>?_;have hs:=hs.blkS 3 1 ([[112],[113],[114]].map nmC) rfl (nmrows _) rfl (by decide);refine hs.newb fun h3 hs=>?_;have hs:=hs.blkS 4 5 ([exD [97],exD [98],exD [99],exD [100]].map Dc.cs) rfl (dcrows _) rfl (by decide);refine hs.newput (vs:=[.string (bs [101]),.slice (some ⟨h1.size,0,none⟩) 3 3,.slice (some ⟨h2.size,0,none⟩) 4 4,.int .i64 4,.int .i64 0,.int .i64 3,.slice none 0 0,.slice none 0 0]) rfl rfl fun h5 hs=>?_;refine (edge70 _ _ _ _ _ _).mono ?_;rintro _ _ ⟨rfl,E⟩;replace hs:=hs.step E;clear E;refine⟨_,_,_,_,_,_,rfl,?_⟩;refine (edge70 _ _ _ _ _ _).mono ?_;rintro _ _ ⟨rfl,E⟩;replace hs:=hs.step E;clear E;refine⟨_,_,_,_,_,_,rfl,?_⟩;refine (edge70 _ _ _ _ _ _).mono ?_;rintro _ _ ⟨rfl,E⟩;replace hs:=hs.step E;clear E;refine⟨_,_,_,_,_,_,rfl,?_⟩;refine (edge70 _ _ _ _ _ _).mono ?_;rintro _ _ ⟨rfl,E⟩;replace hs:=hs.step E;clear E;refine⟨_,_,_,_,_,_,rfl,?_⟩;refine hs.newb fun h38 hs=>?_;have hs:=hs.blkS 4 6 ((exEs false).map Ed.cs) rfl (edrows _) rfl (by decide);refine hs.put 1 rfl (o:=6) (vs:=[.slice (some ⟨_,0,none⟩) 4 4]) rfl (show 7<=8 by decide) fun h39 hs=>?_;cases b
 .refine sB_f rfl ?_;refine⟨_,⟨some ⟨h1.size,0,none⟩,3,3⟩,⟨some ⟨h2.size,0,none⟩,4,4⟩,_,_,_,⟨some ⟨_,0,none⟩,4,4⟩,⟨none,0,0⟩,hs.at 1 rfl (n:=8) rfl,?_⟩;refine hs.put 4 rfl (o:=0) (vs:=(exGl false ⟨some ⟨h1.size,0,none⟩,3,3⟩ ⟨some ⟨h2.size,0,none⟩,4,4⟩ ⟨some ⟨_,0,none⟩,4,4⟩ ⟨none,0,0⟩).cs) rfl (show 8<=8 by decide) fun h117 hs=>?_;refine⟨_,⟨some ⟨h1.size,0,none⟩,3,3⟩,⟨some ⟨h2.size,0,none⟩,4,4⟩,_,_,_,⟨some ⟨_,0,none⟩,4,4⟩,⟨none,0,0⟩,hs.at 4 rfl (n:=8) rfl,hs.ext,_,_,_,rfl,?_⟩;refine⟨hs.rl 3 rfl (by decide) (show 3<=1048576 by decide),⟨hs.rl 2 rfl (by decide) (show 4<=1048576 by decide),fun d hd=>?_⟩,hs.rl 0 rfl (by decide) (show 4<=1048576 by decide),RL.none_⟩;have hd:d∈[exD [97],exD [98],exD [99],exD [100]]:=hd;simp only[Yr,List.not_mem_nil,or_false] at hd;rcases hd with rfl | rfl | rfl | rfl<;>exact⟨RL.none_,RL.none_,RL.none_⟩
 .refine sB_t rfl ?_;refine hs.put 1 rfl (o:=3) (vs:=[.int .i64 6]) rfl (show 4<=8 by decide) fun h40 hs=>?_;refine hs.put 1 rfl (o:=5) (vs:=[.int .i64 5]) rfl (show 6<=8 by decide) fun h41 hs=>?_;refine (edge70 _ _ _ _ _ _).mono ?_;rintro _ _ ⟨rfl,E⟩;replace hs:=hs.step E;clear E;refine⟨_,_,_,_,_,_,rfl,?_⟩;refine (edge70 _ _ _ _ _ _).mono ?_;rintro _ _ ⟨rfl,E⟩;replace hs:=hs.step E;clear E;refine⟨_,_,_,_,_,_,rfl,?_⟩;refine (edge70 _ _ _ _ _ _).mono ?_;rintro _ _ ⟨rfl,E⟩;replace hs:=hs.step E;clear E;refine⟨_,_,_,_,_,_,rfl,?_⟩;refine (edge70 _ _ _ _ _ _).mono ?_;rintro _ _ ⟨rfl,E⟩;replace hs:=hs.step E;clear E;refine⟨_,_,_,_,_,_,rfl,?_⟩;refine (edge70 _ _ _ _ _ _).mono ?_;rintro _ _ ⟨rfl,E⟩;replace hs:=hs.step E;clear E;refine⟨_,_,_,_,_,_,rfl,?_⟩;refine (edge70 _ _ _ _ _ _).mono ?_;rintro _ _ ⟨rfl,E⟩;replace hs:=hs.step E;clear E;refine⟨_,_,_,_,_,_,rfl,?_⟩;refine hs.newb fun h90 hs=>?_;have hs:=hs.blkS 6 6 ((exEs true).map Ed.cs) rfl (edrows _) rfl (by decide);refine hs.put 2 rfl (o:=6) (vs:=[.slice (some ⟨_,0,none⟩) 6 6]) rfl (show 7<=8 by decide) fun h91 hs=>?_;refine⟨_,⟨some ⟨h1.size,0,none⟩,3,3⟩,⟨some ⟨h2.size,0,none⟩,4,4⟩,_,_,_,⟨some ⟨_,0,none⟩,6,6⟩,⟨none,0,0⟩,hs.at 2 rfl (n:=8) rfl,?_⟩;refine hs.put 5 rfl (o:=0) (vs:=(exGl true ⟨some ⟨h1.size,0,none⟩,3,3⟩ ⟨some ⟨h2.size,0,none⟩,4,4⟩ ⟨some ⟨_,0,none⟩,6,6⟩ ⟨none,0,0⟩).cs) rfl (show 8<=8 by decide) fun h117 hs=>?_;refine⟨_,⟨some ⟨h1.size,0,none⟩,3,3⟩,⟨some ⟨h2.size,0,none⟩,4,4⟩,_,_,_,⟨some ⟨_,0,none⟩,6,6⟩,⟨none,0,0⟩,hs.at 5 rfl (n:=8) rfl,hs.ext,_,_,_,rfl,?_⟩;refine⟨hs.rl 4 rfl (by decide) (show 3<=1048576 by decide),⟨hs.rl 3 rfl (by decide) (show 4<=1048576 by decide),fun d hd=>?_⟩,hs.rl 0 rfl (by decide) (show 6<=1048576 by decide),RL.none_⟩;have hd:d∈[exD [97],exD [98],exD [99],exD [100]]:=hd;simp only[Yr,List.not_mem_nil,or_false] at hd;rcases hd with rfl | rfl | rfl | rfl<;>exact⟨RL.none_,RL.none_,RL.none_⟩
deriving instance DecidableEq for Ed
theorem ex_valid (b:Bool) (hr hd he ht:Sl):ValidS (exGl b hr hd he ht):=by
 have hrs:(exGl b hr hd he ht).rs=[[112],[113],[114]]:=rfl;have hds:(exGl b hr hd he ht).ds=[exD [97],exD [98],exD [99],exD [100]]:=rfl;have hes:(exGl b hr hd he ht).es=exEs b:=rfl;have hall:allF [exD [97],exD [98],exD [99],exD [100]]=[]:=rfl;have get3:∀ {α:Type} {P:Nat->α->Prop} {l:List α},(∀i (hi:i<l.length),P i l[i])->∀i x,l[i]?=some x->P i x:=by
  intro α P l h i x hx;obtain⟨h1,h2⟩:=Ya.1 hx;rw[<-h2];exact h i h1
 refine⟨⟨by rfl,by rw[hrs];decide,by rw[hrs];decide,?_⟩,⟨?_,?_,?_⟩,?_,⟨?_,?_,?_⟩,?_,?_,?_⟩
 .rw[hrs];refine get3 (P:=fun i s=>isWord s=true/\s∉List.take i [[112],[113],[114]]) fun i hi=>?_;have hi:i<3:=hi
  match i,hi with
  | 0,_=>exact Yyn rfl
  | 1,_=>exact Yyn rfl
  | 2,_=>exact Yyn rfl
 .cases b<;>exact⟨Yyn rfl,Yyn rfl,Yyn rfl,Yyn rfl,Yyn rfl,Yyn rfl⟩
 .rw[hes];cases b<;>decide
 .rw[hes];unfold EdS;rw[hrs,hds];cases b
  .show ∀x∈exEs false,0<=x.f/\0<=x.t/\0<=x.a/\0<=x.b/\0<=x.l/\x.f<4/\x.t<4/\x.a<((3:Nat):Int)/\x.b<((3:Nat):Int)/\x.a≠x.b/\x.l<((4:Nat):Int);decide
  .show ∀x∈exEs true,0<=x.f/\0<=x.t/\0<=x.a/\0<=x.b/\0<=x.l/\x.f<6/\x.t<6/\x.a<((3:Nat):Int)/\x.b<((3:Nat):Int)/\x.a≠x.b/\x.l<((4:Nat):Int);decide
 .rw[hds];refine⟨by decide,by rw[hall];decide,?_⟩;refine get3 (P:=fun i d=>DcS [exD [97],exD [98],exD [99],exD [100]] i d) fun i hi=>?_;have hi:i<4:=hi;have hg:GuardS [] [] []:=⟨by decide,by decide,fun x hx=>(by cases hx),fun x hx=>(by cases hx)⟩
  match i,hi with
  | 0,_=>exact⟨by rfl,Yyn rfl,Yyn rfl,by rfl,fun k f hf=>(by cases hf),by rw[hall];exact hg⟩
  | 1,_=>exact⟨by rfl,Yyn rfl,Yyn rfl,by rfl,fun k f hf=>(by cases hf),by rw[hall];exact hg⟩
  | 2,_=>exact⟨by rfl,Yyn rfl,Yyn rfl,by rfl,fun k f hf=>(by cases hf),by rw[hall];exact hg⟩
  | 3,_=>exact⟨by rfl,Yyn rfl,Yyn rfl,by rfl,fun k f hf=>(by cases hf),by rw[hall];exact hg⟩
 .rw[hes];cases b
  .show ∀x∈exEs false,x.f≠3;decide
  .show ∀x∈exEs true,x.f≠5;decide
 .rw[hes];cases b
  .show ∀x∈exEs false,x.ag=true->x.f≠0;decide
  .show ∀x∈exEs true,x.ag=true->x.f≠0;decide
 .rw[hes];have key:((exEs b).zipIdx.all fun p=>(exEs b).zipIdx.all fun q=>!decide ((p.2≠q.2/\p.1.f=q.1.f/\((p.1.a=q.1.a/\p.1.b=q.1.b/\p.1.l=q.1.l)\/p.1.a≠q.1.a\/p.1.ag=true))\/(p.1.ag=true/\q.1.t=p.1.f/\(p.1.a≠q.1.a\/p.1.l≠q.1.l))))=true:=by
   cases b<;>decide
  intro i x hx k y hy hbad;have h1:=List.all_eq_true.1 key (x,i) (Yf.2 ⟨i,by rw[List.getElem?_zipIdx,hx];simp⟩);have h2:=List.all_eq_true.1 h1 (y,k) (Yf.2 ⟨k,by rw[List.getElem?_zipIdx,hy];simp⟩);have h3:=Yyo (Bool.not_eq_true' _ ▸ h2);exact h3 hbad
 .intro i t ht;exact absurd ht (by show ([]:List To)[i]?≠some t;simp)
 .intro v h0 h1;rw[hes];cases b
  .have h1:v<4:=h1;show Rch (exEs false) false 0 v;have s0:Rch (exEs false) false 0 0:=.refl;have s1:Rch (exEs false) false 0 1:=.step s0 ⟨⟨0,0,1,0,1,false⟩,by decide,rfl,rfl⟩;have s2:Rch (exEs false) false 0 2:=.step s0 ⟨⟨0,0,1,1,2,false⟩,by decide,rfl,rfl⟩;have s3:Rch (exEs false) false 0 3:=.step s1 ⟨⟨1,2,1,2,3,false⟩,by decide,rfl,rfl⟩;have:v=0\/v=1\/v=2\/v=3:=by omega
   rcases this with rfl | rfl | rfl | rfl<;>assumption
  .have h1:v<6:=h1;show Rch (exEs true) false 0 v;have s0:Rch (exEs true) false 0 0:=.refl;have s1:Rch (exEs true) false 0 1:=.step s0 ⟨⟨0,0,1,0,1,false⟩,by decide,rfl,rfl⟩;have s2:Rch (exEs true) false 0 2:=.step s0 ⟨⟨0,0,1,1,2,false⟩,by decide,rfl,rfl⟩;have s3:Rch (exEs true) false 0 3:=.step s1 ⟨⟨1,1,2,0,3,false⟩,by decide,rfl,rfl⟩;have s4:Rch (exEs true) false 0 4:=.step s2 ⟨⟨2,1,2,1,4,false⟩,by decide,rfl,rfl⟩;have s5:Rch (exEs true) false 0 5:=.step s3 ⟨⟨3,2,1,2,5,false⟩,by decide,rfl,rfl⟩;have:v=0\/v=1\/v=2\/v=3\/v=4\/v=5:=by omega
   rcases this with rfl | rfl | rfl | rfl | rfl | rfl<;>assumption
 .intro v h0 h1;rw[hes];cases b
  .have h1:v<4:=h1;show Rch (exEs false) true 3 v;have s3:Rch (exEs false) true 3 3:=.refl;have s1:Rch (exEs false) true 3 1:=.step s3 ⟨⟨1,2,1,2,3,false⟩,by decide,rfl,rfl⟩;have s2:Rch (exEs false) true 3 2:=.step s3 ⟨⟨2,2,1,3,3,false⟩,by decide,rfl,rfl⟩;have s0:Rch (exEs false) true 3 0:=.step s1 ⟨⟨0,0,1,0,1,false⟩,by decide,rfl,rfl⟩;have:v=0\/v=1\/v=2\/v=3:=by omega
   rcases this with rfl | rfl | rfl | rfl<;>assumption
  .have h1:v<6:=h1;show Rch (exEs true) true 5 v;have s5:Rch (exEs true) true 5 5:=.refl;have s3:Rch (exEs true) true 5 3:=.step s5 ⟨⟨3,2,1,2,5,false⟩,by decide,rfl,rfl⟩;have s4:Rch (exEs true) true 5 4:=.step s5 ⟨⟨4,2,1,3,5,false⟩,by decide,rfl,rfl⟩;have s1:Rch (exEs true) true 5 1:=.step s3 ⟨⟨1,1,2,0,3,false⟩,by decide,rfl,rfl⟩;have s2:Rch (exEs true) true 5 2:=.step s4 ⟨⟨2,1,2,1,4,false⟩,by decide,rfl,rfl⟩;have s0:Rch (exEs true) true 5 0:=.step s1 ⟨⟨0,0,1,0,1,false⟩,by decide,rfl,rfl⟩;have:v=0\/v=1\/v=2\/v=3\/v=4\/v=5:=by omega
   rcases this with rfl | rfl | rfl | rfl | rfl | rfl<;>assumption

def RBo (h:Heap) (v:Value) (h':Heap):Prop:=(∃b:Bool,v=.bool b)/\Ext h h'
theorem RBo.mk {h h':Heap} {b:Bool} (E:Ext h h'):RBo h (.bool b) h':=⟨⟨b,rfl⟩,E⟩
theorem Ext.rfl' {h:Heap}:Ext h h:=⟨Yyt _,fun _ _=>rfl⟩
def RP (p:Prop) (h:Heap) (v:Value) (h':Heap):Prop:=(∃b:Bool,v=.bool b/\(b=true ↔ p))/\Ext h h'
theorem RP.t {p:Prop} {h h':Heap} (hp:p) (E:Ext h h'):RP p h (.bool true) h':=⟨⟨true,rfl,iff_of_true rfl hp⟩,E⟩
theorem RP.f {p:Prop} {h h':Heap} (hp:¬p) (E:Ext h h'):RP p h (.bool false) h':=⟨⟨false,rfl,iff_of_false (by decide) hp⟩,E⟩
theorem RP.e {p:Prop} {h h':Heap} {b:Bool} (hb:b=true ↔ p) (E:Ext h h'):RP p h (.bool b) h':=⟨⟨b,rfl,hb⟩,E⟩
theorem iff_f {p:Prop} {b:Bool} (hp:b=true ↔ p) (c:b=false):¬p:=fun hq=>by
 rw[hp.2 hq] at c;cases c
theorem smx {al:List Addr} {h h':Heap} (E:Ext h h'):Sm al h h':=fun _ _ _ _ hv=>hc_ext E hv
theorem Sm_but {al:List Addr} {h h':Heap} {b:Nat} (hB:But b h h') (hn:∀a∈al,a.block≠b):Sm al h h':=fun a ha k v hv=>by
 rw[hc_of_block (hB.2 _ (by rw[addk_block'];exact hn a ha))];exact hv
theorem hc_blk {h:Heap} {a:Addr} {v:Value} (hv:hc h a=some v):a.block<h.size:=by
 rcases Nat.lt_or_ge a.block h.size with h1 | h1
 .exact h1
 .unfold VC.hc at hv;simp[Array.getElem?_eq_none h1] at hv
def sameMv (x y:Mv):Bool:=decide (x.send=y.send/\x.peer=y.peer/\x.label=y.label/\x.ag=y.ag)
def limI (li:List To) (s:Int):Option Nat:=li.findIdx? fun t=>decide (t.s=s)
def sameLim (m:Mch) (a b:Int):Bool:=match limI m.li a,limI m.li b with
 | none,none=>true
 | some i,some k=>match m.li[i]?,m.li[k]? with
  | some x,some y=>match m.mv[x.e.toNat]?,m.mv[y.e.toNat]? with
   | some p,some q=>decide (x.k=y.k)&&sameMv p q
   | _,_=>false
  | _,_=>false
 | _,_=>false
end Go.VC
end
