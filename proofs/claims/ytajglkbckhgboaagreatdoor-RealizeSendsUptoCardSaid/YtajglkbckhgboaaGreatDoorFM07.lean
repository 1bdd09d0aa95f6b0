/- SxLh SxLj SxLk SxLl SxLm SxLn0 SxLn SxLo SxLp SxLq0 SxLq SxLr0 SxLr SxLt0 SxLt SxLu. -/
import Derived.Test.YtajglkbckhgboaaGreatDoorFM06
set_option linter.all false
set_option maxRecDepth 100000
set_option maxHeartbeats 8000000

section
namespace Go.VC
open Go.Proofs Go.LexS
theorem mqL_snoc {es:List Ed} {role:Int} {t:Nat} {l:List Nat} {j k:Nat} (hk:l[j]?=some k):mqL es role t (l.take (j+1))=mqL es role t (l.take j)++(if qtB es role k then [⟨(k:Int),-1,(eA es k).t,(t:Nat)⟩] else []):=by
 unfold mqL;rw[take_snoc hk,List.filter_append,Ym];congr 1;by_cases h:qtB es role k=true
 .rw[if_pos h,List.filter_cons_of_pos h];rfl
 .rw[if_neg h,List.filter_cons_of_neg h];rfl
theorem moL_snoc {es:List Ed} {role:Int} {t:Nat} {l:List Nat} {j k:Nat} (hk:l[j]?=some k):moL es role t (l.take (j+1))=moL es role t (l.take j)++(if qtB es role k then [⟨-1,(k:Int),(t:Nat),(eA es k).t⟩] else []):=by
 unfold moL;rw[take_snoc hk,List.filter_append,Ym];congr 1;by_cases h:qtB es role k=true
 .rw[if_pos h,List.filter_cons_of_pos h];rfl
 .rw[if_neg h,List.filter_cons_of_neg h];rfl
theorem mb1_snoc {es:List Ed} {role:Int} {i:Nat} {l:List Nat} {j k:Nat} {a:Ev} (ha:vis1 role (eA es i)=some a) (hk:l[j]?=some k):mb1 es role i (l.take (j+1))=mb1 es role i (l.take j)++(if vis1 role (eA es k)=some a then [⟨(i:Int),(k:Int),(eA es i).t,(eA es k).t⟩] else []):=by
 unfold mb1;rw[ha];simp only;rw[take_snoc hk,List.filter_append,Ym];congr 1;by_cases h:vis1 role (eA es k)=some a
 .rw[if_pos h,List.filter_cons_of_pos (by rw[decide_eq_true h])];rfl
 .rw[if_neg h,List.filter_cons_of_neg (by rw[decide_eq_false h];decide)];rfl
theorem mbL_snoc {es:List Ed} {role:Int} {l m:List Nat} {j k:Nat} (hk:l[j]?=some k):mbL es role (l.take (j+1)) m=mbL es role (l.take j) m++mb1 es role k m:=by
 unfold mbL;rw[take_snoc hk,List.flatMap_append,List.flatMap_singleton]
theorem mb1_none {es:List Ed} {role:Int} {i:Nat} {l:List Nat} (ha:vis1 role (eA es i)=none):mb1 es role i l=[]:=by unfold mb1;rw[ha]
def mvB (h:Heap) (q bo:Sl) (Q B:List Pmv) (s t:Nat):List It:=[.sl q 200 4 (Q.map Pmv.cs),.sl bo 200 4 (B.map Pmv.cs),.blk h.size [.int .i64 (s:Nat),.int .i64 (t:Nat)] 97]
theorem movesR164 (b:Nat) (g:Gl) (role:Int) (ho:Sl) (os:Nat->Sl) (s t:Nat) (h:Heap) (hA:AnG h b g role ho os) (hV:ValidS g) (hs1:(s:Int)<g.n) (ht1:(t:Int)<g.n) :
  Fn Pz 108 #[.pointer (some ⟨b,0,none⟩),.agg ⟨[.int .i64 (s:Nat),.int .i64 (t:Nat)]⟩] h fun v h'=>∃r:Sl,v=.slice r.a r.n r.c/\St h h' [.sl r 200 4 ((movL g.es role s t).map Pmv.cs)]:=by
 apply vc108 ⟨b,0,none⟩ (s:Nat) (t:Nat);unfold W108;have hN:=hV.num.n;have hM:=hV.num.m;have hon:=hA.ro.ln;rw[Yyd] at hon;have hen:=hA.gi.e.ln;have hso:=outG_len g.es (s:Nat);have hto:=outG_len g.es (t:Nat);have rs:=hA.rs s (by omega);have rt:=hA.rs t (by omega);have rsn:(os s).n=(outG g.es (s:Nat)).length:=by rw[rs.ln];exact Yc _
 have rtn:(os t).n=(outG g.es (t:Nat)).length:=by rw[rt.ln];exact Yc _
 refine (St.refl h).newb fun h3 hs=>?_;refine⟨ho,(hA.ext hs.ext).at_.nth 9 rfl,(s:Nat),hs.rd 0 rfl (i:=0) rfl,?_⟩;refine (hA.ro.ext hs.ext).nbI (by omega) (by omega) fun b6 o7 d gd u=>?_;obtain rfl:s=d:=(rangeG gd).1;refine⟨os s,u.hd,?_⟩;have hs:=(hs.nil_ 200 4).nil_ 200 4;refine⟨fun q bo x h' m=>∃j:Nat,x=j/\m=(os s).n-j/\j<=(os s).n/\St h h' (mvB h q bo (mqL g.es role t ((outG g.es (s:Nat)).take j)) (mbL g.es role ((outG g.es (s:Nat)).take j) (outG g.es (t:Nat))) s t),⟨_,0,rfl,rfl,by omega,hs⟩,?_⟩;clear hs;rintro-q bo _ h15 m ⟨j,rfl,rfl,hj,hs⟩;have hql:=(hs.len 0 (s:=q) (e:=200) (n:=4) rfl (by omega)).1;have hbl:=(hs.len 1 (s:=bo) (e:=200) (n:=4) rfl (by omega)).1;rw[Yc] at hql hbl;have hq1:=mqL_len (es:=g.es) (role:=role) (t:=t) (l:=(outG g.es (s:Nat)).take j);have hb1:=mbL_len (es:=g.es) (role:=role) (l:=(outG g.es (s:Nat)).take j) (m:=outG g.es (t:Nat));have hb2:((outG g.es (s:Nat)).take j).length*(outG g.es (t:Nat)).length<=400*400:=Nat.mul_le_mul (by rw[Yu];omega) (by omega);rw[Yu] at hq1;refine sBi (fun c=>?_) (fun c=>?_)
 .refine (rs.ext hs.ext).nbI (by omega) (by omega) fun b16 o17 d gd u=>?_;obtain⟨k,hk,rfl⟩:=natI_get gd;replace hk:(outG g.es (s:Nat))[j]?=some k:=hk;obtain⟨x0,hx0,hxf⟩:=outG_mem.1 (Yb hk);have hkl:=(Ya.1 hx0).1;have hxe:=eA_get hx0;refine⟨_,u.hd,g.he,(hA.ext hs.ext).at_.nth 6 rfl,?_⟩;refine (hA.gi.e.rw.ext hs.ext).nbI (by omega) (by omega) fun b20 o21 x gx u2=>?_;replace gx:g.es[k]?=some x:=gx;rw[hx0] at gx;cases gx;refine⟨x0.f,x0.a,x0.b,x0.l,x0.t,x0.ag,u2,?_⟩;refine hs.newput (vs:=x0.cs) rfl rfl fun h29 hs=>?_;refine⟨x0.f,x0.a,x0.b,x0.l,x0.t,x0.ag,hs.at 0 rfl (o:=0) (n:=6) rfl,?_⟩;refine (seenR160 ⟨b,0,none⟩ role x0 h29 ((hA.ext hs.ext).at_.nth 8 rfl)).mono ?_;rintro _ h41 ⟨E41,rfl⟩;replace hs:=hs.step E41;cases hvis:vis1 role x0 with
  | none=>
   refine⟨false,0,0,false,rfl,?_⟩;refine hs.newput (vs:=[.bool false,.int .i64 0,.int .i64 0]) rfl rfl fun h43 hs=>?_;refine sB_t rfl ?_;refine⟨x0.t,hs.rd 1 rfl (i:=4) rfl,(t:Nat),hs.rd 4 rfl (i:=1) rfl,?_⟩;refine hs.app 2 rfl app273 (m:=1) [Pmv.cs ⟨(k:Int),-1,x0.t,(t:Nat)⟩] rfl rfl (fun r hr=>by rw[Ye] at hr;rw[hr];rfl) rfl (by omega) (by simp only[maxLen];omega) fun s47 h48 n47 hs=>?_;refine⟨_,by omega,j+1,by rw[w64 (by omega) (by omega)];omega,rfl,by omega,?_⟩;have hs:=hs.drop 2;rw[mqL_snoc hk,mbL_snoc hk,mb1_none (by rw[hxe];exact hvis),Yw,if_pos (by unfold qtB;rw[hxe,hvis];rfl),hxe];unfold mvB;rw[Ym];exact hs
  | some e=>
   refine⟨e.send,e.peer,e.label,true,rfl,?_⟩;refine hs.newput (vs:=e.cs) rfl rfl fun h43 hs=>?_;refine sB_f rfl ?_;refine⟨ho,(hA.ext hs.ext).at_.nth 9 rfl,(t:Nat),hs.rd 4 rfl (i:=1) rfl,?_⟩;refine (hA.ro.ext hs.ext).nbI (by omega) (by omega) fun b52 o53 d gd u3=>?_;obtain rfl:t=d:=(rangeG gd).1;refine⟨os t,u3.hd,?_⟩;have hq2:mqL g.es role t ((outG g.es (s:Nat)).take (j+1))=mqL g.es role t ((outG g.es (s:Nat)).take j):=by
    rw[mqL_snoc hk,if_neg (by unfold qtB;rw[hxe,hvis];exact fun h9=>by cases h9),Yw]
   refine⟨fun bo x h' m=>∃j2:Nat,x=j2/\m=(os t).n-j2/\j2<=(os t).n/\St h h' (.blk h41.size e.cs 188 :: .blk h15.size x0.cs 67::mvB h q bo (mqL g.es role t ((outG g.es (s:Nat)).take j)) (mbL g.es role ((outG g.es (s:Nat)).take j) (outG g.es (t:Nat))++mb1 g.es role k ((outG g.es (t:Nat)).take j2)) s t),⟨_,0,rfl,rfl,by omega,?_⟩,?_⟩
   .have:mb1 g.es role k ((outG g.es (t:Nat)).take 0)=[]:=List.length_eq_zero_iff.1 (by have:=mb1_len (es:=g.es) (role:=role) (i:=k) (l:=(outG g.es (t:Nat)).take 0);rw[Yyk,List.length_nil] at this;rw[Yyk];omega);rw[this,Yw];exact hs
   clear hs;rintro-bo2 _ h60 m ⟨j2,rfl,rfl,hj2,hs⟩;have hbl2:=(hs.len 3 (s:=bo2) (e:=200) (n:=4) rfl (by omega)).1;rw[Yc,Yh] at hbl2;have hb3:=mb1_len (es:=g.es) (role:=role) (i:=k) (l:=(outG g.es (t:Nat)).take j2);rw[Yu] at hb3;refine sBi (fun c2=>?_) (fun c2=>?_)
   .refine (rt.ext hs.ext).nbI (by omega) (by omega) fun b61 o62 d gd u4=>?_;obtain⟨k2,hk2,rfl⟩:=natI_get gd;replace hk2:(outG g.es (t:Nat))[j2]?=some k2:=hk2;obtain⟨x2,hx2,hxf2⟩:=outG_mem.1 (Yb hk2);have hkl2:=(Ya.1 hx2).1;have hxe2:=eA_get hx2;refine⟨_,u4.hd,g.he,(hA.ext hs.ext).at_.nth 6 rfl,?_⟩;refine (hA.gi.e.rw.ext hs.ext).nbI (by omega) (by omega) fun b65 o66 x gx u5=>?_;replace gx:g.es[k2]?=some x:=gx;rw[hx2] at gx;cases gx;refine⟨x2.f,x2.a,x2.b,x2.l,x2.t,x2.ag,u5,?_⟩;refine hs.newput (vs:=x2.cs) rfl rfl fun h74 hs=>?_;refine⟨x2.f,x2.a,x2.b,x2.l,x2.t,x2.ag,hs.at 0 rfl (o:=0) (n:=6) rfl,?_⟩;refine (seenR160 ⟨b,0,none⟩ role x2 h74 ((hA.ext hs.ext).at_.nth 8 rfl)).mono ?_;rintro _ h86 ⟨E86,rfl⟩;replace hs:=hs.step E86;have hvk:vis1 role (eA g.es k)=some e:=by rw[hxe];exact hvis
    have skip:∀ {hZ:Heap},vis1 role (eA g.es k2)≠some e->St h hZ (.blk h41.size e.cs 188 :: .blk h15.size x0.cs 67::mvB h q bo2 (mqL g.es role t ((outG g.es (s:Nat)).take j)) (mbL g.es role ((outG g.es (s:Nat)).take j) (outG g.es (t:Nat))++mb1 g.es role k ((outG g.es (t:Nat)).take j2)) s t) ->
      ∃m,m<(os t).n-j2/\∃j3:Nat,IntKind.wrap .i64 ((j2:Int)+1)=j3/\m=(os t).n-j3/\j3<=(os t).n/\St h hZ (.blk h41.size e.cs 188 :: .blk h15.size x0.cs 67::mvB h q bo2 (mqL g.es role t ((outG g.es (s:Nat)).take j)) (mbL g.es role ((outG g.es (s:Nat)).take j) (outG g.es (t:Nat))++mb1 g.es role k ((outG g.es (t:Nat)).take j3)) s t):=fun {hZ} hne hs=>by
     refine⟨_,by omega,j2+1,by rw[w64 (by omega) (by omega)];omega,rfl,by omega,?_⟩;rw[mb1_snoc hvk hk2,if_neg hne,Yw];exact hs
    cases hvis2:vis1 role x2 with
    | none=>
     refine⟨false,0,0,false,rfl,?_⟩;refine hs.newput (vs:=[.bool false,.int .i64 0,.int .i64 0]) rfl rfl fun h88 hs=>?_;refine sB_f rfl (skip (by rw[hxe2,hvis2];exact fun e=>by cases e) (hs.drop 2))
    | some e2=>
     refine⟨e2.send,e2.peer,e2.label,true,rfl,?_⟩;refine hs.newput (vs:=e2.cs) rfl rfl fun h88 hs=>?_;refine sB_t rfl ?_;refine⟨e.send,e.peer,e.label,hs.at 2 rfl (o:=0) (n:=3) rfl,e2.send,e2.peer,e2.label,hs.at 0 rfl (o:=0) (n:=3) rfl,?_⟩;rw[evEq];refine sBi (fun c3=>?_) (fun c3=>skip (by rw[hxe2,hvis2];exact fun e9=>c3 (Yyp e9).symm) (hs.drop 2));subst c3;refine⟨x0.t,hs.rd 3 rfl (i:=4) rfl,x2.t,hs.rd 1 rfl (i:=4) rfl,?_⟩;refine hs.app 5 rfl app273 (m:=1) [Pmv.cs ⟨(k:Int),(k2:Int),x0.t,x2.t⟩] rfl rfl (fun r hr=>by rw[Ye] at hr;rw[hr];rfl) rfl (by omega) (by simp only[maxLen];omega) fun s98 h99 n98 hs=>?_;refine⟨_,by omega,j2+1,by rw[w64 (by omega) (by omega)];omega,rfl,by omega,?_⟩;have hs:=hs.drop 2;rw[mb1_snoc hvk hk2,if_pos (by rw[hxe2,hvis2]),hxe,hxe2,<-Yz];unfold mvB;rw[Ym (l₁:=mbL _ _ _ _++_)];exact hs
   .refine⟨_,by omega,j+1,by rw[w64 (by omega) (by omega)];omega,rfl,by omega,?_⟩;rw[hq2,mbL_snoc hk];rw[Yj (l:=outG g.es (t:Nat)) (by omega)] at hs;exact hs.drop 2
 .rw[Yj (by omega)] at hs hq1 hb1 hb2;refine⟨ho,(hA.ext hs.ext).at_.nth 9 rfl,(t:Nat),hs.rd 2 rfl (i:=1) rfl,?_⟩;refine (hA.ro.ext hs.ext).nbI (by omega) (by omega) fun b106 o107 d gd u3=>?_;obtain rfl:t=d:=(rangeG gd).1;refine⟨os t,u3.hd,?_⟩;replace hs:=hs.nil_ 200 4;refine⟨fun ot x h' m=>∃j2:Nat,x=j2/\m=(os t).n-j2/\j2<=(os t).n/\St h h' (.sl ot 200 4 ((moL g.es role s ((outG g.es (t:Nat)).take j2)).map Pmv.cs)::mvB h q bo (mqL g.es role t (outG g.es (s:Nat))) (mbL g.es role (outG g.es (s:Nat)) (outG g.es (t:Nat))) s t),⟨_,0,rfl,rfl,by omega,hs⟩,?_⟩;clear hs;rintro-ot _ h114 m ⟨j2,rfl,rfl,hj2,hs⟩;have hol:=(hs.len 0 (s:=ot) (e:=200) (n:=4) rfl (by omega)).1;rw[Yc] at hol;have ho1:=moL_len (es:=g.es) (role:=role) (t:=s) (l:=(outG g.es (t:Nat)).take j2);rw[Yu] at ho1;refine sBi (fun c2=>?_) (fun c2=>?_)
  .refine (rt.ext hs.ext).nbI (by omega) (by omega) fun b61 o62 d gd u4=>?_;obtain⟨k2,hk2,rfl⟩:=natI_get gd;replace hk2:(outG g.es (t:Nat))[j2]?=some k2:=hk2;obtain⟨x2,hx2,hxf2⟩:=outG_mem.1 (Yb hk2);have hkl2:=(Ya.1 hx2).1;have hxe2:=eA_get hx2;refine⟨_,u4.hd,g.he,(hA.ext hs.ext).at_.nth 6 rfl,?_⟩;refine (hA.gi.e.rw.ext hs.ext).nbI (by omega) (by omega) fun b65 o66 x gx u5=>?_;replace gx:g.es[k2]?=some x:=gx;rw[hx2] at gx;cases gx;refine⟨x2.f,x2.a,x2.b,x2.l,x2.t,x2.ag,u5,?_⟩;refine hs.newput (vs:=x2.cs) rfl rfl fun h128 hs=>?_;have skip:vis1 role x2≠none->∃m,m<(os t).n-j2/\∃j3:Nat,IntKind.wrap .i64 ((j2:Int)+1)=j3/\m=(os t).n-j3/\j3<=(os t).n/\St h h128 (.sl ot 200 4 ((moL g.es role s ((outG g.es (t:Nat)).take j3)).map Pmv.cs)::mvB h q bo (mqL g.es role t (outG g.es (s:Nat))) (mbL g.es role (outG g.es (s:Nat)) (outG g.es (t:Nat))) s t):=fun hne=>by
    refine⟨_,by omega,j2+1,by rw[w64 (by omega) (by omega)];omega,rfl,by omega,?_⟩;rw[moL_snoc hk2,if_neg (by unfold qtB;rw[hxe2];intro h9;exact hne (Option.isNone_iff_eq_none.1 h9)),Yw];exact hs.drop 1
   refine⟨x2.a,hs.rd 0 rfl (i:=1) rfl,role,(hA.ext hs.ext).at_.nth 8 rfl,?_⟩;refine sBn (fun c3=>?_) (fun c3=>skip fun h9=>(vis_none.1 h9).1 c3);refine⟨x2.b,hs.rd 0 rfl (i:=2) rfl,role,(hA.ext hs.ext).at_.nth 8 rfl,?_⟩;refine sBn (fun c4=>?_) (fun c4=>skip fun h9=>(vis_none.1 h9).2 c4);have hvn:=vis_none.2 ⟨c3,c4⟩;refine⟨(s:Nat),hs.rd 4 rfl (i:=0) rfl,x2.t,hs.rd 0 rfl (i:=4) rfl,?_⟩;refine hs.app 1 rfl app273 (m:=1) [Pmv.cs ⟨-1,(k2:Int),(s:Nat),x2.t⟩] rfl rfl (fun r hr=>by rw[Ye] at hr;rw[hr];rfl) rfl (by omega) (by simp only[maxLen];omega) fun s98 h99 n98 hs=>?_;refine⟨_,by omega,j2+1,by rw[w64 (by omega) (by omega)];omega,rfl,by omega,?_⟩;have hs:=hs.drop 1;rw[moL_snoc hk2,if_pos (by unfold qtB;rw[hxe2,hvn];rfl),hxe2,Ym];exact hs
  .rw[Yj (by omega)] at hs ho1;refine hs.newb fun h141 hs=>?_;have hsl:=hs.blkS 3 1 ([q,ot,bo].map slC) rfl (fun r hr=>by obtain⟨x,_,rfl⟩:=Yp.1 hr;rfl) rfl (by decide);refine (concat211 [(q,mqL g.es role t (outG g.es (s:Nat))),(ot,moL g.es role s (outG g.es (t:Nat))),(bo,mbL g.es role (outG g.es (s:Nat)) (outG g.es (t:Nat)))] _ h141 (hsl.rw 0 rfl (by omega)) ?_ (show 3<=1048576 by decide) ?_).mono ?_
   .intro z hz;simp only[Yr,List.not_mem_nil,or_false] at hz;rcases hz with rfl | rfl | rfl
    .exact RL.ofSt hs 2 rfl (by omega) (by show (mqL _ _ _ _).length<=_;omega)
    .exact RL.ofSt hs 1 rfl (by omega) (by show (moL _ _ _ _).length<=_;omega)
    .exact RL.ofSt hs 3 rfl (by omega) (by show (mbL _ _ _ _).length<=_;omega)
   .simp only[Yyl,List.map_nil,List.sum_cons,List.sum_nil];omega
   .rintro _ h144 ⟨r,rfl,hs2⟩;refine⟨r,rfl,r,rfl,?_⟩;have h5:=hs.join hs2;have h6:=h5.sub (L':=[.sl r 200 4 ((([(q,mqL g.es role t (outG g.es (s:Nat))),(ot,moL g.es role s (outG g.es (t:Nat))),(bo,mbL g.es role (outG g.es (s:Nat)) (outG g.es (t:Nat)))]:List (Sl × List Pmv)).flatMap Prod.snd).map Pmv.cs)]) (List.singleton_sublist.2 (by simp));have e9:(([(q,mqL g.es role t (outG g.es (s:Nat))),(ot,moL g.es role s (outG g.es (t:Nat))),(bo,mbL g.es role (outG g.es (s:Nat)) (outG g.es (t:Nat)))]:List (Sl × List Pmv)).flatMap Prod.snd)=movL g.es role s t:=by
     unfold movL;simp
    rw[e9] at h6;exact h6
end Go.VC
end

section
namespace Go.VC
open Go.Proofs Go.LexS Go.Maps
theorem mget_set {α β:Type} [DecidableEq α] (a x:α) (b:β):∀l:List (α × β),mget (mset l a b) x=if x=a then some b else mget l x
 | []=>by
  unfold mset mget;by_cases h:x=a
  .rw[if_pos h,if_pos h.symm]
  .rw[if_neg h,if_neg (fun e=>h e.symm)];rfl
 | (c,y)::r=>by
  have ih:=mget_set a x b r;by_cases hc:c=a
  .rw[mset,if_pos hc];by_cases h:x=a
   .rw[mget,if_pos (by rw[hc,h]),if_pos h]
   .rw[mget,if_neg (fun e=>h (e.symm.trans hc)),if_neg h,mget,if_neg (fun e=>h (e.symm.trans hc))]
  .rw[mset,if_neg hc];by_cases h:c=x
   .rw[mget,if_pos h,if_neg (fun e=>hc (h.trans e)),mget,if_pos h]
   .rw[mget,if_neg h,ih,mget,if_neg h]
theorem mget_isSome {α β:Type} [DecidableEq α] (x:α):∀l:List (α × β),(mget l x).isSome=true ↔ x∈l.map Prod.fst
 | []=>by simp[mget]
 | (c,y)::r=>by
  rw[mget];by_cases h:c=x
  .rw[if_pos h];simp[h]
  .rw[if_neg h,mget_isSome x r,Yyl,Yr];exact⟨.inr,fun h9=>h9.resolve_left fun e=>h e.symm⟩
def pC (p:Nat × Nat):List Value:=[.int .i64 (p.1:Nat),.int .i64 (p.2:Nat)]
def pV (p:Nat × Nat):Value:=.agg ⟨pC p⟩
def kokP (p:Nat × Nat):Prop:=p.1<1048576/\p.2<1048576
theorem s272 : ∃ fs, Pz.underlying 97 = some (.struct fs) /\ fs.all (·.name != "_") = true /\ fs.toList.map (fun f => (f.type, f.offset)) = [(3, 0), (3, 1)] := su (by kernel_rfl)
theorem c272:Pz.cellsOf 97=2:=by kernel_rfl
theorem key_pair (p:Nat × Nat) (h:kokP p):∃l,keyOf Pz 97 (pV p)=some l:=by
 obtain⟨fs,hu,hn,hf⟩:=s272;obtain⟨h1,h2⟩:=h;have hsz:∃n,Pz.types.size+1=n+2:=⟨Pz.types.size-1,by kernel_rfl⟩;obtain⟨n,hsz⟩:=hsz;have w1:inR ((p.1:Nat):Int):=⟨by omega,by omega⟩;have w2:inR ((p.2:Nat):Int):=⟨by omega,by omega⟩;have hl:Pz.keyLits (n+2) 97 (pC p)=some [[.int .i64 ((p.1:Nat):Int)],[.int .i64 ((p.2:Nat):Int)]].flatten:=by
  refine kl_struct hu (by rw[c272];rfl) hn hf ?_;simp only[List.mapM_cons,List.mapM_nil,c3,pC,List.drop_zero,List.take_succ_cons,Yyk,List.drop_succ_cons,kl_int u3 w1.wf,kl_int u3 w2.wf];rfl
 have hkt:Pz.keyType 97=true:=by kernel_rfl
 have hfo:(pV p).formed Pz 97=true:=by
  unfold pV Value.formed;simp only[hu,c272];rfl
 have e:keyOf Pz 97 (pV p)=(Pz.keyLits (n+2) 97 (pC p)).map fun ls=>.string (keyBytes ls):=by
  unfold keyOf;simp only[hu,hkt,hfo,Bool.and_self,if_true,hsz];rfl
 rw[e,hl];exact⟨_,rfl⟩
theorem pV_inj (a b:Nat × Nat) (h:pV a=pV b):a=b:=by
 unfold pV pC at h;simp at h;exact Prod.ext (by omega) (by omega)
theorem M202:MT Pz 93 97 197 pV kokP (.slice none 0 0) where
 K:=Keyed.of_law (deep_law_laid laid25 (m:=2) (by omega) (Yyn (by kernel_rfl)) (by kernel_rfl) (by kernel_rfl))
 ht:=by kernel_rfl
 key:=key_pair
 inj:=pV_inj
 z:=fun w=>by kernel_rfl
theorem M278:MT Pz 293 97 3 pV kokP (.int .i64 0) where
 K:=Keyed.of_law (deep_law_laid laid25 (m:=2) (by omega) (Yyn (by kernel_rfl)) (by kernel_rfl) (by kernel_rfl))
 ht:=by kernel_rfl
 key:=key_pair
 inj:=pV_inj
 z:=fun w=>by kernel_rfl
def pto (m:Pmv):Nat × Nat:=(m.s.toNat,m.t.toNat)
inductive Prr (g:Gl) (role:Int):Nat × Nat->Prop where
 | start:Prr g role (g.s.toNat,g.s.toNat)
 | step {p:Nat × Nat} {m:Pmv}:Prr g role p->m∈movL g.es role p.1 p.2->Prr g role (pto m)
theorem eA_mem {es:List Ed} {k:Nat} {s:Int} (h:k∈outG es s):eA es k∈es/\(eA es k).f=s:=by
 obtain⟨x,hx,hf⟩:=outG_mem.1 h;rw[eA_get hx];exact⟨Yb hx,hf⟩
theorem movL_lt {g:Gl} {role:Int} {s t:Nat} (hV:ValidS g) (hs:(s:Int)<g.n) (ht:(t:Int)<g.n) {m:Pmv} (hm:m∈movL g.es role s t):0<=m.s/\m.s<g.n/\0<=m.t/\m.t<g.n:=by
 have hE:∀ {k:Nat} {s:Int},k∈outG g.es s->0<=(eA g.es k).t/\(eA g.es k).t<g.n:=fun {k s} hk=>by
  have:=hV.num.e _ (eA_mem hk).1;unfold EdS at this;omega
 unfold movL at hm;rcases Yk.1 hm with hm | hm
 .rcases Yk.1 hm with hm | hm
  .obtain⟨k,hk,rfl⟩:=Yp.1 hm;have:=hE (List.mem_filter.1 hk).1;exact⟨this.1,this.2,by show (0:Int)<=((t:Nat):Int);omega,ht⟩
  .obtain⟨k,hk,rfl⟩:=Yp.1 hm;have:=hE (List.mem_filter.1 hk).1;exact⟨by show (0:Int)<=((s:Nat):Int);omega,hs,this.1,this.2⟩
 .unfold mbL at hm;obtain⟨i,hi,hm⟩:=List.mem_flatMap.1 hm;unfold mb1 at hm;split at hm
  .cases hm
  .obtain⟨k,hk,rfl⟩:=Yp.1 hm;have h1:=hE hi;have h2:=hE (List.mem_filter.1 hk).1;exact⟨h1.1,h1.2,h2.1,h2.2⟩
theorem pto_lt {g:Gl} {role:Int} {p:Nat × Nat} (hV:ValidS g) (hp:(p.1:Int)<g.n/\(p.2:Int)<g.n) {m:Pmv} (hm:m∈movL g.es role p.1 p.2):((pto m).1:Int)<g.n/\((pto m).2:Int)<g.n/\((pto m).1:Int)=m.s/\((pto m).2:Int)=m.t:=by
 have:=movL_lt hV hp.1 hp.2 hm;unfold pto;refine⟨?_,?_,?_,?_⟩<;>simp only<;>omega
theorem Prr.lt {g:Gl} {role:Int} (hV:ValidS g) {p:Nat × Nat} (h:Prr g role p):(p.1:Int)<g.n/\(p.2:Int)<g.n:=by
 induction h with
 | start=>have:=hV.num.n;exact⟨by simp only;omega,by simp only;omega⟩
 | step _ hm ih=>have:=pto_lt hV ih hm;exact⟨this.1,this.2.1⟩
theorem grid_le {n:Nat} {A:List (Nat × Nat)} (hn:A.Nodup) (h:∀p∈A,p.1<n/\p.2<n):A.length<=n*n:=by
 have h1:=List.Nodup.length_le_of_subset hn (l₂:=(List.range n).flatMap fun i=>(List.range n).map fun j=>(i,j)) fun p hp=>by
  have:=h p hp;exact List.mem_flatMap.2 ⟨p.1,List.mem_range.2 this.1,Yp.2 ⟨p.2,List.mem_range.2 this.2,rfl⟩⟩
 have h2:((List.range n).flatMap fun i=>(List.range n).map fun j=>(i,j)).length=n*n:=by
  rw[List.length_flatMap];simp only[Yc,Yyd];have:∀(l:List Nat),(l.map fun _=>n).sum=l.length*n:=fun l=>by
   induction l with
   | nil=>simp
   | cons a l ih=>rw[Yyl,List.sum_cons,ih,Yyj,Nat.succ_mul];omega
  rw[this,Yyd]
 omega
theorem movL_len {es:List Ed} {role:Int} {s t:Nat} (h:es.length<=400):(movL es role s t).length<=160800:=by
 unfold movL;rw[Yh,Yh];have h1:=mqL_len (es:=es) (role:=role) (t:=t) (l:=outG es (s:Nat));have h2:=moL_len (es:=es) (role:=role) (t:=s) (l:=outG es (t:Nat));have h3:=mbL_len (es:=es) (role:=role) (l:=outG es (s:Nat)) (m:=outG es (t:Nat));have h4:=outG_len es (s:Nat);have h5:=outG_len es (t:Nat);have h6:(outG es (s:Nat)).length*(outG es (t:Nat)).length<=400*400:=Nat.mul_le_mul (by omega) (by omega);omega
end Go.VC
end

section
namespace Go.VC
open Go.Proofs Go.LexS
theorem nodup_ix {α:Type} {L:List α} (hn:L.Nodup) {i j:Nat} {x:α} (hi:L[i]?=some x) (hj:L[j]?=some x):i=j:=by
 obtain⟨h1,e1⟩:=Ya.1 hi;obtain⟨h2,e2⟩:=Ya.1 hj;have hp:=List.pairwise_iff_getElem.1 hn;rcases Nat.lt_trichotomy i j with h | h | h
 .exact absurd (e1.trans e2.symm) (hp i j h1 h2 h)
 .exact h
 .exact absurd (e2.trans e1.symm) (hp j i h2 h1 h)
structure RI (g:Gl) (role:Int) (i c:Nat) (A:List (Nat × Nat)) (Q:List (Sl × List Pmv)) (l:List ((Nat × Nat) × Sl)):Prop where
 qn:Q.length=c
 q:∀(k:Nat) (q:Sl × List Pmv),Q[k]?=some q->∃p,A[k]?=some p/\mget l p=some q.1/\q.2=movL g.es role p.1 p.2
 ky:∀p,p∈l.map Prod.fst ↔ p∈A
 ln:(l.map Prod.fst).Nodup
 nd:A.Nodup
 pr:∀p∈A,Prr g role p
 st:(g.s.toNat,g.s.toNat)∈A
 cl:∀(k:Nat) (p:Nat × Nat),k<i->A[k]?=some p->∀m∈movL g.es role p.1 p.2,pto m∈A
theorem RI.kok {g:Gl} {role:Int} {i c:Nat} {A:List (Nat × Nat)} {Q:List (Sl × List Pmv)} {l:List ((Nat × Nat) × Sl)} (h:RI g role i c A Q l) (hV:ValidS g):∀q∈l,kokP q.1:=fun q hq=>by
 have h1:=(h.pr _ ((h.ky q.1).1 (Yp.2 ⟨q,hq,rfl⟩))).lt hV;have:=hV.num.n;exact⟨by omega,by omega⟩
theorem RI.len {g:Gl} {role:Int} {i c:Nat} {A:List (Nat × Nat)} {Q:List (Sl × List Pmv)} {l:List ((Nat × Nat) × Sl)} (h:RI g role i c A Q l) (hV:ValidS g):A.length<=g.n.toNat*g.n.toNat:=
 grid_le h.nd fun p hp=>by have:=(h.pr p hp).lt hV;have:=hV.num.n;exact⟨by omega,by omega⟩
theorem RI.upd {g:Gl} {role:Int} {i:Nat} {A:List (Nat × Nat)} {Q:List (Sl × List Pmv)} {l:List ((Nat × Nat) × Sl)} (h:RI g role i i A Q l) {p:Nat × Nat} (hp:A[i]?=some p) (r:Sl):RI g role i (i+1) A (Q++[(r,movL g.es role p.1 p.2)]) (mset l p r):=by
 refine⟨by rw[Yh,h.qn];rfl,fun k q hq=>?_,fun x=>?_,mset_nodup _ _ _ h.ln,h.nd,h.pr,h.st,h.cl⟩
 .by_cases hk:k<i
  .rw[Yyi (by rw[h.qn];exact hk)] at hq;obtain⟨p',h1,h2,h3⟩:=h.q k q hq;refine⟨p',h1,?_,h3⟩;rw[mget_set,if_neg (fun e=>by subst e;have:=nodup_ix h.nd h1 hp;omega)];exact h2
  .rw[Yyc (by rw[h.qn];omega),h.qn] at hq;have h9:=(Ya.1 hq).1;rw[Yv] at h9;obtain rfl:k=i:=by omega
   rw[Nat.sub_self] at hq;cases hq;exact⟨p,hp,by rw[mget_set,if_pos rfl],rfl⟩
 .rw[mset_keys,h.ky];exact⟨fun h9=>h9.elim id fun e=>by rw[e];exact Yb hp,.inl⟩
theorem RI.new {g:Gl} {role:Int} {i c:Nat} {A:List (Nat × Nat)} {Q:List (Sl × List Pmv)} {l:List ((Nat × Nat) × Sl)} (h:RI g role i c A Q l) (hi:i<=A.length) {p:Nat × Nat} (hp:p∉A) (hr:Prr g role p) (r:Sl):RI g role i c (A++[p]) Q (mset l p r):=by
 refine⟨h.qn,fun k q hq=>?_,fun x=>?_,mset_nodup _ _ _ h.ln,?_,fun x hx=>?_,List.mem_append_left _ h.st,fun k x hk hx m hm=>?_⟩
 .obtain⟨p',h1,h2,h3⟩:=h.q k q hq;refine⟨p',by rw[Yyi (Ya.1 h1).1];exact h1,?_,h3⟩;rw[mget_set,if_neg (fun e=>hp (by subst e;exact Yb h1))];exact h2
 .rw[mset_keys,h.ky,Yk,Ye]
 .rw[List.nodup_append];exact⟨h.nd,by simp,fun a ha b hb e=>by rw[Ye] at hb;subst hb;subst e;exact hp ha⟩
 .rcases Yk.1 hx with hx | hx
  .exact h.pr x hx
  .rw[Ye] at hx;rw[hx];exact hr
 .rcases Nat.lt_or_ge k A.length with h9 | h9
  .rw[Yyi h9] at hx;exact List.mem_append_left _ (h.cl k x hk hx m hm)
  .omega
def rchL (all:Sl) (mb:Nat) (A:List (Nat × Nat)) (Q:List (Sl × List Pmv)) (l:List ((Nat × Nat) × Sl)) (R:List It):List It:=
 .sl all 97 2 (A.map pC) :: .mp mb (l.map fun q=>(pV q.1,slV q.2))::(R++Q.map (nest 200 4 Pmv.cs))
theorem rch_get {all:Sl} {mb:Nat} {A:List (Nat × Nat)} {Q:List (Sl × List Pmv)} {l:List ((Nat × Nat) × Sl)} {R0:It} {i:Nat} {q:Sl × List Pmv} (hq:Q[i]?=some q):(rchL all mb A Q l [R0])[3+i]?=some (nest 200 4 Pmv.cs q):=by
 unfold rchL;rw[show 3+i=i+1+1+1 by omega,List.getElem?_cons_succ,List.getElem?_cons_succ,List.singleton_append,List.getElem?_cons_succ,Yd,hq];rfl
structure PrM (h:Heap) (g:Gl) (role:Int) (all:Sl) (mb:Nat) (A:List (Nat × Nat)) (l:List ((Nat × Nat) × Sl)):Prop where
 ra:RL h 2 all pC A
 mp:It.ok h (.mp mb (l.map fun q=>(pV q.1,slV q.2)))
 lk:∀q∈l,kokP q.1
 ln:(l.map Prod.fst).Nodup
 mv:∀p∈A,∃r,mget l p=some r/\RL h 4 r Pmv.cs (movL g.es role p.1 p.2)
 nd:A.Nodup
 pr:∀p,p∈A ↔ Prr g role p
theorem PrM.ext {h h':Heap} {g:Gl} {role:Int} {all:Sl} {mb:Nat} {A:List (Nat × Nat)} {l:List ((Nat × Nat) × Sl)} (hM:PrM h g role all mb A l) (E:Ext h h'):PrM h' g role all mb A l:=
 ⟨hM.ra.ext E,hM.mp.keep fun b hb=>E.2 b (hM.mp.lt hb),hM.lk,hM.ln,fun p hp=>(hM.mv p hp).imp fun r hr=>⟨hr.1,hr.2.ext E⟩,hM.nd,hM.pr⟩
theorem app201:appB Pz 92 97 2 16=true:=by kernel_rfl
theorem reached119 (b:Nat) (g:Gl) (role:Int) (ho:Sl) (os:Nat->Sl) (h:Heap) (hA:AnG h b g role ho os) (hV:ValidS g) :
  Fn Pz 50 #[.pointer (some ⟨b,0,none⟩)] h fun v h'=>Ext h h'/\∃(all:Sl) (mb:Nat) (A:List (Nat × Nat)) (l:List ((Nat × Nat) × Sl)),v=.tuple ⟨[.slice all.a all.n all.c,.map (some mb)]⟩/\PrM h' g role all mb A l:=by
 apply vc50 ⟨b,0,none⟩;unfold W50;have hN:=hV.num.n;have hM:=hV.num.m;have hsn:((g.s.toNat:Nat):Int)=g.s:=Int.toNat_of_nonneg (by omega);have hnn:g.n.toNat*g.n.toNat<=200*200:=Nat.mul_le_mul (by omega) (by omega);refine⟨g.s,hA.at_.nth 4 rfl,g.s,hA.at_.nth 4 rfl,?_⟩;refine (St.refl h).newbE fun h3 E3 hs=>⟨E3.sm,?_⟩;refine hs.put 0 rfl (o:=0) (vs:=[.int .i64 g.s,.int .i64 g.s]) rfl (Yyt 2) fun h4 hs=>?_;refine⟨g.s,g.s,hs.at 0 rfl (o:=0) (n:=2) rfl,?_⟩;refine hs.newb fun h7 hs=>?_;have hs:=hs.blkS 1 2 ([(g.s.toNat,g.s.toNat)].map pC) (by unfold pC;simp only[Yyl,List.map_nil,Yyu,List.flatten_nil,Yw];rw[hsn]) (fun r hr=>by obtain⟨x,_,rfl⟩:=Yp.1 hr;rfl) rfl (by decide);refine hs.mmake 93 fun h10 E10 hs=>⟨some h7.size,rfl,?_⟩;refine⟨((g.s.toNat:Nat):Int),((g.s.toNat:Nat):Int),by rw[hsn];exact hs.at 2 rfl (o:=0) (n:=2) rfl,?_⟩;refine hs.mput (cv:=slV) (l:=[]) M202 0 rfl (fun q hq=>by cases hq) .nil (a:=(g.s.toNat,g.s.toNat)) ⟨by simp only;omega,by simp only;omega⟩ ⟨none,0,0⟩ fun h13 hs=>?_;have hI:RI g role 0 0 [(g.s.toNat,g.s.toNat)] [] [((g.s.toNat,g.s.toNat),⟨none,0,0⟩)]:=
  ⟨rfl,fun k q hq=>(by simp at hq),fun p=>by simp,by simp,by simp,fun p hp=>by rw[Ye] at hp;rw[hp];exact .start,by simp,fun k p hk=>by omega⟩
 refine⟨fun all x h' m=>∃(i:Nat) (A:List (Nat × Nat)) (Q:List (Sl × List Pmv)) (l:List ((Nat × Nat) × Sl)),x=i/\m=g.n.toNat*g.n.toNat-i/\i<=A.length/\St h h' (rchL all h7.size A Q l [.blk h.size [.int .i64 g.s,.int .i64 g.s] 97])/\RI g role i i A Q l,⟨_,0,_,[],_,rfl,rfl,Nat.zero_le _,hs.perm (List.Perm.swap _ _ _),hI⟩,?_⟩;clear hs hI;rintro-all _ h19 m ⟨i,A,Q,l,rfl,rfl,hi,hs,hI⟩;have hAl:=hI.len hV;have hal:=hs.len 0 (s:=all) (e:=97) (n:=2) (rows:=A.map pC) rfl (by omega);rw[Yc] at hal;refine sBi (fun c=>?_) (fun c=>?_)
 .refine (hs.rows 0 rfl (by omega)).nbI (by omega) (by omega) fun b20 o21 p gp t=>?_;replace gp:A[i]?=some p:=gp;have hpr:=hI.pr p (Yb gp);have hpl:=hpr.lt hV;refine⟨((p.1:Nat):Int),((p.2:Nat):Int),t,?_⟩;refine (movesR164 b g role ho os p.1 p.2 h19 (hA.ext hs.ext) hV hpl.1 hpl.2).mono ?_;rintro _ h26 ⟨r,rfl,hs2⟩;refine⟨r,rfl,?_⟩;replace hs:=hs.join hs2;refine (hs.rows 0 (s:=all) (e:=97) (n:=2) (cs:=pC) (l:=A) rfl (by omega)).nbI (by omega) (by omega) fun b27 o28 p' gp' t'=>?_;replace gp':A[i]?=some p':=gp';rw[gp] at gp';cases gp';refine⟨((p.1:Nat):Int),((p.2:Nat):Int),t',?_⟩;refine hs.mput (cv:=slV) (l:=l) M202 1 rfl (hI.kok hV) hI.ln (a:=p) ⟨by omega,by omega⟩ r fun h31 hs=>?_;have hI2:=hI.upd gp r;have hs:St h h31 (rchL all h7.size A (Q++[(r,movL g.es role p.1 p.2)]) (mset l p r) [.blk h.size [.int .i64 g.s,.int .i64 g.s] 97]):=by
   refine hs.perm (List.Perm.of_eq ?_);unfold rchL;rw[Ym];simp[nest]
  clear hs2 t t';have hml:=movL_len (es:=g.es) (role:=role) (s:=p.1) (t:=p.2) hM;refine⟨fun all x h' m=>∃(j:Nat) (A':List (Nat × Nat)) (l':List ((Nat × Nat) × Sl)),x=j/\m=r.n-j/\j<=r.n/\A.length<=A'.length/\St h h' (rchL all h7.size A' (Q++[(r,movL g.es role p.1 p.2)]) l' [.blk h.size [.int .i64 g.s,.int .i64 g.s] 97])/\Ext h31 h31/\RI g role i (i+1) A' (Q++[(r,movL g.es role p.1 p.2)]) l'/\A'[i]?=some p/\∀m∈(movL g.es role p.1 p.2).take j,pto m∈A',⟨_,0,A,_,rfl,rfl,Nat.zero_le _,Yyt _,hs,⟨Yyt _,fun _ _=>rfl⟩,hI2,gp,fun m hm=>by rw[Yyk] at hm;cases hm⟩,?_⟩;clear hs hI2;rintro-all2 _ h37 m ⟨j,A',l',rfl,rfl,hj,hAA,hs,-,hI2,gp2,hcl⟩;have hgq:(Q++[(r,movL g.es role p.1 p.2)])[i]?=some (r,movL g.es role p.1 p.2):=by
   rw[Yyc (by rw[hI.qn];exact Yyt _),hI.qn,Nat.sub_self];rfl
  have hw2:Rw h37 4 r ((movL g.es role p.1 p.2).map Pmv.cs):=hs.rw (3+i) (rch_get hgq) (by omega);have hrn:=hw2.ln;have hAl2:=hI2.len hV;have hal2:=hs.len 0 (s:=all2) (e:=97) (n:=2) (rows:=A'.map pC) rfl (by omega);rw[Yc] at hal2;refine sBi (fun c2=>?_) (fun c2=>?_)
  .refine hw2.nbI (by omega) (by omega) fun b38 o39 mv gm t=>?_;replace gm:(movL g.es role p.1 p.2)[j]?=some mv:=gm;have hmm:=Yb gm;have hpt:=pto_lt hV hpl hmm;refine⟨mv.x,mv.y,mv.s,mv.t,t,?_⟩;refine hs.newput (vs:=mv.cs) rfl rfl fun h45 hs=>?_;refine⟨((pto mv).1:Nat),((pto mv).2:Nat),by rw[hpt.2.2.1,hpt.2.2.2];exact hs.at 0 rfl (o:=2) (n:=2) rfl,?_⟩;refine hs.mlookOk (cv:=slV) (l:=l') M202 2 rfl (hI2.kok hV) hI2.ln (a:=pto mv) ⟨by omega,by omega⟩ ?_;refine⟨(mget l' (pto mv)).getD ⟨none,0,0⟩,(mget l' (pto mv)).isSome,by cases mget l' (pto mv)<;>rfl,?_⟩;refine sB_intro (fun c3=>?_) (fun c3=>?_)
   .have hno:pto mv∉A':=fun hm=>by
     have h9:=(mget_isSome (pto mv) l').2 ((hI2.ky _).2 hm);rw[h9] at c3;cases c3
    refine⟨((pto mv).1:Nat),((pto mv).2:Nat),by rw[hpt.2.2.1,hpt.2.2.2];exact hs.at 0 rfl (o:=2) (n:=2) rfl,?_⟩;refine hs.mput (cv:=slV) (l:=l') M202 2 rfl (hI2.kok hV) hI2.ln (a:=pto mv) ⟨by omega,by omega⟩ ⟨none,0,0⟩ fun h54 hs=>?_;refine⟨((pto mv).1:Nat),((pto mv).2:Nat),by rw[hpt.2.2.1,hpt.2.2.2];exact hs.at 0 rfl (o:=2) (n:=2) rfl,?_⟩;refine hs.app 1 rfl app201 (m:=1) [pC (pto mv)] rfl rfl (fun r hr=>by rw[Ye] at hr;rw[hr];rfl) rfl (by omega) (by simp only[maxLen];omega) fun s58 h59 n58 hs=>?_;have hI3:=hI2.new (by omega) hno (.step hpr hmm) ⟨none,0,0⟩;refine⟨_,by omega,j+1,A'++[pto mv],_,by rw[w64 (by omega) (by omega)];omega,rfl,by omega,by rw[Yh];omega,?_,⟨Yyt _,fun _ _=>rfl⟩,hI3,by rw[Yyi (by omega)];exact gp2,fun m hm=>?_⟩
    .have hs:=hs.drop 1;unfold rchL;rw[Ym (f:=pC)];exact hs
    .rw[take_snoc gm,Yk,Ye] at hm;rcases hm with hm | rfl
     .exact List.mem_append_left _ (hcl m hm)
     .simp
   .have hin:pto mv∈A':=(hI2.ky _).1 ((mget_isSome (pto mv) l').1 (bT c3));refine⟨_,by omega,j+1,A',l',by rw[w64 (by omega) (by omega)];omega,rfl,by omega,hAA,hs.drop 1,⟨Yyt _,fun _ _=>rfl⟩,hI2,gp2,fun m hm=>?_⟩;rw[take_snoc gm,Yk,Ye] at hm;rcases hm with hm | rfl
    .exact hcl m hm
    .exact hin
  .rw[Yj (by omega)] at hcl;refine⟨_,by omega,i+1,A',_,l',by rw[w64 (by omega) (by omega)];omega,rfl,by omega,hs,⟨hI2.qn,hI2.q,hI2.ky,hI2.ln,hI2.nd,hI2.pr,hI2.st,fun k x hk hx m hm=>?_⟩⟩;by_cases hki:k=i
   .subst hki;rw[gp2] at hx;cases hx;exact hcl m hm
   .exact hI2.cl k x (by omega) hx m hm
 .refine⟨hs.ext,all,h7.size,A,l,rfl,RL.ofSt hs 0 rfl (by omega) (by omega),hs.get (k:=1) rfl,hI.kok hV,hI.ln,fun p hp=>?_,hI.nd,fun p=>⟨hI.pr p,fun hp=>?_⟩⟩
  .obtain⟨k,hk⟩:=Yf.1 hp;have hkl:=(Ya.1 hk).1;obtain⟨q,hq⟩:=get_some (l:=Q) (i:=k) (by rw[hI.qn];omega);obtain⟨p',h1,h2,h3⟩:=hI.q k q hq;rw[hk] at h1;cases h1;have hml:=movL_len (es:=g.es) (role:=role) (s:=p.1) (t:=p.2) hM;refine⟨q.1,h2,?_⟩;rw[<-h3];exact RL.ofSt hs (3+k) (rch_get hq) (by omega) (by rw[h3];omega)
  .induction hp with
   | start=>exact hI.st
   | step _ hm ih=>
    obtain⟨k,hk⟩:=Yf.1 ih;exact hI.cl k _ (by have:=(Ya.1 hk).1;omega) hk _ hm
structure Arv where
 e:Int
 n:Int
 m:Ms
def Arv.cs (x:Arv):List Value:=[.int .i64 x.e,.int .i64 x.n,.int .i64 x.m.p,.int .i64 x.m.l]
def Ms.ev (m:Ms):Ev:=⟨false,m.p,m.l⟩
def arvS (K:List Ev) (b:Option Arv) (x:Arv):Option Arv:=
 if x.m.ev∈K then (match b with | none=>some x | some y=>if x.n<y.n then some x else b) else b
def arvF (K:List Ev) (L:List Arv):Option Arv:=L.foldl (arvS K) none
def arv0:Arv:=⟨0,0,⟨0,0⟩⟩
def ArB (b:Option Arv):Prop:=∀y,b=some y->0<y.n
structure An where
 ho:Sl
 os:Nat->Sl
 hfi:Sl
 fi:List Fs
 hli:Sl
 li:List Lm
 hag:Sl
 ag:List Bool
 how:Sl
 ow:List Bool
 har:Sl
 ar:List (Sl × List Arv)
structure AnF (h:Heap) (b:Nat) (g:Gl) (role:Int) (X:An):Prop where
 gg:AnG h b g role X.ho X.os
 r:AnR h ⟨b,0,none⟩ role X.hfi X.hli X.hag X.how X.fi X.li X.ag X.ow
 a:hc h ⟨b,14,none⟩=some (.slice X.har.a X.har.n X.har.c)
 ra:RL h 1 X.har slC (X.ar.map Prod.fst)
 re:∀q∈X.ar,RL h 4 q.1 Arv.cs q.2
 nf:X.fi.length=g.n.toNat
 nl:X.li.length=g.n.toNat
 na:X.ag.length=g.n.toNat
 nw:X.ow.length=g.n.toNat
 nr:X.ar.length=g.n.toNat
theorem AnF.ext {h h':Heap} {b:Nat} {g:Gl} {role:Int} {X:An} (hA:AnF h b g role X) (E:Ext h h'):AnF h' b g role X:=
 ⟨hA.gg.ext E,hA.r.ext E,hc_ext E hA.a,hA.ra.ext E,fun q hq=>(hA.re q hq).ext E,hA.nf,hA.nl,hA.na,hA.nw,hA.nr⟩
theorem arrives173 (b:Nat) (g:Gl) (role:Int) (X:An) (s t:Nat) (fs:Fs) (q:Sl × List Arv) (h:Heap) (hA:AnF h b g role X) (gt:X.fi[t]?=some fs) (gq:X.ar[s]?=some q) (hq:∀x∈q.2,0<x.n) :
  Fn Pz 152 #[.pointer (some ⟨b,0,none⟩),.agg ⟨[.int .i64 (s:Nat),.int .i64 (t:Nat)]⟩] h fun v h'=>Ext h h'/\v=.tuple ⟨[.agg ⟨((arvF fs.l q.2).getD arv0).cs⟩,.bool (arvF fs.l q.2).isSome]⟩:=by
 apply vc152 ⟨b,0,none⟩ (s:Nat) (t:Nat);unfold W152 V152a;have n1:=hA.ra.ln;have n2:=hA.r.rf.ln;have ls:=(Ya.1 gq).1;have lt:=(Ya.1 gt).1;have hql:=hA.re q (Yb gq);have hfl:=hA.r.re fs (Yb gt);have n3:=hql.ln;have m3:=hql.sm;rw[Yc] at n1;refine (St.refl h).newb fun h3 hs=>?_;refine hs.newb fun h4 hs=>?_;refine hs.newb fun h5 hs=>?_;refine⟨X.har,(hA.ext hs.ext).a,(s:Nat),hs.rd 2 rfl (i:=0) rfl,?_⟩;refine (hA.ra.ext hs.ext).rw.nbI (by omega) (by omega) fun b8 o9 d gd u=>?_;replace gd:(X.ar.map Prod.fst)[s]?=some d:=gd;rw[Yd,gq] at gd;cases gd;refine⟨q.1,u.hd,?_⟩;refine⟨fun x h' m=>∃(i:Nat) (o:Option Arv),x=i/\m=q.1.n-i/\i<=q.1.n/\St h h' [.blk h4.size (o.getD arv0).cs 276,.blk h3.size [.int .i64 0,.int .i64 0,.int .i64 0,.int .i64 0] 276,.blk h.size [.int .i64 (s:Nat),.int .i64 (t:Nat)] 97]/\o=(q.2.take i).foldl (arvS fs.l) none/\ArB o,⟨_,0,none,rfl,rfl,by omega,hs,rfl,fun y hy=>by cases hy⟩,?_⟩;clear hs;rintro-_ h15 m ⟨i,o,rfl,rfl,hi,hs,ho,hob⟩;have nxt:∀ {hZ:Heap} {x:Arv} {o':Option Arv} (c:i<q.1.n) (gx:q.2[i]?=some x) (e:o'=arvS fs.l o x),ArB o'->St h hZ [.blk h4.size (o'.getD arv0).cs 276,.blk h3.size [.int .i64 0,.int .i64 0,.int .i64 0,.int .i64 0] 276,.blk h.size [.int .i64 (s:Nat),.int .i64 (t:Nat)] 97] ->
   ∃m,m<q.1.n-i/\∃(i':Nat) (o:Option Arv),IntKind.wrap .i64 ((i:Int)+1)=i'/\m=q.1.n-i'/\i'<=q.1.n/\St h hZ [.blk h4.size (o.getD arv0).cs 276,.blk h3.size [.int .i64 0,.int .i64 0,.int .i64 0,.int .i64 0] 276,.blk h.size [.int .i64 (s:Nat),.int .i64 (t:Nat)] 97]/\o=(q.2.take i').foldl (arvS fs.l) none/\ArB o:=fun {hZ x o'} c gx e hb hs=>by
  refine⟨_,?_,i+1,o',by rw[w64 (by omega) (by omega)];omega,rfl,by omega,hs,?_,hb⟩
  .omega
  .rw[take_snoc gx,List.foldl_append,<-ho,e];rfl
 refine sBi (fun c=>?_) (fun c=>?_)
 .refine (hql.ext hs.ext).rw.nbI (by omega) (by omega) fun b16 o17 x gx u2=>?_;replace gx:q.2[i]?=some x:=gx;have hx0:=hq x (Yb gx);refine⟨x.e,x.n,x.m.p,x.m.l,u2,?_⟩;refine hs.newput (vs:=x.cs) rfl rfl fun h23 hs=>?_;refine⟨X.hfi,(hA.ext hs.ext).r.f,(t:Nat),hs.rd 3 rfl (i:=1) rfl,?_⟩;refine (hA.r.rf.ext hs.ext).rw.nbI (by omega) (by omega) fun b26 o27 f gf u3=>?_;replace gf:X.fi[t]?=some f:=gf;rw[gt] at gf;cases gf;refine⟨fs.s,fs.b,u3,x.m.p,hs.rd 0 rfl (i:=2) rfl,x.m.l,hs.rd 0 rfl (i:=3) rfl,?_⟩;refine (hasR214 fs.l fs.b x.m.ev fs.s h23 (hfl.ext hs.ext).rw hfl.sm).mono ?_;rintro _ h34 ⟨⟨b2,rfl,hb2⟩,E⟩;replace hs:=hs.step E;refine⟨b2,rfl,sB_intro (fun c2=>?_) (fun c2=>?_)⟩
  .have hin:x.m.ev∈fs.l:=hb2.1 c2;cases o with
   | none=>
    refine⟨0,hs.rd 1 rfl (i:=1) rfl,sB_t rfl ?_⟩;refine⟨x.e,x.n,x.m.p,x.m.l,hs.at 0 rfl (o:=0) (n:=4) rfl,?_⟩;refine hs.put 1 rfl (o:=0) (vs:=x.cs) rfl (Yyt 4) fun h40 hs=>?_;exact nxt (by omega) gx (o':=some x) (by unfold arvS;rw[if_pos hin]) (fun y hy=>by cases hy;exact hx0) (hs.drop 1)
   | some y=>
    have hy0:=hob y rfl;refine⟨y.n,hs.rd 1 rfl (i:=1) rfl,sBe (fun e=>by omega) (fun _=>?_)⟩;refine⟨x.n,hs.rd 0 rfl (i:=1) rfl,y.n,hs.rd 1 rfl (i:=1) rfl,sBi (fun c3=>?_) (fun c3=>?_)⟩
    .refine⟨x.e,x.n,x.m.p,x.m.l,hs.at 0 rfl (o:=0) (n:=4) rfl,?_⟩;refine hs.put 1 rfl (o:=0) (vs:=x.cs) rfl (Yyt 4) fun h40 hs=>?_;exact nxt (by omega) gx (o':=some x) (by unfold arvS;rw[if_pos hin];simp only;rw[if_pos c3]) (fun y hy=>by cases hy;exact hx0) (hs.drop 1)
    .exact nxt (by omega) gx (o':=some y) (by unfold arvS;rw[if_pos hin];simp only;rw[if_neg c3]) hob (hs.drop 1)
  .have hno:x.m.ev∉fs.l:=fun hm=>by rw[hb2.2 hm] at c2;cases c2
   exact nxt (by omega) gx (o':=o) (by unfold arvS;rw[if_neg hno]) hob (hs.drop 1)
 .rw[Yj (by omega)] at ho;have hoF:o=arvF fs.l q.2:=ho;refine⟨(o.getD arv0).e,(o.getD arv0).n,(o.getD arv0).m.p,(o.getD arv0).m.l,hs.at 0 rfl (o:=0) (n:=4) rfl,(o.getD arv0).n,hs.rd 0 rfl (i:=1) rfl,?_⟩;have hb4:=hs.get (k:=0) rfl;refine hs.put 1 rfl (o:=0) (vs:=(o.getD arv0).cs) rfl (Yyt 4) fun h57 hs2=>⟨?_,?_⟩
  .exact sm_cons (hs.same hs2 0 0 rfl rfl) sm_nil
  .refine⟨(o.getD arv0).e,(o.getD arv0).n,(o.getD arv0).m.p,(o.getD arv0).m.l,hs2.at 1 rfl (o:=0) (n:=4) rfl,hs2.ext,?_⟩;rw[<-hoF];have:decide ((o.getD arv0).n>0)=o.isSome:=by
    cases o with
    | none=>rfl
    | some y=>exact decide_eq_true (hob y rfl)
   rw[this];rfl
noncomputable def cstS (X:An) (kind:Int) (p:Nat × Nat):Option Int:=by
 classical exact if kind=1 then (match X.fi[p.1]?,X.fi[p.2]? with | some fs,some ft=>if (fs.l.find? (difP ft.l)).isSome then some 0 else none | _,_=>none)
 else if kind=3 then (if ClA X.li X.ag X.ow p.1 p.2 then some 0 else none)
 else (match X.fi[p.2]?,X.ar[p.1]? with | some ft,some q=>(arvF ft.l q.2).map (·.n) | _,_=>none)
theorem costs167 (b:Nat) (g:Gl) (role:Int) (X:An) (kind:Int) (p:Nat × Nat) (h:Heap) (hA:AnF h b g role X) (hp:(p.1:Int)<g.n/\(p.2:Int)<g.n) (hq:∀q∈X.ar,∀x∈q.2,0<x.n) :
  Fn Pz 166 #[.pointer (some ⟨b,0,none⟩),.int .i64 kind,.agg ⟨pC p⟩] h fun v h'=>Ext h h'/\v=.tuple ⟨[.int .i64 ((cstS X kind p).getD 0),.bool (cstS X kind p).isSome]⟩:=by
 apply vc166 ⟨b,0,none⟩ kind (p.1:Nat) (p.2:Nat);unfold W166;obtain⟨fs,gs⟩:=get_some (l:=X.fi) (i:=p.1) (by rw[hA.nf];omega);obtain⟨ft,gt⟩:=get_some (l:=X.fi) (i:=p.2) (by rw[hA.nf];omega);obtain⟨q,gq⟩:=get_some (l:=X.ar) (i:=p.1) (by rw[hA.nr];omega);refine (St.refl h).newb fun h3 hs=>?_;refine sBe (fun c=>?_) (fun c=>sBe (fun c2=>?_) (fun c2=>?_))
 .refine⟨(p.1:Nat),(p.2:Nat),hs.at 0 rfl (o:=0) (n:=2) rfl,?_⟩;refine (differR171 ⟨b,0,none⟩ role X.hfi X.hli X.hag X.how X.fi X.li X.ag X.ow p.1 p.2 fs ft h3 (hA.ext hs.ext).r gs gt).mono ?_;rintro _ h11 ⟨E,rfl⟩;replace hs:=hs.step E;have hc:cstS X kind p=if (fs.l.find? (difP ft.l)).isSome then some 0 else none:=by unfold cstS;rw[if_pos c,gs,gt]
  cases hf:fs.l.find? (difP ft.l) with
  | some x=>
   refine⟨x.send,x.peer,x.label,true,rfl,?_⟩;refine hs.newput (vs:=x.cs) rfl rfl fun h13 hs=>⟨hs.ext,?_⟩;rw[hc,hf];rfl
  | none=>
   refine⟨false,0,0,false,rfl,?_⟩;refine hs.newput (vs:=[.bool false,.int .i64 0,.int .i64 0]) rfl rfl fun h13 hs=>⟨hs.ext,?_⟩;rw[hc,hf];rfl
 .refine⟨(p.1:Nat),(p.2:Nat),hs.at 0 rfl (o:=0) (n:=2) rfl,?_⟩;refine (clockR213 ⟨b,0,none⟩ role X.hfi X.hli X.hag X.how X.fi X.li X.ag X.ow p.1 p.2 h3 (hA.ext hs.ext).r (by rw[hA.nw];omega) (by rw[hA.nl];omega) (by rw[hA.na];omega)).mono ?_;rintro _ h18 ⟨⟨b2,rfl,hb2⟩,E⟩;refine⟨b2,rfl,(hs.step E).ext,?_⟩;unfold cstS;rw[if_neg c,if_pos c2];by_cases hC:ClA X.li X.ag X.ow p.1 p.2
  .rw[if_pos hC,hb2.2 hC];rfl
  .have:b2=false:=by
    cases b2
    .rfl
    .exact absurd (hb2.1 rfl) hC
   rw[if_neg hC,this];rfl
 .refine⟨(p.1:Nat),(p.2:Nat),hs.at 0 rfl (o:=0) (n:=2) rfl,?_⟩;refine (arrives173 b g role X p.1 p.2 ft q h3 (hA.ext hs.ext) gt gq (hq q (Yb gq))).mono ?_;rintro _ h27 ⟨E,rfl⟩;replace hs:=hs.step E;refine⟨_,_,_,_,_,rfl,?_⟩;refine hs.newput (vs:=((arvF ft.l q.2).getD arv0).cs) rfl rfl fun h29 hs=>?_;refine⟨((arvF ft.l q.2).getD arv0).n,hs.rd 0 rfl (i:=1) rfl,hs.ext,?_⟩;unfold cstS;rw[if_neg c,if_neg c2,gt,gq];simp only;cases arvF ft.l q.2<;>rfl
abbrev Pr:=Nat × Nat
def padB (B:List (List Pr)) (m:Nat):List (List Pr):=B++List.replicate (m-B.length) []
def pushB (B:List (List Pr)) (n:Nat) (p:Pr):List (List Pr):=(padB B (n+1)).set n ((padB B (n+1)).getD n []++[p])
def rejB (O:List (Pr × Nat)) (p:Pr) (n:Nat):Bool:=match mget O p with | some k=>decide (k<=n) | none=>false
def lfL (cb ob bb:Nat) (bk:Sl) (O:List (Pr × Nat)) (BS:List (Sl × List Pr)) (R:List It):List It:=
 [.blk cb [.map (some ob)] 293,.mp ob (O.map fun q=>(pV q.1,natV q.2)),.blk bb [.slice bk.a bk.n bk.c] 350,.sl bk 92 1 ((BS.map Prod.fst).map slC)]++BS.map (nest 97 2 pC)++R
theorem app324:appB Pz 350 92 1 24=true:=by kernel_rfl
theorem put_tail {h0 h h10:Heap} {cb ob bb:Nat} {bk:Sl} {O:List (Pr × Nat)} {BS:List (Sl × List Pr)} {R:List It} {p:Pr} {n:Nat} {K:Value->Heap->Prop}
  (hs:St h0 h10 (.blk h.size (pC p) 97::lfL cb ob bb bk O BS R)) (hO:∀q∈O,kokP q.1) (hOn:(O.map Prod.fst).Nodup) (hp:kokP p) (hn:n<=16777216) (hB:BS.length<=16777216) (hBl:∀q∈BS,q.2.length<=1048576)
  (hK:∀(bk':Sl) (BS':List (Sl × List Pr)) (h':Heap),St h0 h' (lfL cb ob bb bk' (mset O p n) BS' R)->BS'.map Prod.snd=pushB (BS.map Prod.snd) n p->K (.tuple ⟨[]⟩) h') :
  V226a h10 ⟨cb,0,none⟩ h (n:Nat) ⟨bb,0,none⟩ K:=by
 unfold V226a;refine⟨some ob,hs.rd 1 rfl (i:=0) rfl,(p.1:Nat),(p.2:Nat),hs.at 0 rfl (o:=0) (n:=2) rfl,?_⟩;refine hs.mput (cv:=natV) (l:=O) M278 2 rfl hO hOn (a:=p) hp n fun h14 hs=>?_;refine⟨fun h' m=>∃(bk':Sl) (BS':List (Sl × List Pr)) (k:Nat),m=n+1-BS'.length/\St h0 h' (.blk h.size (pC p) 97::lfL cb ob bb bk' (mset O p n) BS' R)/\BS'.map Prod.snd=BS.map Prod.snd++List.replicate k []/\(k=0\/BS'.length<=n+1),⟨_,bk,BS,0,rfl,hs,by simp,.inl rfl⟩,?_⟩;clear hs;rintro-h18 m ⟨bk',BS',k,rfl,hs,hBS,hk⟩;have hbl:BS'.length=BS.length+k:=by have:=congrArg List.length hBS;simpa using this
 have hbk:=hs.len 4 (s:=bk') (e:=92) (n:=1) (rows:=(BS'.map Prod.fst).map slC) rfl (by omega);rw[Yc,Yc] at hbk;refine⟨bk',hs.rd 3 rfl (i:=0) rfl,sBi (fun c=>?_) (fun c=>?_)⟩
 .refine⟨bk',hs.rd 3 rfl (i:=0) rfl,?_⟩;refine hs.app 4 rfl app324 (m:=1) [slC ⟨none,0,0⟩] rfl rfl (fun r hr=>by rw[Ye] at hr;rw[hr];rfl) rfl (by omega) (by simp only[maxLen];omega) fun s22 h23 n22 hs=>?_;refine hs.put 3 rfl (o:=0) (vs:=[.slice s22.a s22.n s22.c]) rfl (Yyt 1) fun h24 hs=>?_;have hs:=hs.nil_ 97 2;refine⟨_,?_,s22,BS'++[(⟨none,0,0⟩,[])],k+1,rfl,hs.perm ?_,by rw[Ym,hBS,Yz,List.replicate_succ'];rfl,?_⟩
  .rw[Yh,Yv];omega
  .unfold lfL;rw[Ym (f:=nest 97 2 pC),Ym (f:=Prod.fst),Ym (f:=slC)];have:(BS'.map (nest 97 2 pC)++[(⟨none,0,0⟩,[])].map (nest 97 2 pC):List It)=BS'.map (nest 97 2 pC)++[.sl ⟨none,0,0⟩ 97 2 []]:=rfl;rw[this];refine List.Perm.trans (l₂:=(.blk h.size (pC p) 97::[.blk cb [.map (some ob)] 293,.mp ob ((mset O p n).map fun q=>(pV q.1,natV q.2)),.blk bb [.slice s22.a s22.n s22.c] 350,.sl s22 92 1 ((BS'.map Prod.fst).map slC++[slC ⟨none,0,0⟩])]++BS'.map (nest 97 2 pC)) ++ .sl ⟨none,0,0⟩ 97 2 []::R) ?_ (List.Perm.of_eq (by simp[slC]));refine List.Perm.trans ?_ List.perm_middle.symm;exact List.Perm.of_eq (by simp[splice])
  .right
   rw[Yh,Yv];omega
 .have hnl:n<BS'.length:=by omega
  obtain⟨q,hq⟩:=get_some hnl;have hpad:padB (BS.map Prod.snd) (n+1)=BS'.map Prod.snd:=by
   unfold padB;rw[hBS,Yc];congr 2;omega
  have hql:q.2.length<=1048576:=by
   have h1:(BS'.map Prod.snd)[n]?=some q.2:=by rw[Yd,hq];rfl
   rw[hBS] at h1;rcases Nat.lt_or_ge n BS.length with h9 | h9
   .rw[Yyi (by rw[Yc];exact h9),Yd] at h1;obtain⟨q2,h2,h3⟩:=Yya.1 h1;rw[<-h3];exact hBl q2 (Yb h2)
   .rw[Yyc (by rw[Yc];exact h9)] at h1;have:=List.eq_of_mem_replicate (Yb h1);rw[this];exact Nat.zero_le _
  refine⟨bk',hs.rd 3 rfl (i:=0) rfl,bk',hs.rd 3 rfl (i:=0) rfl,?_⟩;refine (hs.rows 4 rfl (by omega)).nbI (by omega) (by omega) fun b28 o29 d gd u=>?_;replace gd:(BS'.map Prod.fst)[n]?=some d:=gd;rw[Yd,hq] at gd;cases gd;refine⟨q.1,u.hd,(p.1:Nat),(p.2:Nat),hs.at 0 rfl (o:=0) (n:=2) rfl,?_⟩;refine hs.newbE fun h33 E33 hs=>⟨E33.sm,?_⟩;have hs1:St h0 h33 ((.blk h18.size (pC p) 97 :: .blk h.size (pC p) 97::[.blk cb [.map (some ob)] 293,.mp ob ((mset O p n).map fun q=>(pV q.1,natV q.2)),.blk bb [.slice bk'.a bk'.n bk'.c] 350,.sl bk' 92 1 ((BS'.map Prod.fst).map slC)])++BS'.map (nest 97 2 pC)++R):=hs;have hqn:=(hs1.nestLn hq (by omega)).ln;refine hs1.nestAt hq app201 p (hs1.at 0 rfl (o:=0) (n:=2) rfl) rfl rfl (by omega) (by simp only[maxLen];omega) fun r h35 rn hs2=>⟨?_,?_⟩
  .exact sm_cons (hs1.same hs2 4 4 rfl rfl) sm_nil
  .refine hs2.set 5 rfl (by omega) (x:=(n:Nat)) (by omega) (by omega) r rfl rfl (fun b36 o37 h38 hs3=>?_) rfl;refine hK bk' (BS'.set n (r,q.2++[p])) h38 ?_ ?_
   .have:=hs3.drop 2;unfold lfL;rw[List.map_set (f:=Prod.fst)];exact this
   .unfold pushB;rw[hpad,List.map_set,Yo,Yd,hq];rfl
theorem put212 (h0 h:Heap) (cb ob bb:Nat) (bk:Sl) (O:List (Pr × Nat)) (BS:List (Sl × List Pr)) (R:List It) (p:Pr) (n:Nat) (hs:St h0 h (lfL cb ob bb bk O BS R)) (hO:∀q∈O,kokP q.1) (hOn:(O.map Prod.fst).Nodup) (hp:kokP p) (hn:n<=16777216) (hB:BS.length<=16777216) (hBl:∀q∈BS,q.2.length<=1048576) :
  Fn Pz 226 #[.agg ⟨pC p⟩,.int .i64 (n:Nat),.pointer (some ⟨cb,0,none⟩),.pointer (some ⟨bb,0,none⟩)] h fun v h'=>v=.tuple ⟨[]⟩/\∃(bk':Sl) (BS':List (Sl × List Pr)),St h0 h' (lfL cb ob bb bk' (if rejB O p n then O else mset O p n) BS' R)/\BS'.map Prod.snd=if rejB O p n then BS.map Prod.snd else pushB (BS.map Prod.snd) n p:=by
 apply vc226 (p.1:Nat) (p.2:Nat) (n:Nat) ⟨cb,0,none⟩ ⟨bb,0,none⟩;unfold W226;refine hs.newb fun h3 hs=>?_;refine⟨some ob,hs.rd 1 rfl (i:=0) rfl,(p.1:Nat),(p.2:Nat),hs.at 0 rfl (o:=0) (n:=2) rfl,?_⟩;refine hs.mlookOk (cv:=natV) (l:=O) M278 2 rfl hO hOn (a:=p) hp ?_;cases hm:mget O p with
 | none=>
  refine⟨0,false,rfl,sB_f rfl ?_⟩;have hr:rejB O p n=false:=by unfold rejB;rw[hm]
  refine put_tail hs hO hOn hp hn hB hBl fun bk' BS' h' hs' hb=>⟨rfl,bk',BS',?_,?_⟩
  .rw[hr];exact hs'
  .rw[hr];exact hb
 | some k=>
  refine⟨(k:Nat),true,rfl,sB_t rfl ?_⟩;refine sBi (fun c=>?_) (fun c=>?_)
  .have hr:rejB O p n=true:=by unfold rejB;rw[hm];exact decide_eq_true (by omega)
   refine⟨rfl,bk,BS,?_,?_⟩
   .rw[hr];exact hs.drop 1
   .rw[hr];rfl
  .have hr:rejB O p n=false:=by unfold rejB;rw[hm];exact decide_eq_false (by omega)
   refine put_tail hs hO hOn hp hn hB hBl fun bk' BS' h' hs' hb=>⟨rfl,bk',BS',?_,?_⟩
   .rw[hr];exact hs'
   .rw[hr];exact hb
end Go.VC
end

section
namespace Go.VC
def plen (m:Pmv):Nat:=if 0<=m.x/\0<=m.y then 2 else 1
theorem plen_pos (m:Pmv):1<=plen m/\plen m<=2:=by unfold plen;split<;>omega
inductive Dn (mv:Pr->List Pmv) (cst:Pr->Option Nat):Pr->Nat->Prop where
 | base {p:Pr} {c:Nat}:cst p=some c->Dn mv cst p c
 | step {p:Pr} {m:Pmv} {n:Nat}:m∈mv p->Dn mv cst (pto m) n->Dn mv cst p (n+plen m)
def Lst (mv:Pr->List Pmv) (cst:Pr->Option Nat) (p:Pr) (n:Nat):Prop:=Dn mv cst p n/\∀k,Dn mv cst p k->n<=k
theorem padB_get {B:List (List Pr)} {m n:Nat} {l:List Pr} (h:(padB B n)[m]?=some l):B[m]?=some l\/l=[]:=by
 unfold padB at h;rcases Nat.lt_or_ge m B.length with h1 | h1
 .rw[Yyi h1] at h;exact .inl h
 .rw[Yyc h1] at h;exact .inr (List.eq_of_mem_replicate (Yb h))
theorem padB_old {B:List (List Pr)} {m n:Nat} {l:List Pr} (h:B[m]?=some l):(padB B n)[m]?=some l:=by
 unfold padB;rw[Yyi (Ya.1 h).1];exact h
theorem padB_len (B:List (List Pr)) (n:Nat):(padB B n).length=max B.length n:=by
 unfold padB;rw[Yh,Yg];omega
theorem pushB_len (B:List (List Pr)) (n:Nat) (p:Pr):(pushB B n p).length=max B.length (n+1):=by
 unfold pushB;rw[Yyh,padB_len]
theorem pushB_at (B:List (List Pr)) (n:Nat) (p:Pr):∃l0,(B[n]?=some l0\/l0=[])/\(padB B (n+1))[n]?=some l0/\(pushB B n p)[n]?=some (l0++[p]):=by
 have hl:n<(padB B (n+1)).length:=by rw[padB_len];omega
 obtain⟨l0,h0⟩:=get_some hl;refine⟨l0,padB_get h0,h0,?_⟩;unfold pushB;rw[Yq hl,Yo,h0];rfl
theorem pushB_in {B:List (List Pr)} {n m:Nat} {p x:Pr} {l:List Pr} (h:(pushB B n p)[m]?=some l) (hx:x∈l):(∃l0,B[m]?=some l0/\x∈l0)\/(m=n/\x=p):=by
 by_cases e:n=m
 .subst e;obtain⟨l0,h1,_,h2⟩:=pushB_at B n p;rw[h2] at h;cases h;rcases Yk.1 hx with hx | hx
  .rcases h1 with h1 | h1
   .exact .inl ⟨l0,h1,hx⟩
   .subst h1;cases hx
  .exact .inr ⟨rfl,by simpa using hx⟩
 .unfold pushB at h;rw[Yy e] at h;rcases padB_get h with h1 | h1
  .exact .inl ⟨l,h1,hx⟩
  .subst h1;cases hx
theorem pushB_old {B:List (List Pr)} {n m:Nat} {p:Pr} {l0:List Pr} (h:B[m]?=some l0):∃l,(pushB B n p)[m]?=some l/\(l=l0\/(m=n/\l=l0++[p])):=by
 by_cases e:n=m
 .subst e;obtain⟨l1,_,h1,h2⟩:=pushB_at B n p;rw[padB_old h] at h1;cases h1;exact⟨_,h2,.inr ⟨rfl,rfl⟩⟩
 .refine⟨l0,?_,.inl rfl⟩;unfold pushB;rw[Yy e];exact padB_old h
structure OB (A:List Pr) (mv:Pr->List Pmv) (cst:Pr->Option Nat) (O:List (Pr × Nat)) (B:List (List Pr)):Prop where
 on:(O.map Prod.fst).Nodup
 oa:∀q∈O,q.1∈A
 d:∀p n,mget O p=some n->Dn mv cst p n
 b1:∀(n:Nat) (l:List Pr),B[n]?=some l->∀p∈l,p∈A/\∃k,k<=n/\mget O p=some k
 b2:∀p n,mget O p=some n->∃l,B[n]?=some l/\p∈l
 nd:∀(n:Nat) (l:List Pr),B[n]?=some l->l.Nodup
def putO (O:List (Pr × Nat)) (p:Pr) (n:Nat):List (Pr × Nat):=if rejB O p n then O else mset O p n
def putB (O:List (Pr × Nat)) (B:List (List Pr)) (p:Pr) (n:Nat):List (List Pr):=if rejB O p n then B else pushB B n p
theorem rej_t {O:List (Pr × Nat)} {p:Pr} {n:Nat}:rejB O p n=true ↔ ∃k,k<=n/\mget O p=some k:=by
 unfold rejB;cases h:mget O p with
 | none=>simp
 | some k=>simp
theorem OB.put {A:List Pr} {mv:Pr->List Pmv} {cst:Pr->Option Nat} {O:List (Pr × Nat)} {B:List (List Pr)} (h:OB A mv cst O B) {p:Pr} {n:Nat} (hp:p∈A) (hd:Dn mv cst p n):OB A mv cst (putO O p n) (putB O B p n):=by
 unfold putO putB;by_cases hr:rejB O p n=true
 .rw[if_pos hr,if_pos hr];exact h
 .rw[if_neg hr,if_neg hr];have hno:¬∃k,k<=n/\mget O p=some k:=fun h9=>hr (rej_t.2 h9);refine⟨mset_nodup _ _ _ h.on,fun q hq=>?_,fun x m hx=>?_,fun m l hl x hx=>?_,fun x m hx=>?_,fun m l hl=>?_⟩
  .have:=(mset_keys p n O q.1).1 (Yp.2 ⟨q,hq,rfl⟩);rcases this with h1 | h1
   .obtain⟨q2,h2,h3⟩:=Yp.1 h1;rw[<-h3];exact h.oa q2 h2
   .rw[h1];exact hp
  .rw[mget_set] at hx;split at hx
   .rename_i e;cases hx;rw[e];exact hd
   .exact h.d x m hx
  .rw[mget_set];rcases pushB_in hl hx with ⟨l0,h1,h2⟩ | ⟨h1,h2⟩
   .obtain⟨h3,k,h4,h5⟩:=h.b1 m l0 h1 x h2;refine⟨h3,?_⟩;by_cases e:x=p
    .refine⟨n,?_,by rw[if_pos e]⟩;subst e;rcases Nat.lt_or_ge n k with h6 | h6
     .omega
     .exact absurd ⟨k,h6,h5⟩ hno
    .exact⟨k,h4,by rw[if_neg e];exact h5⟩
   .subst h2;exact⟨hp,n,by omega,by rw[if_pos rfl]⟩
  .rw[mget_set] at hx;split at hx
   .rename_i e;cases hx;subst e;obtain⟨l0,_,_,h2⟩:=pushB_at B n x;exact⟨_,h2,by simp⟩
   .obtain⟨l0,h1,h2⟩:=h.b2 x m hx;obtain⟨l,h3,h4⟩:=pushB_old (n:=n) (p:=p) h1;refine⟨l,h3,?_⟩;rcases h4 with rfl | ⟨_,rfl⟩
    .exact h2
    .exact List.mem_append_left _ h2
  .by_cases e:n=m
   .subst e;obtain⟨l0,h1,_,h2⟩:=pushB_at B n p;rw[h2] at hl;cases hl;rw[List.nodup_append];refine⟨?_,by simp,fun a ha b hb e=>?_⟩
    .rcases h1 with h1 | h1
     .exact h.nd n l0 h1
     .subst h1;exact .nil
    .rw[Ye] at hb;subst hb;subst e;rcases h1 with h1 | h1
     .obtain⟨_,k,h4,h5⟩:=h.b1 n l0 h1 a ha;exact hno ⟨k,h4,h5⟩
     .subst h1;cases ha
   .unfold pushB at hl;rw[Yy e] at hl;rcases padB_get hl with h1 | h1
    .exact h.nd m l h1
    .subst h1;exact .nil
theorem putO_le {O:List (Pr × Nat)} {p x:Pr} {n k:Nat} (h:mget O x=some k):∃k',k'<=k/\mget (putO O p n) x=some k':=by
 unfold putO;by_cases hr:rejB O p n=true
 .rw[if_pos hr];exact⟨k,Yyt _,h⟩
 .rw[if_neg hr,mget_set];by_cases e:x=p
  .refine⟨n,?_,by rw[if_pos e]⟩;subst e;rcases Nat.lt_or_ge n k with h6 | h6
   .omega
   .exact absurd (rej_t.2 ⟨k,h6,h⟩) hr
  .exact⟨k,Yyt _,by rw[if_neg e];exact h⟩
theorem putO_at (O:List (Pr × Nat)) (p:Pr) (n:Nat):∃k',k'<=n/\mget (putO O p n) p=some k':=by
 unfold putO;by_cases hr:rejB O p n=true
 .rw[if_pos hr];exact rej_t.1 hr
 .rw[if_neg hr,mget_set,if_pos rfl];exact⟨n,Yyt _,rfl⟩
theorem putO_fix {O:List (Pr × Nat)} {p x:Pr} {n k:Nat} (h:mget O x=some k) (hk:k<=n):mget (putO O p n) x=some k:=by
 unfold putO;by_cases hr:rejB O p n=true
 .rw[if_pos hr];exact h
 .rw[if_neg hr,mget_set,if_neg (fun e=>hr (rej_t.2 ⟨k,hk,by rw[<-e];exact h⟩))];exact h
theorem putO_new {O:List (Pr × Nat)} {p x:Pr} {n k:Nat} (h:mget (putO O p n) x=some k):mget O x=some k\/(x=p/\k=n):=by
 unfold putO at h;by_cases hr:rejB O p n=true
 .rw[if_pos hr] at h;exact .inl h
 .rw[if_neg hr,mget_set] at h;split at h
  .rename_i e;cases h;exact .inr ⟨e,rfl⟩
  .exact .inl h
theorem putB_len (O:List (Pr × Nat)) (B:List (List Pr)) (p:Pr) (n:Nat):(putB O B p n).length<=max B.length (n+1):=by
 unfold putB;split
 .omega
 .rw[pushB_len];exact Yyt _
theorem putB_same {O:List (Pr × Nat)} {B:List (List Pr)} {p:Pr} {n m:Nat} {l:List Pr} (h:B[m]?=some l) (hm:m≠n):(putB O B p n)[m]?=some l:=by
 unfold putB;split
 .exact h
 .obtain⟨l',h1,h2⟩:=pushB_old (n:=n) (p:=p) h;rcases h2 with rfl | ⟨h2,_⟩
  .exact h1
  .exact absurd h2 hm
structure LfI (A:List Pr) (mv:Pr->List Pmv) (cst:Pr->Option Nat) (C n i:Nat) (Z:List Pr) (O:List (Pr × Nat)) (B:List (List Pr)):Prop where
 ob:OB A mv cst O B
 c:∀p∈A,∀c,cst p=some c->∃k,k<=c/\mget O p=some k
 zn:Z.Nodup
 za:∀p∈Z,p∈A
 f:∀p∈Z,∃k,mget O p=some k/\(k<n\/(k=n/\∃l,B[n]?=some l/\p∈l.take i))/\∀q∈A,∀m∈mv q,pto m=p->∃k',k'<=k+plen m/\mget O q=some k'
 g:∀p k,mget O p=some k->(k<n\/(k=n/\∃l,B[n]?=some l/\p∈l.take i))->p∈Z
 ln:B.length<=C+2*Z.length
theorem LfI.start {A:List Pr} {mv:Pr->List Pmv} {cst:Pr->Option Nat} {C:Nat} {O:List (Pr × Nat)} {B:List (List Pr)} (h:OB A mv cst O B) (hc:∀p∈A,∀c,cst p=some c->∃k,k<=c/\mget O p=some k) (hl:B.length<=C):LfI A mv cst C 0 0 [] O B:=
 ⟨h,hc,.nil,fun p hp=>(by cases hp),fun p hp=>(by cases hp),fun p k _ hk=>(by rcases hk with hk | ⟨_,l,_,hk⟩;omega;simp at hk),by simpa using hl⟩
theorem LfI.next {A:List Pr} {mv:Pr->List Pmv} {cst:Pr->Option Nat} {C n i:Nat} {Z:List Pr} {O:List (Pr × Nat)} {B:List (List Pr)} (h:LfI A mv cst C n i Z O B) {l:List Pr} (hl:B[n]?=some l) (hi:l.length<=i):LfI A mv cst C (n+1) 0 Z O B:=by
 refine⟨h.ob,h.c,h.zn,h.za,fun p hp=>?_,fun p k hk h1=>?_,h.ln⟩
 .obtain⟨k,h1,h2,h3⟩:=h.f p hp;exact⟨k,h1,.inl (by omega),h3⟩
 .refine h.g p k hk ?_;rcases h1 with h1 | ⟨_,l',_,h1⟩
  .by_cases e:k<n
   .exact .inl e
   .obtain rfl:k=n:=by omega
    obtain⟨l2,h4,h5⟩:=h.ob.b2 p k hk;rw[hl] at h4;cases h4;exact .inr ⟨rfl,l,hl,by rw[Yj hi];exact h5⟩
  .simp at h1
theorem LfI.skip {A:List Pr} {mv:Pr->List Pmv} {cst:Pr->Option Nat} {C n i:Nat} {Z:List Pr} {O:List (Pr × Nat)} {B:List (List Pr)} (h:LfI A mv cst C n i Z O B) {l:List Pr} (hl:B[n]?=some l) {p:Pr} (hp:l[i]?=some p) (hne:mget O p≠some n):LfI A mv cst C n (i+1) Z O B:=by
 refine⟨h.ob,h.c,h.zn,h.za,fun q hq=>?_,fun q k hk h1=>?_,h.ln⟩
 .obtain⟨k,h1,h2,h3⟩:=h.f q hq;refine⟨k,h1,h2.imp_right fun ⟨h4,l',h5,h6⟩=>⟨h4,l',h5,?_⟩,h3⟩;rw[hl] at h5;cases h5;rw[take_snoc hp];exact List.mem_append_left _ h6
 .refine h.g q k hk (h1.imp_right fun ⟨h4,l',h5,h6⟩=>⟨h4,l',h5,?_⟩);rw[hl] at h5;cases h5;rw[take_snoc hp,Yk,Ye] at h6;rcases h6 with h6 | rfl
  .exact h6
  .exact absurd (h4 ▸ hk) hne
structure LfJ (A:List Pr) (mv:Pr->List Pmv) (cst:Pr->Option Nat) (C n i:Nat) (Z:List Pr) (p:Pr) (rec:List Pmv) (j:Nat) (O:List (Pr × Nat)) (B:List (List Pr)):Prop where
 ob:OB A mv cst O B
 c:∀p∈A,∀c,cst p=some c->∃k,k<=c/\mget O p=some k
 f:∀q∈Z,∃k,mget O q=some k/\(k<n\/(k=n/\∃l,B[n]?=some l/\q∈l.take i))/\∀q'∈A,∀m∈mv q',pto m=q->∃k',k'<=k+plen m/\mget O q'=some k'
 g:∀q k,mget O q=some k->(k<n\/(k=n/\∃l,B[n]?=some l/\q∈l.take i))->q∈Z
 pn:mget O p=some n
 bn:∃l,B[n]?=some l/\l[i]?=some p
 r:∀m∈rec.take j,∃k',k'<=n+plen m/\mget O (pto m)=some k'
 ln:B.length<=C+2*(Z.length+1)
theorem LfI.take {A:List Pr} {mv:Pr->List Pmv} {cst:Pr->Option Nat} {C n i:Nat} {Z:List Pr} {O:List (Pr × Nat)} {B:List (List Pr)} (h:LfI A mv cst C n i Z O B) {l:List Pr} (hl:B[n]?=some l) {p:Pr} (hp:l[i]?=some p) (he:mget O p=some n) (rec:List Pmv):LfJ A mv cst C n i Z p rec 0 O B:=
 ⟨h.ob,h.c,h.f,h.g,he,⟨l,hl,hp⟩,fun m hm=>(by simp at hm),by have:=h.ln;omega⟩
theorem LfJ.put {A:List Pr} {mv:Pr->List Pmv} {cst:Pr->Option Nat} {C n i:Nat} {Z:List Pr} {p:Pr} {rec:List Pmv} {j:Nat} {O:List (Pr × Nat)} {B:List (List Pr)} (h:LfJ A mv cst C n i Z p rec j O B) (hl0:n+1<=C+2*Z.length) {m:Pmv} (hm:rec[j]?=some m) (ha:pto m∈A) (hd:Dn mv cst (pto m) (n+plen m)) :
  LfJ A mv cst C n i Z p rec (j+1) (putO O (pto m) (n+plen m)) (putB O B (pto m) (n+plen m)):=by
 have hpl:=plen_pos m;have keep:∀ {m':Nat} {l:List Pr},m'<=n->B[m']?=some l->(putB O B (pto m) (n+plen m))[m']?=some l:=fun {m' l} h1 h2=>putB_same h2 (by omega);have bk:∀ {l:List Pr},(putB O B (pto m) (n+plen m))[n]?=some l->B[n]?=some l:=fun {l} h1=>by
  obtain⟨l0,h2,_⟩:=h.bn;rw[keep (Yyt _) h2] at h1;cases h1;exact h2
 refine⟨h.ob.put ha hd,fun q hq c hc=>?_,fun q hq=>?_,fun q k hk h1=>?_,putO_fix h.pn (by omega),?_,fun m' hm'=>?_,?_⟩
 .obtain⟨k,h1,h2⟩:=h.c q hq c hc;obtain⟨k',h3,h4⟩:=putO_le (p:=pto m) (n:=n+plen m) h2;exact⟨k',by omega,h4⟩
 .obtain⟨k,h1,h2,h3⟩:=h.f q hq;refine⟨k,putO_fix h1 (by rcases h2 with h2 | ⟨h2,_⟩<;>omega),h2.imp_right fun ⟨h4,l,h5,h6⟩=>⟨h4,l,keep (Yyt _) h5,h6⟩,fun q' hq' m' hm' he=>?_⟩;obtain⟨k',h4,h5⟩:=h3 q' hq' m' hm' he;obtain⟨k2,h6,h7⟩:=putO_le (p:=pto m) (n:=n+plen m) h5;exact⟨k2,by omega,h7⟩
 .rcases putO_new hk with h2 | ⟨_,h2⟩
  .exact h.g q k h2 (h1.imp_right fun ⟨h4,l,h5,h6⟩=>⟨h4,l,bk h5,h6⟩)
  .rcases h1 with h1 | ⟨h1,_⟩<;>omega
 .obtain⟨l,h1,h2⟩:=h.bn;exact⟨l,keep (Yyt _) h1,h2⟩
 .rw[take_snoc hm,Yk,Ye] at hm';rcases hm' with hm' | rfl
  .obtain⟨k,h1,h2⟩:=h.r m' hm';obtain⟨k',h3,h4⟩:=putO_le (p:=pto m) (n:=n+plen m) h2;exact⟨k',by omega,h4⟩
  .exact putO_at O (pto m') (n+plen m')
 .have h1:=putB_len O B (pto m) (n+plen m);have h2:=h.ln;omega
theorem LfJ.fin {A:List Pr} {mv:Pr->List Pmv} {cst:Pr->Option Nat} {C n i:Nat} {Z:List Pr} {p:Pr} {rec:List Pmv} {j:Nat} {O:List (Pr × Nat)} {B:List (List Pr)} (h:LfJ A mv cst C n i Z p rec j O B) (hj:rec.length<=j) (hpA:p∈A) (hz:Z.Nodup) (hza:∀p∈Z,p∈A)
  (hrec:∀q∈A,∀m∈mv q,pto m=p->∃r∈rec,pto r=q/\plen r=plen m):LfI A mv cst C n (i+1) (p::Z) O B:=by
 obtain⟨l,hl,hp⟩:=h.bn;have hpZ:p∉Z:=fun hm=>by
  obtain⟨k,h1,h2,_⟩:=h.f p hm;rw[h.pn] at h1;cases h1;rcases h2 with h2 | ⟨_,l',h3,h4⟩
  .omega
  .rw[hl] at h3;cases h3;obtain⟨a,ha⟩:=Yf.1 h4;rw[Yyf] at ha;split at ha
   .have:=nodup_ix (h.ob.nd n l hl) ha hp;omega
   .cases ha
 refine⟨h.ob,h.c,List.nodup_cons.2 ⟨hpZ,hz⟩,fun q hq=>?_,fun q hq=>?_,fun q k hk h1=>?_,?_⟩
 .rcases Yr.1 hq with rfl | hq
  .exact hpA
  .exact hza q hq
 .rcases Yr.1 hq with rfl | hq
  .refine⟨n,h.pn,.inr ⟨rfl,l,hl,by rw[take_snoc hp];simp⟩,fun q' hq' m hm he=>?_⟩;obtain⟨r,h1,h2,h3⟩:=hrec q' hq' m hm he;obtain⟨k',h4,h5⟩:=h.r r (by rw[Yj hj];exact h1);rw[h2] at h5;exact⟨k',by omega,h5⟩
  .obtain⟨k,h1,h2,h3⟩:=h.f q hq;refine⟨k,h1,h2.imp_right fun ⟨h4,l',h5,h6⟩=>⟨h4,l',h5,?_⟩,h3⟩;rw[hl] at h5;cases h5;rw[take_snoc hp];exact List.mem_append_left _ h6
 .by_cases e:q=p
  .rw[e];exact Yx
  .refine Yn _ (h.g q k hk (h1.imp_right fun ⟨h4,l',h5,h6⟩=>⟨h4,l',h5,?_⟩));rw[hl] at h5;cases h5;rw[take_snoc hp,Yk,Ye] at h6;exact h6.resolve_right e
 .have:=h.ln;rw[Yyj];exact this
theorem LfI.fin {A:List Pr} {mv:Pr->List Pmv} {cst:Pr->Option Nat} {C n i:Nat} {Z:List Pr} {O:List (Pr × Nat)} {B:List (List Pr)} (h:LfI A mv cst C n i Z O B) (hn:B.length<=n) (hcl:∀p∈A,∀m∈mv p,pto m∈A) {p:Pr} (hp:p∈A) (k:Nat):(mget O p=some k ↔ Lst mv cst p k)/\(mget O p=some k->k<B.length):=by
 have hin:∀ {q:Pr} {k:Nat},mget O q=some k->k<B.length:=fun {q k} hk=>by
  obtain⟨l,h1,_⟩:=h.ob.b2 q k hk;exact (Ya.1 h1).1
 have key:∀ {q:Pr} {k:Nat},Dn mv cst q k->q∈A->∃k',k'<=k/\mget O q=some k':=fun {q k} hd=>by
  induction hd with
  | base hc=>exact fun hq=>h.c _ hq _ hc
  | @step q m k hm _ ih=>
   intro hq;obtain⟨k1,h1,h2⟩:=ih (hcl q hq m hm);have h3:=h.g _ _ h2 (.inl (by have:=hin h2;omega));obtain⟨k2,h4,_,h5⟩:=h.f _ h3;rw[h2] at h4;cases h4;obtain⟨k',h6,h7⟩:=h5 q hq m hm rfl;exact⟨k',by omega,h7⟩
 refine⟨⟨fun hk=>⟨h.ob.d p k hk,fun k2 hd=>?_⟩,fun ⟨h1,h2⟩=>?_⟩,hin⟩
 .obtain⟨k',h3,h4⟩:=key hd hp;rw[hk] at h4;cases h4;exact h3
 .obtain⟨k',h3,h4⟩:=key h1 hp;have h5:=h2 k' (h.ob.d p k' h4);rw[h4,show k'=k by omega]
end Go.VC
end

section
namespace Go.VC
open Go.Proofs Go.LexS
abbrev NE:=Pr × (Sl × List Pmv)
def nsI (e:NE):It:=nest 200 4 Pmv.cs e.2
def nkv (N:List NE):List (Pr × Sl):=N.map fun e=>(e.1,e.2.1)
def RecN (N:List NE) (q:Pr) (r:Pmv):Prop:=∃e∈N,e.1=q/\r∈e.2.2
def totN (N:List NE):Nat:=(N.map fun e=>e.2.2.length).sum
structure UpN (N:List NE) (a:Pr) (r:Pmv) (N':List NE):Prop where
 nd:(N'.map Prod.fst).Nodup
 ky:∀x,x∈N'.map Prod.fst ↔ x∈N.map Prod.fst\/x=a
 rc:∀q r',RecN N' q r' ↔ RecN N q r'\/(q=a/\r'=r)
 tot:totN N'=totN N+1
theorem nkv_fst (N:List NE):(nkv N).map Prod.fst=N.map Prod.fst:=by unfold nkv;rw[List.map_map];rfl
theorem split_at {α:Type} {l:List α} {j:Nat} {e:α} (h:l[j]?=some e):∃A B,l=A++e::B/\j=A.length:=by
 obtain⟨h1,h2⟩:=Ya.1 h;refine⟨l.take j,l.drop (j+1),?_,by rw[Yu];omega⟩;rw[<-h2,<-List.drop_eq_getElem_cons h1,List.take_append_drop]
theorem perm_f {α:Type} (x y e:α) (A R:List α):(x::y::(A++e::R)).Perm (e::x::y::(A++R)):=
 (((List.perm_middle (l₁:=A) (a:=e) (l₂:=R)).cons y).cons x).trans (((List.Perm.swap e y _).cons x).trans (List.Perm.swap e x _))
theorem UpN.old {A B:List NE} {a:Pr} {s s':Sl} {rows:List Pmv} (r:Pmv) (hn:((A++(a,(s,rows))::B).map Prod.fst).Nodup):UpN (A++(a,(s,rows))::B) a r (A++(a,(s',rows++[r]))::B):=by
 have e1:(A++(a,(s',rows++[r]))::B).map Prod.fst=(A++(a,(s,rows))::B).map Prod.fst:=by simp
 refine⟨by rw[e1];exact hn,fun x=>by rw[e1];exact⟨.inl,fun h=>h.elim id fun e=>by rw[e];simp⟩,fun q r'=>?_,?_⟩
 .unfold RecN;constructor
  .rintro⟨e,he,h1,h2⟩;rcases Yk.1 he with he | he
   .exact .inl ⟨e,List.mem_append_left _ he,h1,h2⟩
   .rcases Yr.1 he with rfl | he
    .simp only at h1 h2;rcases Yk.1 h2 with h2 | h2
     .exact .inl ⟨(a,(s,rows)),by simp,h1,h2⟩
     .exact .inr ⟨h1.symm,by simpa using h2⟩
    .exact .inl ⟨e,by simp[he],h1,h2⟩
  .rintro (⟨e,he,h1,h2⟩ | ⟨rfl,rfl⟩)
   .rcases Yk.1 he with he | he
    .exact⟨e,List.mem_append_left _ he,h1,h2⟩
    .rcases Yr.1 he with rfl | he
     .exact⟨(a,(s',rows++[r])),by simp,h1,List.mem_append_left _ h2⟩
     .exact⟨e,by simp[he],h1,h2⟩
   .exact⟨(q,(s',rows++[r'])),by simp,rfl,by simp⟩
 .unfold totN;simp only[Ym,Yyl,List.sum_append,List.sum_cons,Yh,Yv];omega
theorem UpN.new {N:List NE} {a:Pr} {s':Sl} (r:Pmv) (hn:(N.map Prod.fst).Nodup) (ha:a∉N.map Prod.fst):UpN N a r (N++[(a,(s',[r]))]):=by
 refine⟨?_,fun x=>by rw[Ym,Yk];simp,fun q r'=>?_,?_⟩
 .rw[Ym,List.nodup_append];exact⟨hn,by simp,fun x hx y hy e=>by simp only[Yyl,List.map_nil,Ye] at hy;subst hy;subst e;exact ha hx⟩
 .unfold RecN;constructor
  .rintro⟨e,he,h1,h2⟩;rcases Yk.1 he with he | he
   .exact .inl ⟨e,he,h1,h2⟩
   .rw[Ye] at he;subst he;exact .inr ⟨h1.symm,by simpa using h2⟩
  .rintro (⟨e,he,h1,h2⟩ | ⟨rfl,rfl⟩)
   .exact⟨e,List.mem_append_left _ he,h1,h2⟩
   .exact⟨(q,(s',[r'])),by simp,rfl,by simp⟩
 .unfold totN;rw[Ym,List.sum_append];simp
theorem tot_le {N:List NE} {e:NE} (h:e∈N):e.2.2.length<=totN N:=by
 obtain⟨A,B,rfl⟩:=List.append_of_mem h;unfold totN;simp only[Ym,Yyl,List.sum_append,List.sum_cons];omega
theorem into_step {h0 h:Heap} {rb ib:Nat} {N:List NE} {R:List It} {r:Pmv} {a:Pr} {K:Heap->Prop} (hs:St h0 h (.blk rb r.cs 200 :: .mp ib ((nkv N).map fun q=>(pV q.1,slV q.2))::(N.map nsI++R)))
  (hN:(N.map Prod.fst).Nodup) (hk:∀x∈N.map Prod.fst,kokP x) (ha:kokP a) (ht:totN N<=10000000000)
  (hK:∀(h':Heap) (N':List NE),St h0 h' (.blk rb r.cs 200 :: .mp ib ((nkv N').map fun q=>(pV q.1,slV q.2))::(N'.map nsI++R))->UpN N a r N'->K h') :
  RunW Pz (Instr.mapEntry 93 (.map (some ib)) (pV a)) h fun v46 h47=>∃x48:Sl,∃n49:Int,v46=.tuple ⟨[.slice x48.a x48.n x48.c,.int .i64 n49]⟩ /\
   (App Pz 197 197 (.slice x48.a x48.n x48.c) (.slice (some ⟨rb,0,none⟩) 1 1) h47 fun s50 h51=>(RunW Pz (Instr.entryStore 93 (.map (some ib)) (.int .i64 n49) (.slice s50.a s50.n s50.c)) h51 (fun _ h52=>K h52))):=by
 have hn':((nkv N).map Prod.fst).Nodup:=by rw[nkv_fst];exact hN
 refine hs.mentry (cv:=slV) (l:=nkv N) M202 1 rfl (fun q hq=>hk _ (by rw[<-nkv_fst];exact Yp.2 ⟨q,hq,rfl⟩)) hn' ha fun st o h47 hs hst=>?_;replace hs:St h0 h47 (.blk rb r.cs 200 :: .raw ib o::(N.map nsI++R)):=hs;have one:([r.cs].flatten).all oneB=true:=rfl;by_cases hin:a∈N.map Prod.fst
 .obtain⟨e,he,rfl⟩:=Yp.1 hin;obtain⟨A,B,rfl⟩:=List.append_of_mem he;obtain⟨a,s,rows⟩:=e;have hj:(nkv (A++(a,(s,rows))::B))[A.length]?=some (a,s):=by unfold nkv;simp
  have hg:mget (nkv (A++(a,(s,rows))::B)) a=some s:=mget_some hn' hj;have hm:∀y:Sl,mset (nkv (A++(a,(s,rows))::B)) a y=nkv (A++(a,(y,rows++[r]))::B):=fun y=>by
   rw[mset_some hn' hj];unfold nkv;simp
  simp only at hst ⊢;rw[hg];refine⟨s,st,rfl,?_⟩;rw[Ym,Yyl,Yz,List.cons_append] at hs;replace hs:=hs.perm (perm_f _ _ _ _ _);have hlen:=hs.len 0 (s:=s) (e:=200) (n:=4) (rows:=rows.map Pmv.cs) rfl (by omega);rw[Yc] at hlen;have htl:=tot_le he;simp only at htl;refine hs.appended 0 (news:=[r.cs]) rfl app273 (hs.at 1 rfl (o:=0) (n:=4) rfl) rfl (fun q hq=>by rw[Ye] at hq;rw[hq];rfl) one (by show (s.n+1)*32<=140737488355328;omega) (by show s.n+1<=9223372036854775807;omega) fun s50 h51 n50 hs=>?_;refine hs.mstore 2 rfl hst s50 fun h52 hs=>?_;refine hK h52 (A++(a,(s50,rows++[r]))::B) ?_ (UpN.old r hN);rw[hm] at hs;rw[Ym (f:=nsI),Yyl,Yz,List.cons_append];refine hs.perm (List.Perm.trans ?_ (perm_f _ _ _ _ _).symm);refine List.Perm.of_eq ?_;simp[nsI,nest]
 .have hg:mget (nkv N) a=none:=mget_none fun q hq e=>hin (by rw[<-nkv_fst];exact Yp.2 ⟨q,hq,e⟩);have hm:∀y:Sl,mset (nkv N) a y=nkv (N++[(a,(y,[r]))]):=fun y=>by
   rw[mset_none fun q hq e=>hin (by rw[<-nkv_fst];exact Yp.2 ⟨q,hq,e⟩)];unfold nkv;simp
  rw[hg];refine⟨⟨none,0,0⟩,st,rfl,?_⟩;replace hs:=hs.nil_ 200 4;refine hs.appended 0 (news:=[r.cs]) rfl app273 (hs.at 1 rfl (o:=0) (n:=4) rfl) rfl (fun q hq=>by rw[Ye] at hq;rw[hq];rfl) one (by show (0+1)*32<=140737488355328;decide) (by show 0+1<=9223372036854775807;decide) fun s50 h51 n50 hs=>?_;refine hs.mstore 2 rfl hst s50 fun h52 hs=>?_;refine hK h52 (N++[(a,(s50,[r]))]) ?_ (UpN.new r hN hin);rw[hm] at hs;rw[Ym (f:=nsI),Yz];exact hs.perm (perm_f _ _ _ _ _).symm
theorem St.mmakeN {P:Program} {h0 h:Heap} {L:List It} (hs:St h0 h L) {t kt e:TypeId} (ht:P.underlying t=some (.map kt e)) (n:Int) {K:Value->Heap->Prop} (hK:∀h',Ext h h'->St h0 h' (.mp h.size []::L)->K (.map (some h.size)) h'):RunW P (Instr.makeMap t (some (.int .i64 n))) h K:=by
 intro w hw;subst hw;obtain⟨v,w',h1,h2⟩:=hs.mmake (P:=P) t hK w rfl;refine⟨v,w',?_,h2⟩;rw[<-h1];simp[Instr.makeMap,run_underlying ht,asInt,asIntOf,Result.andThen]
theorem St.rwm {h0 h:Heap} {L:List It} (hs:St h0 h L) {s:Sl} {e:TypeId} {n:Nat} {rows:List (List Value)} (hi:.sl s e n rows∈L) (hn:0<n):Rw h n s rows:=(hs.ok _ hi).1.1.rw (hs.ok _ hi).1.2 hn
theorem lf_perm {cb ob bb:Nat} {bk:Sl} {O:List (Pr × Nat)} {BS:List (Sl × List Pr)} {z:It} {NS:List It}:(lfL cb ob bb bk O BS (z::NS)).Perm (z::(NS++lfL cb ob bb bk O BS [])):=by
 have e:∀R,lfL cb ob bb bk O BS R=lfL cb ob bb bk O BS []++R:=fun R=>by unfold lfL;simp
 rw[e (z::NS)];exact List.perm_middle.trans (List.perm_append_comm.cons _)
theorem perm_mid2 {α:Type} (c a b z:α) (NS R:List α):(c::a::b::z::(NS++R)).Perm (c::z::(NS++a::b::R)):=by
 refine List.Perm.cons _ ?_;refine (List.Perm.cons a (List.Perm.swap z b _)).trans ((List.Perm.swap z a _).trans (List.Perm.cons z ?_));refine (List.Perm.trans ?_ List.perm_middle.symm);exact List.Perm.cons a List.perm_middle.symm
noncomputable def cstN (X:An) (kind:Int) (p:Pr):Option Nat:=(cstS X kind p).map Int.toNat
def mvP (g:Gl) (role:Int) (p:Pr):List Pmv:=movL g.es role p.1 p.2
def recO (p:Pr) (m:Pmv):Pmv:=⟨m.x,m.y,(p.1:Nat),(p.2:Nat)⟩
structure L1q (A:List Pr) (mv:Pr->List Pmv) (cst:Pr->Option Nat) (CB i:Nat) (O:List (Pr × Nat)) (B:List (List Pr)) (N:List NE):Prop where
 ob:OB A mv cst O B
 c:∀p∈A.take i,∀c,cst p=some c->∃k,k<=c/\mget O p=some k
 ln:B.length<=CB
 nn:(N.map Prod.fst).Nodup
 nk:∀x∈N.map Prod.fst,x∈A
 rc:∀q r,RecN N q r ↔ ∃p∈A.take i,∃m∈mv p,pto m=q/\r=recO p m
 tot:totN N<=i*160800
structure L2q (A:List Pr) (mv:Pr->List Pmv) (i j:Nat) (p:Pr) (N:List NE):Prop where
 nn:(N.map Prod.fst).Nodup
 nk:∀x∈N.map Prod.fst,x∈A
 rc:∀q r,RecN N q r ↔ (∃p∈A.take i,∃m∈mv p,pto m=q/\r=recO p m)\/∃m∈(mv p).take j,pto m=q/\r=recO p m
 tot:totN N<=i*160800+j
theorem L2q.step {A:List Pr} {mv:Pr->List Pmv} {i j:Nat} {p:Pr} {N N':List NE} (h:L2q A mv i j p N) {m:Pmv} (hm:(mv p)[j]?=some m) (ha:pto m∈A) (hu:UpN N (pto m) (recO p m) N'):L2q A mv i (j+1) p N':=by
 refine⟨hu.nd,fun x hx=>?_,fun q r=>?_,by rw[hu.tot];have:=h.tot;omega⟩
 .rcases (hu.ky x).1 hx with h1 | h1
  .exact h.nk x h1
  .rw[h1];exact ha
 .rw[hu.rc,h.rc,take_snoc hm];constructor
  .rintro ((h1 | ⟨m',h1,h2⟩) | ⟨h1,h2⟩)
   .exact .inl h1
   .exact .inr ⟨m',List.mem_append_left _ h1,h2⟩
   .exact .inr ⟨m,by simp,h1.symm,h2⟩
  .rintro (h1 | ⟨m',h1,h2⟩)
   .exact .inl (.inl h1)
   .rcases Yk.1 h1 with h1 | h1
    .exact .inl (.inr ⟨m',h1,h2⟩)
    .rw[Ye] at h1;subst h1;exact .inr ⟨h2.1.symm,h2.2⟩
theorem OB.bl {A:List Pr} {mv:Pr->List Pmv} {cst:Pr->Option Nat} {O:List (Pr × Nat)} {BS:List (Sl × List Pr)} (h:OB A mv cst O (BS.map Prod.snd)) (hA:A.length<=40000):∀q∈BS,q.2.length<=1048576:=fun q hq=>by
 obtain⟨n,hn⟩:=Yf.1 hq;have hl:(BS.map Prod.snd)[n]?=some q.2:=by rw[Yd,hn];rfl
 have:=List.Nodup.length_le_of_subset (h.nd n q.2 hl) (l₂:=A) fun x hx=>(h.b1 n q.2 hl x hx).1;omega
theorem OB.kok {A:List Pr} {mv:Pr->List Pmv} {cst:Pr->Option Nat} {O:List (Pr × Nat)} {B:List (List Pr)} (h:OB A mv cst O B) (hk:∀p∈A,kokP p):∀q∈O,kokP q.1:=fun q hq=>hk _ (h.oa q hq)
theorem OB.empty (A:List Pr) (mv:Pr->List Pmv) (cst:Pr->Option Nat):OB A mv cst [] []:=
 ⟨.nil,fun q hq=>(by cases hq),fun p n h=>(by cases h),fun n l h=>(by simp at h),fun p n h=>(by cases h),fun n l h=>(by simp at h)⟩
abbrev mpI (ib:Nat) (N:List NE):It:=.mp ib ((nkv N).map fun q=>(pV q.1,slV q.2))
structure CkB (X:An) (kind:Int) (A:List Pr) (CB:Nat):Prop where
 a:∀q∈X.ar,∀x∈q.2,0<x.n
 c:∀p∈A,∀c,cstS X kind p=some c->0<=c/\c<CB
 b:CB<=4194304
theorem St.mlook1 {α β:Type} {P:Program} {t kt e:TypeId} {ck:α->Value} {cv:β->Value} {kok:α->Prop} [DecidableEq α] {z:Value} (M:MT P t kt e ck kok z) {h0 h:Heap} {L:List It} (hs:St h0 h L) (k:Nat) {b:Nat} {l:List (α × β)} (hk:L[k]?=some (.mp b (l.map fun q=>(ck q.1,cv q.2)))) (hl:∀q∈l,kok q.1) (hn:(l.map Prod.fst).Nodup) {a:α} (ha:kok a) {R:Value->Heap->Prop}
  (hR:R ((mget l a).elim z cv) h):RunW P (Instr.lookup t (.map (some b)) (ck a) false) h R:=by
 refine hs.mlook M k hk hl hn ha false ?_;generalize mget l a=o at *;cases o<;>exact hR
theorem left165 (b:Nat) (g:Gl) (role:Int) (X:An) (kind:Int) (all:Sl) (mb:Nat) (A:List Pr) (l:List (Pr × Sl)) (CB:Nat) (h:Heap) (hA:AnF h b g role X) (hV:ValidS g) (hM:PrM h g role all mb A l) (hC:CkB X kind A CB) :
  Fn Pz 164 #[.pointer (some ⟨b,0,none⟩),.int .i64 kind,.slice all.a all.n all.c,.map (some mb)] h fun v h'=>Ext h h'/\∃(ob:Nat) (O:List (Pr × Nat)),v=.map (some ob)/\It.ok h' (.mp ob (O.map fun q=>(pV q.1,natV q.2)))/\(∀q∈O,kokP q.1)/\(O.map Prod.fst).Nodup /\
   ∀p∈A,∀k,(mget O p=some k ↔ Lst (mvP g role) (cstN X kind) p k)/\(mget O p=some k->k<CB+2*A.length):=by
 apply vc164 ⟨b,0,none⟩ kind all (some mb);unfold W164;have hN:=hV.num.n;have hE:=hV.num.m;have hAn:=hM.ra.ln;have hpA:∀p∈A,(p.1:Int)<g.n/\(p.2:Int)<g.n:=fun p hp=>((hM.pr p).1 hp).lt hV;have hkA:∀p∈A,kokP p:=fun p hp=>by have:=hpA p hp;exact⟨by omega,by omega⟩
 have hcl:∀p∈A,∀m∈mvP g role p,pto m∈A:=fun p hp m hm=>(hM.pr _).2 (.step ((hM.pr p).1 hp) hm);have hA4:A.length<=40000:=by
  have h1:=grid_le (n:=g.n.toNat) hM.nd fun p hp=>by have:=hpA p hp;exact⟨by omega,by omega⟩
  have h2:g.n.toNat*g.n.toNat<=200*200:=Nat.mul_le_mul (by omega) (by omega);omega
 have hCb:=hC.b;have hml:∀p:Pr,(movL g.es role p.1 p.2).length<=160800:=fun p=>movL_len hE;have hme:∀p:Pr,(mvP g role p).length=(movL g.es role p.1 p.2).length:=fun p=>rfl;refine (St.refl h).mmakeN M278.ht _ fun h3 E3 hs=>⟨some h.size,rfl,?_⟩;refine hs.newput (vs:=[.map (some h.size)]) rfl rfl fun h5 hs=>?_;refine hs.mmake 93 fun h8 E8 hs=>⟨some h5.size,rfl,?_⟩;refine hs.newb fun h9 hs=>?_;have hs:St h h9 (lfL h3.size h.size h8.size ⟨none,0,0⟩ [] [] (mpI h5.size []::[].map nsI)):=by
  refine (hs.nil_ 92 1).perm ?_;show ([It.sl ⟨none,0,0⟩ 92 1 [],.blk h8.size [.slice none 0 0] 350,.mp h5.size [],.blk h3.size [.map (some h.size)] 293,.mp h.size []]:List It).Perm [.blk h3.size [.map (some h.size)] 293,.mp h.size [],.blk h8.size [.slice none 0 0] 350,.sl ⟨none,0,0⟩ 92 1 [],.mp h5.size []];refine List.Perm.trans (l₂:=[.blk h3.size [.map (some h.size)] 293,.mp h.size [],.sl ⟨none,0,0⟩ 92 1 [],.blk h8.size [.slice none 0 0] 350,.mp h5.size []]) ?_ (List.Perm.cons _ (List.Perm.cons _ (List.Perm.swap _ _ _)));exact List.perm_append_comm (l₁:=[It.sl ⟨none,0,0⟩ 92 1 [],.blk h8.size [.slice none 0 0] 350,.mp h5.size []]) (l₂:=[.blk h3.size [.map (some h.size)] 293,.mp h.size []])
 refine⟨fun x h' m=>∃(i:Nat) (bk:Sl) (O:List (Pr × Nat)) (BS:List (Sl × List Pr)) (N:List NE),x=i/\m=all.n-i/\i<=all.n/\St h h' (lfL h3.size h.size h8.size bk O BS (mpI h5.size N::N.map nsI))/\L1q A (mvP g role) (cstN X kind) CB i O (BS.map Prod.snd) N,
  ⟨_,0,⟨none,0,0⟩,[],[],[],rfl,rfl,Nat.zero_le _,hs,OB.empty _ _ _,fun p hp=>(by simp at hp),Nat.zero_le _,.nil,fun x hx=>(by cases hx),fun q r=>⟨fun ⟨e,he,_⟩=>(by cases he),fun ⟨p,hp,_⟩=>(by simp at hp)⟩,Nat.zero_le _⟩,?_⟩
 clear hs;rintro-_ h14 m ⟨i,bk,O,BS,N,rfl,rfl,hi,hs,hL⟩;refine sBi (fun c=>?_) (fun c=>?_)
 .refine (hM.ra.ext hs.ext).rw.nbI (by omega) (by omega) fun b15 o16 p gp u=>?_;replace gp:A[i]?=some p:=gp;have hpm:=Yb gp;have hpl:=hpA p hpm;refine⟨(p.1:Nat),(p.2:Nat),u,?_⟩;refine hs.newput (vs:=pC p) rfl rfl fun h20 hs=>?_;refine⟨(p.1:Nat),(p.2:Nat),hs.at 0 rfl (o:=0) (n:=2) rfl,?_⟩;obtain⟨r,hr,hrl⟩:=hM.mv p hpm;refine mlookI (cv:=slV) (l:=l) M202 ((hM.ext hs.ext).mp) hM.lk hM.ln (a:=p) (hkA p hpm) false ?_;rw[hr];refine⟨r,rfl,?_⟩;have hs:St h h20 (.blk h14.size (pC p) 97::mpI h5.size N::(N.map nsI++lfL h3.size h.size h8.size bk O BS [])):=hs.perm (List.Perm.cons _ lf_perm);have hrn:=hrl.ln;have hrm:=hml p;have hL2:L2q A (mvP g role) i 0 p N:=⟨hL.nn,hL.nk,fun q r=>by rw[hL.rc];exact⟨.inl,fun h=>h.elim id fun ⟨m,h,_⟩=>(by rw[Yyk] at h;cases h)⟩,Yys hL.tot (Nat.le_add_right _ _)⟩;refine⟨fun x h' m=>∃(j:Nat) (N':List NE),x=j/\m=r.n-j/\j<=r.n/\St h h' (.blk h14.size (pC p) 97::mpI h5.size N'::(N'.map nsI++lfL h3.size h.size h8.size bk O BS []))/\L2q A (mvP g role) i j p N',⟨_,0,N,rfl,rfl,Nat.zero_le _,hs,hL2⟩,?_⟩;clear hs hL2;rintro-_ h30 m ⟨j,N',rfl,rfl,hj,hs,hL2⟩;refine sBi (fun c2=>?_) (fun c2=>?_)
  .refine (hrl.ext hs.ext).rw.nbI (by omega) (by omega) fun b31 o32 mv gm t=>?_;replace gm:(mvP g role p)[j]?=some mv:=gm;have hmm:=Yb gm;have hpt:=pto_lt hV hpl hmm;have hta:=hcl p hpm mv hmm;refine⟨mv.x,mv.y,mv.s,mv.t,t,?_⟩;refine hs.newput (vs:=mv.cs) rfl rfl fun h38 hs=>?_;refine⟨((pto mv).1:Nat),((pto mv).2:Nat),by rw[hpt.2.2.1,hpt.2.2.2];exact hs.at 0 rfl (o:=2) (n:=2) rfl,mv.x,hs.rd 0 rfl (i:=0) rfl,mv.y,hs.rd 0 rfl (i:=1) rfl,(p.1:Nat),(p.2:Nat),hs.at 1 rfl (o:=0) (n:=2) rfl,?_⟩;refine hs.newb fun h45 hs=>?_;have hs:=hs.perm (perm_mid2 (It.blk h38.size (recO p mv).cs 200) _ _ _ _ _);have htot:=hL2.tot;have hi4:i*160800<=40000*160800:=Nat.mul_le_mul_right _ (by omega);refine into_step hs hL2.nn (fun x hx=>hkA x (hL2.nk x hx)) (hkA _ hta) (by omega) fun h52 N'' hs hu=>?_;refine⟨_,by omega,j+1,N'',by rw[w64 (by omega) (by omega)];omega,rfl,by omega,?_,hL2.step gm hta hu⟩;have hs:=(hs.perm (perm_mid2 (It.blk h38.size (recO p mv).cs 200) _ _ _ _ _).symm).drop 2;exact hs
  .have hjn:j=(mvP g role p).length:=by unfold mvP;omega
   refine⟨(p.1:Nat),(p.2:Nat),hs.at 0 rfl (o:=0) (n:=2) rfl,?_⟩;refine (costs167 b g role X kind p h30 (hA.ext hs.ext) hpl hC.a).mono ?_;rintro _ h59 ⟨E59,rfl⟩;replace hs:=hs.step E59;refine⟨_,_,rfl,?_⟩;have hrc:∀q r,RecN N' q r ↔ ∃p∈A.take (i+1),∃m∈mvP g role p,pto m=q/\r=recO p m:=fun q r=>by
    rw[hL2.rc,take_snoc gp,hjn,Yye];constructor
    .rintro (⟨p',h1,h2⟩ | h1)
     .exact⟨p',List.mem_append_left _ h1,h2⟩
     .exact⟨p,by simp,h1⟩
    .rintro⟨p',h1,h2⟩;rcases Yk.1 h1 with h1 | h1
     .exact .inl ⟨p',h1,h2⟩
     .rw[Ye] at h1;subst h1;exact .inr h2
   have htot:totN N'<=(i+1)*160800:=by have:=hL2.tot;rw[Nat.succ_mul];omega
   have hBl:=hL.ln;rw[Yc] at hBl;cases hc:cstS X kind p with
   | none=>
    refine sB_f rfl ?_;refine⟨_,by omega,i+1,bk,O,BS,N',by rw[w64 (by omega) (by omega)];omega,rfl,by omega,(hs.drop 1).perm lf_perm.symm,hL.ob,fun q hq c' hc'=>?_,hL.ln,hL2.nn,hL2.nk,hrc,htot⟩;rw[take_snoc gp,Yk,Ye] at hq;rcases hq with hq | rfl
    .exact hL.c q hq c' hc'
    .unfold cstN at hc';rw[hc] at hc';cases hc'
   | some cv=>
    obtain⟨hc0,hc1⟩:=hC.c p hpm cv hc;have hcN:cstN X kind p=some cv.toNat:=by unfold cstN;rw[hc];rfl
    refine sB_t rfl ?_;refine⟨(p.1:Nat),(p.2:Nat),hs.at 0 rfl (o:=0) (n:=2) rfl,?_⟩;have hs:=(hs.drop 1).perm lf_perm.symm;have hcc:(((some cv:Option Int).getD 0):Int)=((cv.toNat:Nat):Int):=by show cv=_;omega
    rw[hcc];refine (put212 h h59 h3.size h.size h8.size bk O BS _ p cv.toNat hs (hL.ob.kok hkA) hL.ob.on (hkA p hpm) (by omega) (by omega) (hL.ob.bl hA4)).mono ?_;rintro _ h63 ⟨rfl,bk',BS',hs,hBS⟩;refine⟨rfl,_,by omega,i+1,bk',putO O p cv.toNat,BS',N',by rw[w64 (by omega) (by omega)];omega,rfl,by omega,hs,?_,fun q hq c' hc'=>?_,?_,hL2.nn,hL2.nk,hrc,htot⟩
    .have h9:=hL.ob.put hpm (.base hcN);rw[hBS];exact h9
    .rw[take_snoc gp,Yk,Ye] at hq;rcases hq with hq | rfl
     .obtain⟨k,h1,h2⟩:=hL.c q hq c' hc';obtain⟨k',h3,h4⟩:=putO_le (p:=p) (n:=cv.toNat) h2;exact⟨k',by omega,h4⟩
     .rw[hcN] at hc';cases hc';exact putO_at O q cv.toNat
    .rw[hBS];have:=putB_len O (BS.map Prod.snd) p cv.toNat;have h8:=hL.ln;show (putB O (BS.map Prod.snd) p cv.toNat).length<=CB;omega
 .have hin:i=A.length:=by omega
  have hOB:=hL.ob;have hI:LfI A (mvP g role) (cstN X kind) CB 0 0 [] O (BS.map Prod.snd):=LfI.start hL.ob (fun p hp c hc=>hL.c p (by rw[hin,Yye];exact hp) c hc) hL.ln;have hNn:=hL.nn;have hNk:=hL.nk;have hNr:∀q r,RecN N q r ↔ ∃p∈A,∃m∈mvP g role p,pto m=q/\r=recO p m:=fun q r=>by rw[hL.rc,hin,Yye]
  have hNt:totN N<=40000*160800:=Yys hL.tot (Nat.mul_le_mul_right _ (by omega));clear hL hin hOB;refine⟨fun x h' m=>∃(n:Nat) (Z:List Pr) (bk:Sl) (O:List (Pr × Nat)) (BS:List (Sl × List Pr)),x=n/\m=CB+2*A.length-n/\St h h' (lfL h3.size h.size h8.size bk O BS (mpI h5.size N::N.map nsI))/\LfI A (mvP g role) (cstN X kind) CB n 0 Z O (BS.map Prod.snd),⟨_,0,[],bk,O,BS,rfl,rfl,hs,hI⟩,?_⟩;clear hs hI hi;rintro-_ h70 m ⟨n,Z,bk,O,BS,rfl,rfl,hs,hI⟩;have hZA:Z.length<=A.length:=List.Nodup.length_le_of_subset hI.zn fun x hx=>hI.za x hx;have hBl:=hI.ln;rw[Yc] at hBl;have hbk:=hs.len 3 (s:=bk) (e:=92) (n:=1) (rows:=(BS.map Prod.fst).map slC) rfl (by omega);rw[Yc,Yc] at hbk;refine⟨bk,hs.rd 2 rfl (i:=0) rfl,sBi (fun c2=>?_) (fun c2=>?_)⟩
  .obtain⟨q0,hq0⟩:=get_some (l:=BS) (i:=n) (by omega);have hl0:(BS.map Prod.snd)[n]?=some q0.2:=by rw[Yd,hq0];rfl
   refine⟨fun x h' m=>∃(i:Nat) (Z:List Pr) (bk:Sl) (O:List (Pr × Nat)) (BS:List (Sl × List Pr)),x=i/\m=q0.2.length-i/\St h h' (lfL h3.size h.size h8.size bk O BS (mpI h5.size N::N.map nsI))/\LfI A (mvP g role) (cstN X kind) CB n i Z O (BS.map Prod.snd)/\(BS.map Prod.snd)[n]?=some q0.2,⟨_,0,Z,bk,O,BS,rfl,rfl,hs,hI,hl0⟩,?_⟩;have hq00:=hI.ob.bl hA4 q0 (Yb hq0);clear hs hI hZA hBl hbk c2 hq0 hl0;rintro-_ h76 m ⟨i,Z,bk,O,BS,rfl,rfl,hs,hI,hl0⟩;have hZA:Z.length<=A.length:=List.Nodup.length_le_of_subset hI.zn fun x hx=>hI.za x hx;have hBl:=hI.ln;rw[Yc] at hBl;have hbk:=hs.len 3 (s:=bk) (e:=92) (n:=1) (rows:=(BS.map Prod.fst).map slC) rfl (by omega);rw[Yc,Yc] at hbk;obtain⟨q1,hq1,hq2⟩:∃q1,BS[n]?=some q1/\q1.2=q0.2:=by
    rw[Yd] at hl0;exact Yya.1 hl0
   have hnl:=(Ya.1 hq1).1;have hrw:=hs.nestLn (A:=[.blk h3.size [.map (some h.size)] 293,.mp h.size (O.map fun q=>(pV q.1,natV q.2)),.blk h8.size [.slice bk.a bk.n bk.c] 350,.sl bk 92 1 ((BS.map Prod.fst).map slC)]) (e:=97) (n:=2) (cs:=pC) hq1 (by omega);rw[hq2] at hrw;have hrn:=hrw.ln;refine⟨bk,hs.rd 2 rfl (i:=0) rfl,?_⟩;refine (hs.rows 3 rfl (by omega)).nbI (by omega) (by omega) fun b78 o79 d gd u=>?_;replace gd:(BS.map Prod.fst)[n]?=some d:=gd;rw[Yd,hq1] at gd;cases gd;refine⟨q1.1,u.hd,sBi (fun c3=>?_) (fun c3=>?_)⟩
   .refine⟨bk,hs.rd 2 rfl (i:=0) rfl,?_⟩;refine (hs.rows 3 rfl (by omega)).nbI (by omega) (by omega) fun b82 o83 d gd u2=>?_;replace gd:(BS.map Prod.fst)[n]?=some d:=gd;rw[Yd,hq1] at gd;cases gd;refine⟨q1.1,u2.hd,?_⟩;refine hrw.nbI (by omega) (by omega) fun b85 o86 p gp u3=>?_;replace gp:q0.2[i]?=some p:=gp;obtain⟨hpm,k,hkn,hmk⟩:=hI.ob.b1 n q0.2 hl0 p (Yb gp);refine⟨(p.1:Nat),(p.2:Nat),u3,?_⟩;refine hs.newput (vs:=pC p) rfl rfl fun h90 hs=>?_;refine⟨some h.size,hs.rd 1 rfl (i:=0) rfl,(p.1:Nat),(p.2:Nat),hs.at 0 rfl (o:=0) (n:=2) rfl,?_⟩;refine hs.mlook (cv:=natV) (l:=O) M278 2 rfl (hI.ob.kok hkA) hI.ob.on (a:=p) (hkA p hpm) false ?_;rw[hmk];refine⟨(k:Nat),rfl,?_⟩;refine sBn (fun c4=>?_) (fun c4=>?_)
    .refine⟨_,?_,i+1,Z,bk,O,BS,by rw[w64 (by omega) (by omega)];omega,rfl,hs.drop 1,hI.skip hl0 gp (by rw[hmk];intro e;cases e;exact c4 rfl),hl0⟩;omega
    .obtain rfl:k=n:=by omega
     refine⟨(p.1:Nat),(p.2:Nat),hs.at 0 rfl (o:=0) (n:=2) rfl,?_⟩;have hs:=(hs.drop 1).perm lf_perm;have hnn':((nkv N).map Prod.fst).Nodup:=by rw[nkv_fst];exact hNn
     refine hs.mlook1 (cv:=slV) (l:=nkv N) M202 0 rfl (fun q hq=>hkA _ (hNk _ (by rw[<-nkv_fst];exact Yp.2 ⟨q,hq,rfl⟩))) hnn' (a:=p) (hkA p hpm) ?_;obtain⟨sr,rec,hsr,hrl,hrd,hrec⟩:∃(sr:Sl) (rec:List Pmv),(mget (nkv N) p).elim (.slice none 0 0) slV=.slice sr.a sr.n sr.c/\rec.length<=40000*160800/\(∀ {h0 hh:Heap} {L:List It},St h0 hh L->(∀e∈N,nsI e∈L)->Rw hh 4 sr (rec.map Pmv.cs))/\(∀r,r∈rec ↔ RecN N p r):=by
      cases hg:mget (nkv N) p with
      | none=>
       refine⟨⟨none,0,0⟩,[],rfl,Nat.zero_le _,fun _ _=>⟨rfl,fun h=>absurd h (by simp)⟩,fun r=>⟨fun h=>(by cases h),fun ⟨e,he,h1,h2⟩=>?_⟩⟩;have:=(mget_isSome p (nkv N)).2 (by rw[nkv_fst,<-h1];exact Yp.2 ⟨e,he,rfl⟩);rw[hg] at this;cases this
      | some y=>
       have h9:=(mget_isSome p (nkv N)).1 (by rw[hg];rfl);rw[nkv_fst] at h9;obtain⟨e,he,h1⟩:=Yp.1 h9;obtain⟨j,hj⟩:=Yf.1 he;have h2:mget (nkv N) p=some e.2.1:=mget_some hnn' (j:=j) (by unfold nkv;rw[Yd,hj,<-h1];rfl);rw[hg] at h2;cases h2;refine⟨e.2.1,e.2.2,rfl,Yys (tot_le he) hNt,fun hs' hm'=>hs'.rwm (e:=200) (hm' e he) (by omega),fun r=>⟨fun h=>⟨e,he,h1,h⟩,fun ⟨e',he',h3,h4⟩=>?_⟩⟩;obtain⟨j',hj'⟩:=Yf.1 he';have h5:(N.map Prod.fst)[j]?=some p:=by rw[Yd,hj,<-h1];rfl
       have h6:(N.map Prod.fst)[j']?=some p:=by rw[Yd,hj',<-h3];rfl
       have h7:=nodup_ix hNn h5 h6;subst h7;rw[hj] at hj';cases hj';exact h4
     rw[hsr];refine⟨sr,rfl,?_⟩;have hs:=hs.perm lf_perm.symm;have hmemN:∀ {O:List (Pr × Nat)} {BS:List (Sl × List Pr)} {bk:Sl} (e:NE),e∈N->nsI e∈lfL h3.size h.size h8.size bk O BS (mpI h5.size N::N.map nsI):=fun e he=>by
      unfold lfL;exact List.mem_append_right _ (Yn _ (Yp.2 ⟨e,he,rfl⟩))
     have hJ:=hI.take hl0 gp hmk rec;have hI0:=hI;have hnC:k+1<=CB+2*Z.length:=by omega
     refine⟨fun x h' m=>∃(j:Nat) (bk:Sl) (O:List (Pr × Nat)) (BS:List (Sl × List Pr)),x=j/\m=sr.n-j/\j<=sr.n/\St h h' (lfL h3.size h.size h8.size bk O BS (mpI h5.size N::N.map nsI))/\LfJ A (mvP g role) (cstN X kind) CB k i Z p rec j O (BS.map Prod.snd)/\(BS.map Prod.snd)[k]?=some q0.2,⟨_,0,bk,O,BS,rfl,rfl,Nat.zero_le _,hs,hJ,hl0⟩,?_⟩;clear hs hJ hrw hbk hBl hq1 hnl hI hl0 hmk;rintro-_ h107 m ⟨j,bk,O,BS,rfl,rfl,hj,hs,hJ,hl0⟩;have hBl:=hJ.ln;rw[Yc] at hBl;have hrw:=hrd hs fun e he=>hmemN e he;have hrn:=hrw.ln;refine sBi (fun c5=>?_) (fun c5=>?_)
     .refine hrw.nbI (by omega) (by omega) fun b108 o109 r gr u4=>?_;replace gr:rec[j]?=some r:=gr;obtain⟨p',hp',m',hm',hto,rfl⟩:=(hNr p r).1 ((hrec r).1 (Yb gr));have hpl:=plen_pos m';have hd0:Dn (mvP g role) (cstN X kind) p' (k+plen m'):=.step hm' (by rw[hto];exact hJ.ob.d p k hJ.pn);have hd:Dn (mvP g role) (cstN X kind) (pto (recO p' m')) (k+plen (recO p' m')):=hd0;refine⟨m'.x,m'.y,(p'.1:Nat),(p'.2:Nat),u4,?_⟩;refine hs.newput (vs:=(recO p' m').cs) rfl rfl fun h115 hs=>?_;refine⟨(p'.1:Nat),(p'.2:Nat),hs.at 0 rfl (o:=2) (n:=2) rfl,m'.x,m'.y,(p'.1:Nat),(p'.2:Nat),hs.at 0 rfl (o:=0) (n:=4) rfl,?_⟩;refine (moveLen170 m'.x m'.y (p'.1:Nat) (p'.2:Nat) h115).mono ?_;rintro _ h124 ⟨rfl,E⟩;have hs:=(hs.step E).drop 1;refine⟨_,rfl,E.sm,?_⟩;have hw:IntKind.wrap .i64 ((k:Int)+(if 0<=m'.x/\0<=m'.y then 2 else 1))=((k+plen (recO p' m'):Nat):Int):=by
       have:plen (recO p' m')=if 0<=m'.x/\0<=m'.y then 2 else 1:=rfl
       rw[this];split<;>rw[w64 (by omega) (by omega)]<;>omega
      rw[hw];have hpl2:=plen_pos (recO p' m');refine (put212 h h124 h3.size h.size h8.size bk O BS _ p' (k+plen (recO p' m')) hs (hJ.ob.kok hkA) hJ.ob.on (hkA p' hp') (by omega) (by omega) (hJ.ob.bl hA4)).mono ?_;rintro _ h126 ⟨rfl,bk',BS',hs,hBS⟩;have hJ2:=hJ.put hnC gr (show pto (recO p' m')∈A from hp') hd;refine⟨rfl,_,?_,j+1,bk',putO O p' (k+plen (recO p' m')),BS',by rw[w64 (by omega) (by omega)];omega,rfl,by omega,hs,?_,?_⟩
      .omega
      .rw[hBS];exact hJ2
      .rw[hBS];exact putB_same (p:=p') hl0 (by omega)
     .have hI2:=hJ.fin (by omega) hpm hI0.zn hI0.za fun q hq m hm he=>⟨recO q m,(hrec _).2 ((hNr p _).2 ⟨q,hq,m,hm,he,rfl⟩),rfl,rfl⟩;refine⟨_,?_,i+1,p::Z,bk,O,BS,by rw[w64 (by omega) (by omega)];omega,rfl,hs,hI2,hl0⟩;omega
   .have hq0l:q0.2.length<=i:=by omega
    refine⟨_,?_,n+1,Z,bk,O,BS,by rw[w64 (by omega) (by omega)];omega,rfl,hs,hI.next hl0 hq0l⟩;omega
  .refine⟨some h.size,hs.rd 0 rfl (i:=0) rfl,hs.ext,h.size,O,rfl,hs.get (k:=1) rfl,hI.ob.kok hkA,hI.ob.on,fun p hp k=>?_⟩;obtain⟨h1,h2⟩:=hI.fin (by rw[Yc];omega) hcl hp k;refine⟨h1,fun hk=>?_⟩;have:=h2 hk;rw[Yc] at this;omega
end Go.VC
end

section
namespace Go.VC
theorem bits8:∀b:Fin 256,∀x:Fin 8,((andI .u8 (shrI .u8 (b.val:Int) (x.val:Int)) 1==1)=b.val.testBit x.val)/\((andI .u8 (shrI .u8 (b.val:Int) (x.val:Int)) 1==0)=!b.val.testBit x.val)/\orI .u8 (b.val:Int) (shlI .u8 1 (x.val:Int))=((b.val|||2^x.val:Nat):Int):=by
 decide +kernel
theorem shl8:∀x:Fin 8,shlI .u8 1 (x.val:Int)=((2^x.val:Nat):Int):=by decide +kernel
theorem or8 {b x:Nat} (hb:b<256) (hx:x<8):b|||2^x<256:=Nat.or_lt_two_pow (n:=8) hb (Nat.pow_lt_pow_right (by omega) hx)
theorem or6 {b x:Nat} (hb:b<64) (hx:x<6):b|||2^x<64:=Nat.or_lt_two_pow (n:=6) hb (Nat.pow_lt_pow_right (by omega) hx)
theorem two6 {x:Nat} (hx:x<6):2^x<64:=Nat.pow_lt_pow_right (m:=x) (n:=6) (by omega) hx
theorem two8 {x:Nat} (hx:x<8):2^x<256:=Nat.pow_lt_pow_right (m:=x) (n:=8) (by omega) hx
structure Plc where
 s:Nat
 b:Nat
 d:Nat
 deriving DecidableEq
def Plc.cs (p:Plc):List Value:=[.int .i64 (p.s:Nat),.int .u8 (p.b:Nat),.int .u8 (p.d:Nat)]
def Plc.ok (n:Nat) (p:Plc):Prop:=p.s<n/\p.b<64/\p.d<64
theorem plc_le {n:Nat} {L:List Plc} (hn:L.Nodup) (h:∀p∈L,p.ok n):L.length<=n*4096:=by
 have h1:(L.map fun p=>p.s*4096+p.b*64+p.d).Nodup:=by
  rw[List.Nodup,List.pairwise_map];refine hn.imp_of_mem fun {a b} ha hb hab e=>hab ?_;obtain⟨h1,h2,h3⟩:=h a ha;obtain⟨h4,h5,h6⟩:=h b hb;obtain⟨a1,a2,a3⟩:=a;obtain⟨b1,b2,b3⟩:=b;simp only at *;congr 1<;>omega
 have h2:=List.Nodup.length_le_of_subset h1 (l₂:=List.range (n*4096)) fun x hx=>by
  obtain⟨p,hp,rfl⟩:=Yp.1 hx;obtain⟨h3,h4,h5⟩:=h p hp;rw[List.mem_range];omega
 rwa [Yc,Yyd] at h2
theorem sorted_uniq {α:Type} {R:α->α->Prop} (irr:∀a,¬R a a) (tr:∀a b c,R a b->R b c->R a c):∀l m:List α,l.Pairwise R->m.Pairwise R->(∀x,x∈l ↔ x∈m)->l=m
 | [],[],_,_,_=>rfl
 | [],b::m,_,_,h=>absurd ((h b).2 (by simp)) (by simp)
 | a::l,[],_,_,h=>absurd ((h a).1 (by simp)) (by simp)
 | a::l,b::m,hl,hm,h=>by
  obtain⟨hl1,hl2⟩:=List.pairwise_cons.1 hl;obtain⟨hm1,hm2⟩:=List.pairwise_cons.1 hm;have e:a=b:=by
   rcases Yr.1 ((h a).1 (by simp)) with h1 | h1
   .exact h1
   rcases Yr.1 ((h b).2 (by simp)) with h2 | h2
   .exact h2.symm
   exact absurd (tr _ _ _ (hl1 b h2) (hm1 a h1)) (irr a)
  subst e;congr 1;refine sorted_uniq irr tr l m hl2 hm2 fun x=>⟨fun hx=>?_,fun hx=>?_⟩
  .rcases Yr.1 ((h x).1 (Yn _ hx)) with h1 | h1
   .subst h1;exact absurd (hl1 x hx) (irr x)
   .exact h1
  .rcases Yr.1 ((h x).2 (Yn _ hx)) with h1 | h1
   .subst h1;exact absurd (hm1 x hx) (irr x)
   .exact h1
def insEd (x:Ed):List Ed->List Ed
 | []=>[x]
 | y::r=>if acLt y.act x.act then y::insEd x r else x::y::r
theorem insEd_mem (x z:Ed):∀l:List Ed,z∈insEd x l ↔ z=x\/z∈l
 | []=>by simp[insEd]
 | y::r=>by
  unfold insEd;split
  .rw[Yr,insEd_mem x z r,Yr];constructor
   .rintro (h | h | h)
    .exact .inr (.inl h)
    .exact .inl h
    .exact .inr (.inr h)
   .rintro (h | h | h)
    .exact .inr (.inl h)
    .exact .inl h
    .exact .inr (.inr h)
  .simp
theorem acLt_tr {x y z:Ac} (h1:acLt x y) (h2:acLt y z):acLt x z:=by unfold acLt at *;omega
theorem acLt_irr (x:Ac):¬acLt x x:=by unfold acLt;omega
theorem acLt_tri {x y:Ac} (h:x≠y) (h1:¬acLt y x):acLt x y:=by
 obtain⟨a,b,c⟩:=x;obtain⟨a',b',c'⟩:=y;unfold acLt at *;simp only[ne_eq,Ac.mk.injEq] at h;simp only at *;omega
theorem insEd_sorted {x:Ed}:∀ {l:List Ed},l.Pairwise (fun a b=>acLt a.act b.act)->(∀y∈l,y.act≠x.act)->(insEd x l).Pairwise fun a b=>acLt a.act b.act
 | [],_,_=>by simp[insEd]
 | y::r,hl,hx=>by
  obtain⟨h1,h2⟩:=List.pairwise_cons.1 hl;unfold insEd;by_cases h:acLt y.act x.act
  .rw[if_pos h,List.pairwise_cons];refine⟨fun z hz=>?_,insEd_sorted h2 fun z hz=>hx z (Yn _ hz)⟩;rcases (insEd_mem x z r).1 hz with rfl | hz
   .exact h
   .exact h1 z hz
  .rw[if_neg h,List.pairwise_cons];have h3:acLt x.act y.act:=acLt_tri (fun e=>hx y (by simp) e.symm) h;refine⟨fun z hz=>?_,hl⟩;rcases Yr.1 hz with rfl | hz
   .exact h3
   .exact acLt_tr h3 (h1 z hz)
def srtL (l:List Ed):List Ed:=l.foldr insEd []
def srtS (es:List Ed) (s:Nat):List Ed:=srtL (es.filter fun x=>decide (x.f=(s:Int)))
theorem srtL_mem (l:List Ed) (z:Ed):z∈srtL l ↔ z∈l:=by
 induction l with
 | nil=>simp[srtL]
 | cons a l ih=>
  show z∈insEd a (srtL l) ↔ _;rw[insEd_mem,ih,Yr]
theorem insEd_len (x:Ed):∀l:List Ed,(insEd x l).length=l.length+1
 | []=>rfl
 | y::r=>by
  unfold insEd;split
  .rw[Yyj,insEd_len x r,Yyj]
  .rfl
theorem srtL_len (l:List Ed):(srtL l).length=l.length:=by
 induction l with
 | nil=>rfl
 | cons a l ih=>
  show (insEd a (srtL l)).length=_;rw[insEd_len,ih];rfl
theorem srtL_sorted:∀ {l:List Ed},l.Pairwise (fun a b=>a.act≠b.act)->(srtL l).Pairwise fun a b=>acLt a.act b.act
 | [],_=>.nil
 | a::l,h=>by
  obtain⟨h1,h2⟩:=List.pairwise_cons.1 h;exact insEd_sorted (srtL_sorted h2) fun y hy=>(h1 y ((srtL_mem l y).1 hy)).symm
theorem srt_of {l l':List Ed} (hp:l'.Perm l) (hw:l'.Pairwise fun a b=>¬acLt b.act a.act) (hd:l.Pairwise fun a b=>a.act≠b.act):l'=srtL l:=by
 have hd':l'.Pairwise fun a b=>a.act≠b.act:=(hp.pairwise_iff fun {a b} h=>h.symm).2 hd;refine sorted_uniq (R:=fun a b:Ed=>acLt a.act b.act) (fun a=>acLt_irr _) (fun a b c=>acLt_tr) _ _ ?_ (srtL_sorted hd) fun x=>by rw[srtL_mem];exact hp.mem_iff
 exact (hw.and hd').imp fun ⟨h1,h2⟩=>acLt_tri h2 h1
theorem acts_apart {g:Gl} (hV:ValidS g) (s:Int):(g.es.filter fun x=>decide (x.f=s)).Pairwise fun a b=>a.act≠b.act:=by
 have h1:g.es.Pairwise fun a b=>a.f=b.f->a.act≠b.act:=by
  rw[List.pairwise_iff_getElem];intro i j hi hj hij hf he;refine hV.ord.p i _ (Yi hi) j _ (Yi hj) (.inl ⟨by omega,hf,.inl ?_⟩);unfold Ed.act at he;simp only[Ac.mk.injEq] at he;exact he
 refine (h1.sublist List.filter_sublist).imp_of_mem fun {a b} ha hb h=>h ?_;rw[List.mem_filter,decide_eq_true_eq] at ha hb;rw[ha.2,hb.2]
structure Fnd where
 m:Ms
 path:List Ac
abbrev Vst:=Plc × List Ac
def seaT (role:Int) (p:Plc) (x:Ed):Plc × Bool:=
 if p.b.testBit x.a.toNat then (⟨x.t.toNat,p.b|||2^x.b.toNat,p.d⟩,false)
 else if x.b=role/\p.d.testBit x.a.toNat=false then (⟨x.t.toNat,p.b,p.d|||2^x.a.toNat⟩,true) else (⟨x.t.toNat,p.b,p.d⟩,false)
def noteF (F:List Fnd) (f:Fnd):List Fnd:=if ∃y∈F,y.m=f.m then F else F++[f]
def seaE (role:Int) (p:Plc) (path:List Ac) (st:List Vst × List Fnd) (x:Ed):List Vst × List Fnd:=
 (if (seaT role p x).1∈st.1.map Prod.fst then st.1 else st.1++[((seaT role p x).1,path++[x.act])],
  if (seaT role p x).2 then noteF st.2 ⟨⟨x.a,x.l⟩,path++[x.act]⟩ else st.2)
def seaN (es:List Ed) (role:Int):Nat->Nat->List Vst->List Fnd->List Fnd
 | 0,_,_,F=>F
 | f+1,hd,Q,F=>match Q[hd]? with
  | none=>F
  | some (p,path)=>seaN es role f (hd+1) ((srtS es p.s).foldl (seaE role p path) (Q,F)).1 ((srtS es p.s).foldl (seaE role p path) (Q,F)).2
def seaS (g:Gl) (i:Nat):List Fnd:=match g.es[i]? with
 | none=>[]
 | some x=>seaN g.es x.b (g.n.toNat*65536+1) 0 [(⟨x.t.toNat,2^x.b.toNat,0⟩,[])] []
end Go.VC
end

section
namespace Go.VC
open Go.Proofs Go.LexS
def ixI {α:Type} (p:α->Bool) (L:List α):Int:=match L.findIdx? p with | some i=>((i:Nat):Int) | none=>-1
theorem ix_hit {α:Type} {p:α->Bool}:∀ {L:List α} {i:Nat} {x:α},(∀(j:Nat) y,j<i->L[j]?=some y->p y=false)->L[i]?=some x->p x=true->L.findIdx? p=some i
 | [],i,x,_,h,_=>by cases h
 | a::L,0,x,_,h,hp=>by cases h;rw[List.findIdx?_cons,hp];rfl
 | a::L,i+1,x,hq,h,hp=>by
  rw[List.findIdx?_cons,hq 0 a (by omega) rfl,ix_hit (L:=L) (i:=i) (fun j y hj hy=>hq (j+1) y (by omega) hy) h hp];rfl
theorem ix_no {α:Type} {p:α->Bool} {L:List α} (h:∀(j:Nat) y,L[j]?=some y->p y=false):L.findIdx? p=none:=by
 rw[List.findIdx?_eq_none_iff];intro x hx;obtain⟨j,hj⟩:=Yf.1 hx;exact h j x hj
abbrev FS:=Fnd × Sl
def fnC (q:FS):List Value:=[.int .i64 q.1.m.p,.int .i64 q.1.m.l,.slice q.2.a q.2.n q.2.c]
theorem ms_eqb (x y:Ms):((x.p==y.p)&&((x.l==y.l)&&true))=decide (x=y):=by
 obtain⟨a,b⟩:=x;obtain⟨c,d⟩:=y;rw[Bool.eq_iff_iff];simp
theorem same247 (q:FS) (m:Ms) (b:Nat) (h:Heap) (hc0:atC h ⟨b,0,none⟩ m.cs):Fn Pz 132 #[.agg ⟨fnC q⟩,.pointer (some ⟨b,0,none⟩)] h fun v h'=>v=.bool (decide (q.1.m=m))/\Ext h h':=by
 apply vc132 q.1.m.p q.1.m.l q.2 ⟨b,0,none⟩;unfold W132;refine (St.refl h).newb fun h4 hs=>?_;exact⟨_,_,hs.at 0 rfl (o:=0) (n:=2) rfl,m.p,m.l,atC_ext hs.ext hc0,by rw[ms_eqb],hs.ext⟩
theorem same210 (q:FS) (m:Ms) (b:Nat) (h:Heap) (hc0:atC h ⟨b,0,none⟩ m.cs):Fn Pz 72 #[.agg ⟨fnC q⟩,.pointer (some ⟨b,0,none⟩)] h fun v h'=>v=.bool (decide (q.1.m=m))/\Ext h h':=by
 apply vc72 q.1.m.p q.1.m.l q.2 ⟨b,0,none⟩;unfold W72;refine (St.refl h).newb fun h4 hs=>?_;exact⟨_,_,hs.at 0 rfl (o:=0) (n:=2) rfl,m.p,m.l,atC_ext hs.ext hc0,by rw[ms_eqb],hs.ext⟩
theorem cal247:callable Pz 132=true:=by kernel_rfl
theorem cal210:callable Pz 72=true:=by kernel_rfl
theorem index209 (G:Nat) (hG:callable Pz G=true) (L:List FS) (m:Ms) (b:Nat) (s:Sl) (h:Heap) (hr:Rw h 3 s (L.map fnC)) (hc0:atC h ⟨b,0,none⟩ m.cs) (hl:L.length<=16777216)
  (hF:∀(q:FS) (h:Heap),atC h ⟨b,0,none⟩ m.cs->Fn Pz G #[.agg ⟨fnC q⟩,.pointer (some ⟨b,0,none⟩)] h fun v h'=>v=.bool (decide (q.1.m=m))/\Ext h h') :
  Fn Pz 71 #[.slice s.a s.n s.c,.func (.func G) #[] #[.pointer (some ⟨b,0,none⟩)]] h fun v h'=>v=.int .i64 (ixI (fun q=>decide (q.1.m=m)) L)/\Ext h h':=by
 apply vc71;unfold W71;have hn:=hr.ln;refine⟨fun x h' μ=>∃i:Nat,x=i/\μ=s.n-i/\i<=s.n/\Ext h h'/\∀(j:Nat) (y:FS),j<i->L[j]?=some y->decide (y.1.m=m)=false,⟨_,0,rfl,rfl,Nat.zero_le _,.rfl',fun j y hj=>by omega⟩,?_⟩;rintro-_ h5 μ ⟨i,rfl,rfl,hi,E,hd⟩;refine sBi (fun c=>?_) (fun c=>?_)
 .refine (hr.ext E).nbI (by omega) (by omega) fun b6 o7 q g t=>?_;replace g:L[i]?=some q:=g;refine⟨q.1.m.p,q.1.m.l,q.2,t,?_⟩;show cond (callable Pz G) _ _;rw[hG,cond_true];refine (hF q h5 (atC_ext E hc0)).mono ?_;rintro _ h16 ⟨rfl,E2⟩;refine⟨_,rfl,sB_intro (fun c1=>⟨?_,E.trans E2⟩) (fun c1=>⟨_,by omega,i+1,by rw[w64 (by omega) (by omega)];omega,rfl,by omega,E.trans E2,fun j y hj hy=>?_⟩)⟩
  .unfold ixI;rw[ix_hit hd g c1]
  .by_cases e1:j=i
   .subst e1;rw[g] at hy;cases hy;exact c1
   .exact hd j y (by omega) hy
 .refine⟨?_,E⟩;unfold ixI;rw[ix_no fun j y hj=>hd j y (by have:=(Ya.1 hj).1;omega) hj]
theorem contains246 (L:List FS) (m:Ms) (b:Nat) (s:Sl) (h:Heap) (hr:Rw h 3 s (L.map fnC)) (hc0:atC h ⟨b,0,none⟩ m.cs) (hl:L.length<=16777216) :
  Fn Pz 131 #[.slice s.a s.n s.c,.func (.func 132) #[] #[.pointer (some ⟨b,0,none⟩)]] h fun v h'=>(∃r:Bool,v=.bool r/\(r=true ↔ ∃q∈L,q.1.m=m))/\Ext h h':=by
 apply vc131;unfold W131;refine (index209 132 cal247 L m b s h hr hc0 hl fun q h hc=>same247 q m b h hc).mono ?_;rintro _ h3 ⟨rfl,E⟩;refine⟨_,rfl,⟨_,rfl,?_⟩,E⟩;rw[decide_eq_true_eq];unfold ixI;cases hf:L.findIdx? fun q=>decide (q.1.m=m) with
 | none=>
  rw[List.findIdx?_eq_none_iff] at hf;refine iff_of_false (by simp only;omega) ?_;rintro⟨q,hq,e⟩;have:=hf q hq;rw[decide_eq_true e] at this;cases this
 | some i=>
  refine iff_of_true (by simp only;omega) ?_;obtain⟨h1,h2,_⟩:=List.findIdx?_eq_some_iff_getElem.1 hf;exact⟨L[i],List.getElem_mem h1,Yyn h2⟩
theorem rev_get {α:Type} (L:List α) (i:Nat) (hi:i<L.length):L.reverse[i]?=L[L.length-1-i]?:=by
 rw[List.getElem?_reverse hi]
theorem reverse248 {h0 h:Heap} {Ls:List It} (hs:St h0 h Ls) (k:Nat) {s:Sl} {l:List Ac} (hk:Ls[k]?=some (.sl s 65 3 (l.map Ac.cs))) (hl:l.length<=33554432) :
  Fn Pz 133 #[.slice s.a s.n s.c] h fun v h'=>v=.tuple ⟨[]⟩/\St h0 h' (Ls.set k (.sl s 65 3 (l.reverse.map Ac.cs))):=by
 apply vc133 s;unfold W133;have hkl:k<Ls.length:=(Ya.1 hk).1;have hn:s.n=l.length:=by have:=(hs.len k hk (by omega)).1;rwa [Yc] at this
 have hset:Ls.set k (.sl s 65 3 (l.map Ac.cs))=Ls:=by
  obtain⟨a,b⟩:=Ya.1 hk;rw[<-b];exact List.set_getElem_self a
 refine⟨fun x y h' m=>∃(i:Nat) (c:List Ac),x=i/\y=(l.length:Int)-1-i/\m=l.length-i/\2*i<=l.length+1/\c.length=l.length/\(∀t,t<l.length->c[t]?=if t<i\/l.length-i<=t then l[l.length-1-t]? else l[t]?)/\St h0 h' (Ls.set k (.sl s 65 3 (c.map Ac.cs))),
  ⟨_,0,l,rfl,by rw[w64 (by omega) (by omega)];omega,rfl,by omega,rfl,fun t ht=>by rw[if_neg (by omega)],by rw[hset];exact hs⟩,?_⟩
 clear hs;rintro-_ _ h6 m ⟨i,c,rfl,rfl,rfl,hi,hcl,hc,hs⟩;have hkI:(Ls.set k (.sl s 65 3 (c.map Ac.cs)))[k]?=some (.sl s 65 3 (c.map Ac.cs)):=by rw[Yq hkl]
 refine sBi (fun c1=>?_) (fun c1=>?_)
 .have hj:(l.length:Int)-1-i=((l.length-1-i:Nat):Int):=by omega
  rw[hj];refine (hs.rows k hkI (by omega)).nbI (by omega) (by omega) fun b7 o8 x gx t=>?_;replace gx:c[l.length-1-i]?=some x:=gx;refine⟨x.a,x.b,x.l,t,?_⟩;refine (hs.rows k hkI (by omega)).nbI (by omega) (by omega) fun b12 o13 y gy t2=>?_;replace gy:c[i]?=some y:=gy;refine⟨y.a,y.b,y.l,t2,?_⟩;refine hs.set k hkI (by omega) (x:=(i:Int)) (by omega) (by omega) x rfl rfl (fun b17 o18 h19 hs=>?_) rfl;rw[List.set_set] at hs;have hkI2:(Ls.set k (.sl s 65 3 ((c.set (Int.toNat (i:Int)) x).map Ac.cs)))[k]?=some (.sl s 65 3 ((c.set (Int.toNat (i:Int)) x).map Ac.cs)):=by rw[Yq hkl]
  refine hs.set k hkI2 (by omega) (x:=((l.length-1-i:Nat):Int)) (by omega) (by omega) y rfl rfl (fun b20 o21 h22 hs=>?_) rfl;rw[List.set_set] at hs;refine⟨_,?_,i+1,(c.set i x).set (l.length-1-i) y,by rw[w64 (by omega) (by omega)];omega,by rw[w64 (by omega) (by omega)];omega,rfl,by omega,by rw[Yyh,Yyh];exact hcl,fun t ht=>?_,hs⟩
  .omega
  .have h1:=hc (l.length-1-i) (by omega);have h2:=hc i (by omega);rw[if_neg (by omega)] at h1 h2;rw[gx] at h1;rw[gy] at h2;by_cases e1:l.length-1-i=t
   .subst e1;rw[Yq (by rw[Yyh];omega),if_pos (by omega),show l.length-1-(l.length-1-i)=i by omega,h2]
   .rw[Yy e1];by_cases e2:i=t
    .subst e2;rw[Yq (by omega),if_pos (by omega),h1]
    .rw[Yy e2,hc t ht];by_cases e3:t<i\/l.length-i<=t
     .rw[if_pos e3,if_pos (by omega)]
     .rw[if_neg e3,if_neg (by omega)]
 .refine⟨rfl,?_⟩;have:c=l.reverse:=by
   apply Yyr;intro t;by_cases ht:t<l.length
   .rw[hc t ht,rev_get l t ht];by_cases e3:t<i\/l.length-i<=t
    .rw[if_pos e3]
    .rw[if_neg e3];congr 1;omega
   .rw[Yl (by omega),Yl (by rw[List.length_reverse];omega)]
  rw[<-this];exact hs
end Go.VC
end

section
namespace Go.VC
open Go.Proofs Go.LexS Go.Maps
theorem made24 (n:Nat):madeL Pz 24 n=(List.replicate n (⟨none,0,0⟩:Sl)).map slV:=by
 have e:zeroC Pz 24=[.slice none 0 0]:=by kernel_rfl
 unfold madeL;rw[e,List.map_replicate]
 induction n with
 | zero=>rfl
 | succ n ih=>rw[List.replicate_succ,List.replicate_succ,Yyu,ih];rfl
theorem app24:appB Pz 24 67 6 48=true:=by kernel_rfl
theorem app314:appB Pz 130 134 3 40=true:=by kernel_rfl
theorem app355:appB Pz 249 248 7 48=true:=by kernel_rfl
theorem app261:appB Pz 68 72 2 16=true:=by kernel_rfl
def Plc.v (p:Plc):Value:=.agg ⟨p.cs⟩
def kokL (p:Plc):Prop:=p.s<1048576/\p.b<256/\p.d<256
theorem s351 : ∃ fs, Pz.underlying 245 = some (.struct fs) /\ fs.all (·.name != "_") = true /\ fs.toList.map (fun f => (f.type, f.offset)) = [(3, 0), (5, 1), (5, 2)] := su (by kernel_rfl)
theorem c351:Pz.cellsOf 245=3:=by kernel_rfl
theorem c5:Pz.cellsOf 5=1:=by kernel_rfl
theorem u5:Pz.underlying 5=some (.int .u8):=by kernel_rfl
theorem wf8 {n:Nat} (h:n<256):(Lit.int .u8 ((n:Nat):Int)).wf=true:=by
 unfold Lit.wf;simp only[Yt,decide_eq_true_eq];have e1:IntKind.u8.min=0:=by decide
 have e2:IntKind.u8.max=255:=by decide
 rw[e1,e2];omega
theorem key_plc (p:Plc) (h:kokL p):∃l,keyOf Pz 245 p.v=some l:=by
 obtain⟨fs,hu,hn,hf⟩:=s351;obtain⟨h1,h2,h3⟩:=h;have hsz:∃n,Pz.types.size+1=n+2:=⟨Pz.types.size-1,by kernel_rfl⟩;obtain⟨n,hsz⟩:=hsz;have w1:inR ((p.s:Nat):Int):=⟨by omega,by omega⟩;have hl:Pz.keyLits (n+2) 245 p.cs=some [[.int .i64 ((p.s:Nat):Int)],[.int .u8 ((p.b:Nat):Int)],[.int .u8 ((p.d:Nat):Int)]].flatten:=by
  refine kl_struct hu (by rw[c351];rfl) hn hf ?_;simp only[List.mapM_cons,List.mapM_nil,c3,c5,Plc.cs,List.drop_zero,List.take_succ_cons,Yyk,List.drop_succ_cons,kl_int u3 w1.wf,kl_int u5 (wf8 h2),kl_int u5 (wf8 h3)];rfl
 have hkt:Pz.keyType 245=true:=by kernel_rfl
 have hfo:p.v.formed Pz 245=true:=by
  unfold Plc.v Value.formed;simp only[hu,c351];rfl
 have e:keyOf Pz 245 p.v=(Pz.keyLits (n+2) 245 p.cs).map fun ls=>.string (keyBytes ls):=by
  unfold keyOf;simp only[hu,hkt,hfo,Bool.and_self,if_true,hsz];rfl
 rw[e,hl];exact⟨_,rfl⟩
theorem plc_inj (a b:Plc) (h:a.v=b.v):a=b:=by
 unfold Plc.v Plc.cs at h;obtain⟨a1,a2,a3⟩:=a;obtain⟨b1,b2,b3⟩:=b;simp at h;obtain⟨h1,h2,h3⟩:=h;congr 1<;>omega
theorem M352:MT Pz 246 245 4 Plc.v kokL (.bool false) where
 K:=Keyed.of_law (deep_law_laid laid25 (m:=2) (by omega) (Yyn (by kernel_rfl)) (by kernel_rfl) (by kernel_rfl))
 ht:=by kernel_rfl
 key:=key_plc
 inj:=plc_inj
 z:=fun w=>by kernel_rfl
abbrev Vzt:=Plc × (Int × Ac)
def vC (v:Vzt):List Value:=[.int .i64 (v.1.s:Nat),.int .u8 (v.1.b:Nat),.int .u8 (v.1.d:Nat),.int .i64 v.2.1,.int .i64 v.2.2.a,.int .i64 v.2.2.b,.int .i64 v.2.2.l]
structure QuI (n:Nat) (Q:List Vst) (V:List Vzt) (K:List (Plc × Bool)):Prop where
 vn:V.length=Q.length
 vq:∀(i:Nat) (v:Vzt) (q:Vst),V[i]?=some v->Q[i]?=some q->v.1=q.1/\((v.2.1=-1/\q.2=[])\/∃(a:Nat) (qa:Vst),v.2.1=a/\a<i/\Q[a]?=some qa/\q.2=qa.2++[v.2.2])
 nd:(Q.map Prod.fst).Nodup
 ok:∀q∈Q,q.1.ok n
 pl:∀(i:Nat) (q:Vst),Q[i]?=some q->q.2.length<=i
 ky:∀p,p∈K.map Prod.fst ↔ p∈Q.map Prod.fst
 kt:∀q∈K,q.2=true
 kn:(K.map Prod.fst).Nodup
theorem QuI.le {n:Nat} {Q:List Vst} {V:List Vzt} {K:List (Plc × Bool)} (h:QuI n Q V K):Q.length<=n*4096:=by
 have:=plc_le h.nd fun p hp=>by obtain⟨q,hq,rfl⟩:=Yp.1 hp;exact h.ok q hq
 rwa [Yc] at this
theorem QuI.kok {n:Nat} {Q:List Vst} {V:List Vzt} {K:List (Plc × Bool)} (h:QuI n Q V K) (hn:n<=200):∀q∈K,kokL q.1:=fun q hq=>by
 have h1:=(h.ky q.1).1 (Yp.2 ⟨q,hq,rfl⟩);obtain⟨q2,h2,h3⟩:=Yp.1 h1;obtain⟨h4,h5,h6⟩:=h.ok q2 h2;rw[h3] at h4 h5 h6;exact⟨by omega,by omega,by omega⟩
theorem mset_val {α β:Type} [DecidableEq α] (a:α) (b:β):∀(l:List (α × β)) (q:α × β),q∈mset l a b->q∈l\/q=(a,b)
 | [],q,h=>by simp[mset] at h;exact .inr h
 | (c,y)::r,q,h=>by
  rw[mset] at h;split at h
  .rename_i e;subst e;rcases Yr.1 h with h | h
   .exact .inr h
   .exact .inl (Yn _ h)
  .rcases Yr.1 h with h | h
   .exact .inl (by rw[h];simp)
   .rcases mset_val a b r q h with h | h
    .exact .inl (Yn _ h)
    .exact .inr h
theorem QuI.push {n:Nat} {Q:List Vst} {V:List Vzt} {K:List (Plc × Bool)} (h:QuI n Q V K) {hd:Nat} {q:Vst} (hq:Q[hd]?=some q) {nx:Plc} {a:Ac} (hno:nx∉Q.map Prod.fst) (hok:nx.ok n) :
  QuI n (Q++[(nx,q.2++[a])]) (V++[(nx,((hd:Int),a))]) (mset K nx true):=by
 have hl:=(Ya.1 hq).1;refine⟨by rw[Yh,Yh,h.vn];rfl,fun i v p hv hp=>?_,?_,fun p hp=>?_,fun i p hp=>?_,fun p=>?_,fun p hp=>?_,mset_nodup _ _ _ h.kn⟩
 .rcases Nat.lt_or_ge i Q.length with h1 | h1
  .rw[Yyi (by rw[h.vn];exact h1)] at hv;rw[Yyi h1] at hp;obtain⟨h2,h3⟩:=h.vq i v p hv hp;refine⟨h2,h3.imp_right fun ⟨a',qa,h4,h5,h6,h7⟩=>⟨a',qa,h4,h5,?_,h7⟩⟩;rw[Yyi (by omega)];exact h6
  .rw[Yyc (by rw[h.vn];exact h1),h.vn] at hv;rw[Yyc h1] at hp;have h2:=(Ya.1 hp).1;rw[Yv] at h2;have h3:i-Q.length=0:=by omega
   rw[h3] at hv hp;cases hv;cases hp;exact⟨rfl,.inr ⟨hd,q,rfl,by omega,by rw[Yyi hl];exact hq,rfl⟩⟩
 .rw[Ym,List.nodup_append];exact⟨h.nd,by simp,fun x hx y hy e=>by simp only[Yyl,List.map_nil,Ye] at hy;subst hy;subst e;exact hno hx⟩
 .rcases Yk.1 hp with hp | hp
  .exact h.ok p hp
  .rw[Ye] at hp;rw[hp];exact hok
 .rcases Nat.lt_or_ge i Q.length with h1 | h1
  .rw[Yyi h1] at hp;exact h.pl i p hp
  .rw[Yyc h1] at hp;have h2:=(Ya.1 hp).1;rw[Yv] at h2;have h3:i-Q.length=0:=by omega
   rw[h3] at hp;cases hp;have:=h.pl hd q hq;simp only[Yh,Yv];omega
 .rw[mset_keys,h.ky,Ym,Yk];simp
 .rcases mset_val nx true K p hp with h1 | h1
  .exact h.kt p h1
  .rw[h1]
theorem QuI.look {n:Nat} {Q:List Vst} {V:List Vzt} {K:List (Plc × Bool)} (h:QuI n Q V K) (p:Plc):(mget K p).elim (Value.bool false) Value.bool=.bool (decide (p∈Q.map Prod.fst)):=by
 cases hm:mget K p with
 | none=>
  rw[decide_eq_false fun hp=>?_];rfl;have:=(mget_isSome p K).2 ((h.ky p).2 hp);rw[hm] at this;cases this
 | some b=>
  have h1:=(mget_isSome p K).1 (by rw[hm];rfl);obtain⟨q,hq,rfl⟩:=Yp.1 h1;obtain⟨j,hj⟩:=Yf.1 hq;have h2:=mget_some h.kn (a:=q.1) (y:=q.2) hj;rw[hm] at h2;cases h2;rw[decide_eq_true ((h.ky _).1 h1),h.kt q hq];rfl
theorem seaT_ok {g:Gl} (hV:ValidS g) {p:Plc} (hp:p.ok g.n.toNat) {x:Ed} (hx:x∈g.es) (role:Int):(seaT role p x).1.ok g.n.toNat:=by
 have h1:=hV.num.e x hx;have h2:=hV.nam.n6;unfold EdS at h1;obtain⟨h3,h4,h5⟩:=hp;unfold seaT;split
 .exact⟨by simp only;omega,or6 h4 (by omega),h5⟩
 .split
  .exact⟨by simp only;omega,h4,or6 h5 (by omega)⟩
  .exact⟨by simp only;omega,h4,h5⟩
def pathIt (q:FS):It:=nest 65 3 Ac.cs (q.2,q.1.path)
def seaL (gb ob mb:Nat) (g:Gl) (qu al:Sl) (V:List Vzt) (K:List (Plc × Bool)) (F:List FS) (MS:List (Sl × List Ed)):List It:=
 .sl qu 248 7 (V.map vC) :: .sl al 134 3 (F.map fnC) :: .mp mb (K.map fun q=>(q.1.v,Value.bool q.2)) :: .blk ob ((MS.map Prod.fst).map slV) 24 :: .blk gb g.cs 27::(MS.map (nest 67 6 Ed.cs)++F.map pathIt)
end Go.VC
end

section
namespace Go.VC
open Go.Proofs Go.LexS
theorem seaL_mid {gb ob mb:Nat} {g:Gl} {qu al:Sl} {V:List Vzt} {K:List (Plc × Bool)} {F:List FS} {MS:List (Sl × List Ed)} (f:FS):(seaL gb ob mb g qu al V K (F++[f]) MS).Perm (pathIt f :: .sl qu 248 7 (V.map vC) :: .sl al 134 3 ((F++[f]).map fnC) :: .mp mb (K.map fun q=>(q.1.v,Value.bool q.2)) :: .blk ob ((MS.map Prod.fst).map slV) 24 :: .blk gb g.cs 27::(MS.map (nest 67 6 Ed.cs)++F.map pathIt)):=by
 unfold seaL;rw[Ym (f:=pathIt),<-Yz];refine List.Perm.trans (List.Perm.of_eq ?_) (List.perm_append_comm (l₁:=.sl qu 248 7 (V.map vC) :: .sl al 134 3 ((F++[f]).map fnC) :: .mp mb (K.map fun q=>(q.1.v,Value.bool q.2)) :: .blk ob ((MS.map Prod.fst).map slV) 24 :: .blk gb g.cs 27::(MS.map (nest 67 6 Ed.cs)++F.map pathIt)) (l₂:=[pathIt f]));simp
theorem path206 {h0 h140 h144 h133:Heap} {hd:Nat} {g:Gl} {gb ob mb:Nat} {qu al:Sl} {V:List Vzt} {K:List (Plc × Bool)} {F:List FS} {MS:List (Sl × List Ed)} {R:List It} {Q:List Vst} {q:Vst} {x:Ac} {m:Ms} {n:Nat} {J:Sl->Heap->Prop}
  (hs:St h0 h144 (.sl ⟨some ⟨h140.size,0,none⟩,1,1⟩ 65 3 ([x].map Ac.cs) :: .blk h133.size m.cs 72::(R++seaL gb ob mb g qu al V K F MS))) (hQ:QuI n Q V K) (hn:n<=200) (hq:Q[hd]?=some q) (hF:F.length<=16777216)
  (hJ:∀(al' r:Sl) (h':Heap),St h0 h' (R++seaL gb ob mb g qu al' V K (F++[(⟨m,q.2++[x]⟩,r)]) MS)->J al' h') :
  V68a h140 (hd:Nat) h144 qu h133 al J:=by
 unfold V68a;have hle:=hQ.le;have hn2:n*4096<=200*4096:=Nat.mul_le_mul_right _ hn;refine⟨fun path y h' μ=>∃(i:Nat) (qi:Vst) (sfx:List Ac),y=i/\μ=i/\Q[i]?=some qi/\q.2=qi.2++sfx/\St h0 h' (.sl path 65 3 ((x::sfx.reverse).map Ac.cs) :: .blk h133.size m.cs 72::(R++seaL gb ob mb g qu al V K F MS)),⟨_,hd,q,[],rfl,rfl,hq,by simp,hs⟩,?_⟩;clear hs;rintro-path _ h150 i ⟨_,qi,sfx,rfl,rfl,hqi,hsf,hs⟩;have hil:=(Ya.1 hqi).1;have hpl:=hQ.pl hd q hq;have hdl:=(Ya.1 hq).1;have hsl:sfx.length<=q.2.length:=by rw[hsf,Yh];omega
 have hcap:=hs.len 0 (s:=path) (e:=65) (n:=3) (rows:=(x::sfx.reverse).map Ac.cs) rfl (by omega);rw[Yc,Yyj,List.length_reverse] at hcap;have hmem:∀ {it:It},it∈seaL gb ob mb g qu al V K F MS->it∈(.sl path 65 3 ((x::sfx.reverse).map Ac.cs) :: .blk h133.size m.cs 72::(R++seaL gb ob mb g qu al V K F MS)):=fun h=>Yn _ (Yn _ (List.mem_append_right _ h));have hqr:Rw h150 7 qu (V.map vC):=hs.rwm (e:=248) (hmem (by unfold seaL;simp)) (by omega);have hqn:=hqr.ln;have hvn:=hQ.vn;obtain⟨v,hv⟩:=get_some (l:=V) (i:=i) (by omega);obtain⟨h1,h2⟩:=hQ.vq i v qi hv hqi;refine hqr.nbI (by omega) (by omega) fun b151 o152 v' gv t=>?_;replace gv:V[i]?=some v':=gv;rw[hv] at gv;cases gv;refine⟨v.2.1,t.nth 3 rfl,sBi (fun c=>?_) (fun c=>?_)⟩
 .obtain⟨a,qa,h3,h4,h5,h6⟩:∃(a:Nat) (qa:Vst),v.2.1=a/\a<i/\Q[a]?=some qa/\qi.2=qa.2++[v.2.2]:=by
   rcases h2 with ⟨h2,_⟩ | h2
   .omega
   .exact h2
  refine hqr.nbI (by omega) (by omega) fun b154 o155 v' gv t2=>?_;replace gv:V[i]?=some v':=gv;rw[hv] at gv;cases gv;refine⟨v.2.2.a,v.2.2.b,v.2.2.l,t2.sub 4 3 rfl,?_⟩;refine hs.app 0 rfl app48 (m:=1) [v.2.2.cs] rfl rfl (fun r hr=>by rw[Ye] at hr;rw[hr];rfl) rfl (by omega) (by simp only[maxLen];omega) fun s160 h161 n160 hs=>?_;have hqr2:Rw h161 7 qu (V.map vC):=hs.rwm (e:=248) (Yn _ (Yn _ (List.mem_append_right _ (by unfold seaL;simp)))) (by omega);refine hqr2.nbI (by omega) (by omega) fun b162 o163 v' gv t3=>?_;replace gv:V[i]?=some v':=gv;rw[hv] at gv;cases gv;refine⟨v.2.1,t3.nth 3 rfl,a,h4,a,qa,v.2.2::sfx,h3,rfl,h5,by rw[hsf,h6,Yz];rfl,?_⟩;rw[List.reverse_cons,<-List.cons_append,Ym];exact hs
 .have hnil:qi.2=[]:=by
   rcases h2 with ⟨_,h2⟩ | ⟨a,_,h3,_⟩
   .exact h2
   .omega
  rw[hnil,List.nil_append] at hsf;refine (reverse248 hs 0 rfl (by rw[Yyj,List.length_reverse];omega)).mono ?_;rintro _ h167 ⟨rfl,hs⟩;have er:(x::sfx.reverse).reverse=q.2++[x]:=by rw[List.reverse_cons,List.reverse_reverse,hsf]
  rw[er] at hs;refine⟨rfl,m.p,m.l,hs.at 1 rfl (o:=0) (n:=2) rfl,?_⟩;refine hs.newbE fun h170 E170 hs=>?_;have hs:St h0 h170 (.sl al 134 3 (F.map fnC) :: .blk h167.size (fnC ((⟨m,q.2++[x]⟩:Fnd),path)) 134 :: .sl path 65 3 ((q.2++[x]).map Ac.cs) :: .blk h133.size m.cs 72::(R++(.sl qu 248 7 (V.map vC) :: .mp mb (K.map fun q=>(q.1.v,Value.bool q.2)) :: .blk ob ((MS.map Prod.fst).map slV) 24 :: .blk gb g.cs 27::(MS.map (nest 67 6 Ed.cs)++F.map pathIt)))):=by
   refine hs.perm ?_;refine List.Perm.trans (List.Perm.of_eq ?_) (List.Perm.trans (List.perm_middle (l₁:=.blk h167.size (fnC ((⟨m,q.2++[x]⟩:Fnd),path)) 134 :: .sl path 65 3 ((q.2++[x]).map Ac.cs) :: .blk h133.size m.cs 72::(R++[.sl qu 248 7 (V.map vC)])) (a:=.sl al 134 3 (F.map fnC)) (l₂:=.mp mb (K.map fun q=>(q.1.v,Value.bool q.2)) :: .blk ob ((MS.map Prod.fst).map slV) 24 :: .blk gb g.cs 27::(MS.map (nest 67 6 Ed.cs)++F.map pathIt))) (List.Perm.of_eq ?_))
   .simp[seaL,fnC]
   .simp
  have hal:=hs.len 0 (s:=al) (e:=134) (n:=3) (rows:=F.map fnC) rfl (by omega);rw[Yc] at hal;refine hs.appended 0 rfl app314 (news:=[fnC ((⟨m,q.2++[x]⟩:Fnd),path)]) (hs.at 1 rfl (o:=0) (n:=3) rfl) rfl (fun r hr=>by rw[Ye] at hr;rw[hr];rfl) rfl (by show (al.n+1)*40<=140737488355328;omega) (by show al.n+1<=9223372036854775807;omega) fun s171 h172 n171 hs=>?_;refine hJ s171 path h172 ?_;have hs:St h0 h172 (.sl s171 134 3 ((F++[((⟨m,q.2++[x]⟩:Fnd),path)]).map fnC)::pathIt ((⟨m,q.2++[x]⟩:Fnd),path)::(R++(.sl qu 248 7 (V.map vC) :: .mp mb (K.map fun q=>(q.1.v,Value.bool q.2)) :: .blk ob ((MS.map Prod.fst).map slV) 24 :: .blk gb g.cs 27::(MS.map (nest 67 6 Ed.cs)++F.map pathIt)))):=by
   rw[Ym];exact hs.sub (.cons_cons _ (.cons _ (.cons_cons _ (.cons _ (List.Sublist.refl _)))))
  refine hs.perm ?_;refine List.Perm.symm ((List.Perm.append_left R (seaL_mid _)).trans ?_);refine List.Perm.trans (List.Perm.of_eq ?_) (List.Perm.trans (List.perm_middle (l₁:=R++[pathIt ((⟨m,q.2++[x]⟩:Fnd),path),.sl qu 248 7 (V.map vC)]) (a:=.sl s171 134 3 ((F++[((⟨m,q.2++[x]⟩:Fnd),path)]).map fnC)) (l₂:=.mp mb (K.map fun q=>(q.1.v,Value.bool q.2)) :: .blk ob ((MS.map Prod.fst).map slV) 24 :: .blk gb g.cs 27::(MS.map (nest 67 6 Ed.cs)++F.map pathIt))) (List.Perm.cons _ ?_))
  .simp
  .refine List.Perm.trans (List.Perm.of_eq ?_) (List.perm_middle (l₁:=R) (a:=pathIt ((⟨m,q.2++[x]⟩:Fnd),path)));simp
structure FnI (g:Gl) (F:List Fnd):Prop where
 nd:(F.map (·.m)).Nodup
 e:∀f∈F,∃x∈g.es,f.m=⟨x.a,x.l⟩
 pl:∀f∈F,f.path.length<=1000000
theorem FnI.len {g:Gl} {F:List Fnd} (h:FnI g F):F.length<=g.es.length:=by
 have:=List.Nodup.length_le_of_subset h.nd (l₂:=g.es.map fun x=>(⟨x.a,x.l⟩:Ms)) fun m hm=>by
  obtain⟨f,hf,rfl⟩:=Yp.1 hm;obtain⟨x,hx,e⟩:=h.e f hf;exact Yp.2 ⟨x,hx,e.symm⟩
 rwa [Yc,Yc] at this
theorem FnI.note {g:Gl} {F:List Fnd} (h:FnI g F) {x:Ed} (hx:x∈g.es) {path:List Ac} (hp:path.length<=1000000):FnI g (noteF F ⟨⟨x.a,x.l⟩,path⟩):=by
 unfold noteF;split
 .exact h
 .rename_i hno;refine⟨?_,fun f hf=>?_,fun f hf=>?_⟩
  .rw[Ym,List.nodup_append];refine⟨h.nd,by simp,fun a ha b hb e=>?_⟩;simp only[Yyl,List.map_nil,Ye] at hb;subst hb;subst e;obtain⟨y,hy,e⟩:=Yp.1 ha;exact hno ⟨y,hy,e⟩
  .rcases Yk.1 hf with hf | hf
   .exact h.e f hf
   .rw[Ye] at hf;subst hf;exact⟨x,hx,rfl⟩
  .rcases Yk.1 hf with hf | hf
   .exact h.pl f hf
   .rw[Ye] at hf;subst hf;exact hp
theorem seaE_fni {g:Gl} {role:Int} {p:Plc} {path:List Ac} {st:List Vst × List Fnd} {x:Ed} (h:FnI g st.2) (hx:x∈g.es) (hp:path.length<1000000):FnI g (seaE role p path st x).2:=by
 unfold seaE;simp only;split
 .exact h.note hx (by rw[Yh,Yv];omega)
 .exact h
theorem edge206 {h0 h121 h90 h106 h116:Heap} {hd:Nat} {g:Gl} {gb ob mb:Nat} {qu al:Sl} {V:List Vzt} {K:List (Plc × Bool)} {F:List FS} {MS:List (Sl × List Ed)} {Q:List Vst} {q:Vst} {x:Ed} {role:Int} {m102:Nat} {I:Sl->Sl->Int->Heap->Nat->Prop} {y:Int}
  (hV:ValidS g) (hr:role=((role.toNat:Nat):Int))
  (hs:St h0 h121 (.blk h116.size [.int .i64 x.t,.int .u8 (q.1.b:Nat),.int .u8 (q.1.d:Nat)] 245 :: .blk h106.size x.cs 67 :: .blk h90.size q.1.cs 245::seaL gb ob mb g qu al V K F MS)) (hQ:QuI g.n.toNat Q V K) (hq:Q[hd]?=some q) (hF:FnI g (F.map Prod.fst)) (hx:x∈g.es)
  (hI:∀(qu' al':Sl) (Q':List Vst) (V':List Vzt) (K':List (Plc × Bool)) (F':List FS) (h':Heap),St h0 h' (.blk h90.size q.1.cs 245::seaL gb ob mb g qu' al' V' K' F' MS)->QuI g.n.toNat Q' V' K'->(Q',F'.map Prod.fst)=seaE role q.1 q.2 (Q,F.map Prod.fst) x->(∀(k:Nat) z,Q[k]?=some z->Q'[k]?=some z)->∃m,m<m102/\I qu' al' (IntKind.wrap .i64 (y+1)) h' m) :
  V68b h121 h90 h106 h116 al role (hd:Nat) qu (some mb) m102 I y:=by
 unfold V68b;have hN:=hV.num.n;have hM:=hV.num.m;have h6:=hV.nam.n6;have hxE:=hV.num.e x hx;unfold EdS at hxE;have hqo:=hQ.ok q (Yb hq);obtain⟨ho1,ho2,ho3⟩:=hqo;have hnx:=seaT_ok hV (hQ.ok q (Yb hq)) hx role;have hxa:x.a=((x.a.toNat:Nat):Int):=by omega
 have hxb:x.b=((x.b.toNat:Nat):Int):=by omega
 have hxt:x.t=((x.t.toNat:Nat):Int):=by omega
 have hfl:=hF.len;rw[Yc] at hfl;have b1:=bits8 ⟨q.1.b,by omega⟩ ⟨x.a.toNat,by omega⟩;have b2:=bits8 ⟨q.1.d,by omega⟩ ⟨x.a.toNat,by omega⟩;have b3:=bits8 ⟨q.1.b,by omega⟩ ⟨x.b.toNat,by omega⟩;simp only[<-hxa,<-hxb] at b1 b2 b3;refine⟨fun al' h'=>∃F':List FS,St h0 h' (.blk h116.size (seaT role q.1 x).1.cs 245 :: .blk h106.size x.cs 67 :: .blk h90.size q.1.cs 245::seaL gb ob mb g qu al' V K F' MS)/\F'.map Prod.fst=(if (seaT role q.1 x).2 then noteF (F.map Prod.fst) ⟨⟨x.a,x.l⟩,q.2++[x.act]⟩ else F.map Prod.fst),?_,?_⟩
 .refine⟨(q.1.b:Nat),hs.rd 2 rfl (i:=1) rfl,x.a,hs.rd 1 rfl (i:=1) rfl,by omega,?_⟩;rw[b1.1];refine sB_intro (fun c=>?_) (fun c=>?_)
  .refine⟨(q.1.b:Nat),hs.rd 0 rfl (i:=1) rfl,x.b,hs.rd 1 rfl (i:=2) rfl,by omega,?_⟩;rw[b3.2.2];refine hs.put 0 rfl (o:=1) (vs:=[.int .u8 ((q.1.b|||2^x.b.toNat:Nat):Int)]) rfl (show 2<=3 by decide) fun h127 hs=>?_;have e:seaT role q.1 x=(⟨x.t.toNat,q.1.b|||2^x.b.toNat,q.1.d⟩,false):=by unfold seaT;rw[if_pos c]
   rw[e];refine⟨F,?_,rfl⟩;unfold Plc.cs;simp only;rw[<-hxt];exact hs
  .refine⟨x.b,hs.rd 1 rfl (i:=2) rfl,?_⟩;have e0:∀(e:Plc),(⟨x.t.toNat,q.1.b,q.1.d⟩:Plc).cs=[.int .i64 x.t,.int .u8 (q.1.b:Nat),.int .u8 (q.1.d:Nat)]:=fun _=>by unfold Plc.cs;simp only;rw[<-hxt]
   refine sBe (fun c2=>?_) (fun c2=>?_)
   .refine⟨(q.1.d:Nat),hs.rd 2 rfl (i:=2) rfl,x.a,hs.rd 1 rfl (i:=1) rfl,by omega,?_⟩;rw[b2.2.1];refine sB_intro (fun c3=>?_) (fun c3=>?_)
    .have c3':q.1.d.testBit x.a.toNat=false:=bF c3;have e:seaT role q.1 x=(⟨x.t.toNat,q.1.b,q.1.d|||2^x.a.toNat⟩,true):=by unfold seaT;rw[if_neg (by rw[c];decide),if_pos ⟨c2,c3'⟩]
     refine⟨(q.1.d:Nat),hs.rd 0 rfl (i:=2) rfl,x.a,hs.rd 1 rfl (i:=1) rfl,by omega,?_⟩;rw[b2.2.2];refine hs.put 0 rfl (o:=2) (vs:=[.int .u8 ((q.1.d|||2^x.a.toNat:Nat):Int)]) rfl (show 3<=3 by decide) fun h133 hs=>?_;refine⟨x.a,hs.rd 1 rfl (i:=1) rfl,x.l,hs.rd 1 rfl (i:=3) rfl,?_⟩;refine hs.newput (vs:=[.int .i64 x.a,.int .i64 x.l]) rfl rfl fun h137 hs=>?_;have hs:St h0 h137 (.blk h133.size (⟨x.a,x.l⟩:Ms).cs 72 :: .blk h116.size (⟨x.t.toNat,q.1.b,q.1.d|||2^x.a.toNat⟩:Plc).cs 245 :: .blk h106.size x.cs 67 :: .blk h90.size q.1.cs 245::seaL gb ob mb g qu al V K F MS):=by
      unfold Plc.cs;simp only;rw[<-hxt];exact hs
     refine (contains246 F ⟨x.a,x.l⟩ h133.size al h137 (hs.rw 5 rfl (by omega)) (hs.at 0 rfl (o:=0) (n:=2) rfl) (by omega)).mono ?_;rintro _ h140 ⟨⟨r,rfl,hr2⟩,E⟩;replace hs:=hs.step E;have hr3:r=true ↔ ∃y∈F.map Prod.fst,y.m=⟨x.a,x.l⟩:=hr2.trans ⟨fun ⟨y,h1,h2⟩=>⟨y.1,Yp.2 ⟨y,h1,rfl⟩,h2⟩,fun ⟨y,h1,h2⟩=>by obtain⟨z,h3,rfl⟩:=Yp.1 h1;exact⟨z,h3,h2⟩⟩;rw[e];simp only[if_true];refine⟨r,rfl,sB_intro (fun c4=>?_) (fun c4=>?_)⟩
     .have hno:¬∃y∈F.map Prod.fst,y.m=⟨x.a,x.l⟩:=fun h9=>by rw[hr3.2 h9] at c4;cases c4
      refine⟨x.a,x.b,x.l,hs.at 2 rfl (o:=1) (n:=3) rfl,?_⟩;refine hs.newb fun h144 hs=>?_;have hs:=hs.blkS 1 3 ([x.act].map Ac.cs) rfl (fun r hr=>by obtain⟨x,_,rfl⟩:=Yp.1 hr;rfl) rfl (by decide);refine path206 (R:=[.blk h116.size (⟨x.t.toNat,q.1.b,q.1.d|||2^x.a.toNat⟩:Plc).cs 245,.blk h106.size x.cs 67,.blk h90.size q.1.cs 245]) (q:=q) (m:=⟨x.a,x.l⟩) hs hQ (by omega) hq (by omega) fun al' r h' hs=>⟨_,hs,?_⟩;unfold noteF;rw[if_neg hno,Ym];rfl
     .refine⟨F,hs.drop 1,?_⟩;unfold noteF;rw[if_pos (hr3.1 (bT c4))]
    .have e:seaT role q.1 x=(⟨x.t.toNat,q.1.b,q.1.d⟩,false):=by unfold seaT;rw[if_neg (by rw[c];decide),if_neg (fun h9=>by rw[h9.2] at c3;cases c3)]
     rw[e];refine⟨F,?_,rfl⟩;rw[e0 q.1];exact hs
   .have e:seaT role q.1 x=(⟨x.t.toNat,q.1.b,q.1.d⟩,false):=by unfold seaT;rw[if_neg (by rw[c];decide),if_neg (fun h9=>c2 h9.1)]
    rw[e];refine⟨F,?_,rfl⟩;rw[e0 q.1];exact hs
 .clear hs b1 b2 b3;rintro-al' h174 ⟨F',hs,hF'⟩;generalize hnxt:(seaT role q.1 x).1=nx at *;obtain⟨hn1,hn2,hn3⟩:=hnx;have hst:∀Q':List Vst,Q'=(if nx∈Q.map Prod.fst then Q else Q++[(nx,q.2++[x.act])])->(Q',F'.map Prod.fst)=seaE role q.1 q.2 (Q,F.map Prod.fst) x:=fun Q' e=>by
   unfold seaE;simp only;rw[hnxt,<-e,hF']
  refine⟨(nx.s:Nat),(nx.b:Nat),(nx.d:Nat),hs.at 0 rfl (o:=0) (n:=3) rfl,?_⟩;refine hs.mlook1 (cv:=Value.bool) (l:=K) M352 5 rfl (hQ.kok (by omega)) hQ.kn (a:=nx) ⟨by omega,by omega,by omega⟩ ?_;rw[hQ.look];refine⟨_,rfl,sB_intro (fun c=>?_) (fun c=>?_)⟩
  .have hno:nx∉Q.map Prod.fst:=Yyo (bF c);refine⟨(nx.s:Nat),(nx.b:Nat),(nx.d:Nat),hs.at 0 rfl (o:=0) (n:=3) rfl,?_⟩;refine hs.mput (cv:=Value.bool) (l:=K) M352 5 rfl (hQ.kok (by omega)) hQ.kn (a:=nx) ⟨by omega,by omega,by omega⟩ true fun h184 hs=>?_;refine⟨(nx.s:Nat),(nx.b:Nat),(nx.d:Nat),hs.at 0 rfl (o:=0) (n:=3) rfl,x.a,x.b,x.l,hs.at 1 rfl (o:=1) (n:=3) rfl,?_⟩;have hqun:=hs.len 3 (s:=qu) (e:=248) (n:=7) (rows:=V.map vC) rfl (by omega);rw[Yc] at hqun;have hle:=hQ.le;have hvn:=hQ.vn;have hn2':g.n.toNat*4096<=200*4096:=Nat.mul_le_mul_right _ (by omega);refine hs.app 3 rfl app355 (m:=1) [vC (nx,((hd:Int),x.act))] rfl rfl (fun r hr=>by rw[Ye] at hr;rw[hr];rfl) rfl (by omega) (by simp only[maxLen];omega) fun s192 h193 n192 hs=>?_;refine hI s192 al' _ (V++[(nx,((hd:Int),x.act))]) (mset K nx true) F' h193 ?_ (hQ.push hq hno ⟨hn1,hn2,hn3⟩) (hst _ (by rw[if_neg hno])) fun k z hz=>by rw[Yyi (Ya.1 hz).1];exact hz
   have hs:=hs.drop 2;unfold seaL;rw[Ym (f:=vC)];exact hs
  .have hin:nx∈Q.map Prod.fst:=Yyn (bT c);exact hI qu al' Q V K F' _ (hs.drop 2) hQ (hst Q (by rw[if_pos hin])) fun k z hz=>hz
theorem seaN_step {es:List Ed} {role:Int} {f hd:Nat} {Q:List Vst} {F:List Fnd} {q:Vst} (hq:Q[hd]?=some q):seaN es role (f+1) hd Q F=seaN es role f (hd+1) ((srtS es q.1.s).foldl (seaE role q.1 q.2) (Q,F)).1 ((srtS es q.1.s).foldl (seaE role q.1 q.2) (Q,F)).2:=by
 rw[seaN,hq]
theorem seaN_end {es:List Ed} {role:Int} {f hd:Nat} {Q:List Vst} {F:List Fnd} (hq:Q[hd]?=none):seaN es role f hd Q F=F:=by
 cases f with
 | zero=>rfl
 | succ f=>rw[seaN,hq]
theorem fan_snoc {es:List Ed} {j:Nat} {x:Ed} (hx:es[j]?=some x) (s:Nat):(es.take (j+1)).filter (fun y=>decide (y.f=(s:Int)))=(es.take j).filter (fun y=>decide (y.f=(s:Int)))++(if x.f=(s:Int) then [x] else []):=by
 rw[take_snoc hx,List.filter_append];congr 1;by_cases h:x.f=(s:Int)
 .rw[if_pos h,List.filter_cons_of_pos (by rw[decide_eq_true h])];rfl
 .rw[if_neg h,List.filter_cons_of_neg (by rw[decide_eq_false h];decide)];rfl
theorem map_range_get {α:Type} {L:List α} {n:Nat} {f:Nat->α} (h:L=(List.range n).map f) {s:Nat} (hs:s<n):L[s]?=some (f s):=by
 rw[h,Yd,Yyb hs];rfl
theorem search206 (g:Gl) (i:Nat) (x0:Ed) (h:Heap) (hg:GI h g) (hx:Gm h) (hV:ValidS g) (hi:g.es[i]?=some x0) :
  Fn Pz 68 #[g.v,.int .i64 (i:Nat)] h fun v h'=>Ext h h'/\∃(s:Sl) (F:List FS),v=.tuple ⟨[.slice s.a s.n s.c,.int .i64 0]⟩/\F.map Prod.fst=seaS g i/\RL h' 3 s fnC F/\(∀q∈F,RL h' 3 q.2 Ac.cs q.1.path)/\FnI g (seaS g i)/\St h h' (.sl s 134 3 (F.map fnC)::F.map pathIt):=by
 apply vc68 (bs g.nm) g.hr g.hd g.n g.s g.e g.he g.ht (i:Nat);unfold W68;have hN:=hV.num.n;have hM:=hV.num.m;have h6:=hV.nam.n6;have hen:=hg.e.ln;have hil:=(Ya.1 hi).1;have hxE:=hV.num.e x0 (Yb hi);have hE:=hV.num.e;unfold EdS at hxE;have hxb:x0.b=((x0.b.toNat:Nat):Int):=by omega
 have hxt:x0.t=((x0.t.toNat:Nat):Int):=by omega
 refine (St.refl h).newb fun h9 hs=>?_;refine⟨_,_,_,_,_,_,_,_,hs.at 0 rfl (n:=8) rfl,?_⟩;refine (valid38 g h9 (hg.ext hs.ext) (hx.ext hs.ext)).mono ?_;rintro _ h20 ⟨rfl,E20⟩;replace hs:=hs.step E20;refine⟨_,rfl,?_⟩;rw[decide_eq_true hV];refine sB_f rfl ?_;refine sBi (fun c=>by omega) (fun _=>?_);refine⟨g.he,hs.rd 0 rfl (i:=6) rfl,sBi (fun c=>by omega) (fun _=>?_)⟩;refine⟨g.n,hs.rd 0 rfl (i:=3) rfl,by omega,?_⟩;rw[made24];refine hs.newb fun h23 hs=>?_;have hs:=hs.nests (α:=Ed) (e:=67) (k:=6) (cs:=Ed.cs) (A:=[_,_]) (B:=[]) g.n.toNat;refine⟨g.he,hs.rd 1 rfl (i:=6) rfl,?_⟩;refine⟨fun x h' μ=>∃(j:Nat) (MS:List (Sl × List Ed)),x=(j:Int)/\μ=g.es.length-j/\j<=g.es.length/\MS.map Prod.snd=((List.range g.n.toNat).map fun s:Nat=>(g.es.take j).filter (fun y=>decide (y.f=(s:Int)))) /\
  St h h' ([.blk h20.size ((MS.map Prod.fst).map slV) 24,.blk h.size g.cs 27]++MS.map (nest 67 6 Ed.cs)++[]),
  ⟨_,0,List.replicate g.n.toNat ((⟨.none,0,0⟩,[]):Sl × List Ed),rfl,rfl,by omega,?_,?_⟩,?_⟩
 .rw[Yyk,List.map_replicate];apply Yyr;intro s;rw[List.getElem?_replicate,Yd];by_cases hs:s<g.n.toNat
  .rw[if_pos hs,Yyb hs];rfl
  .rw[if_neg hs,Yl (by rw[Yyd];omega)];rfl
 .rw[List.map_replicate (f:=Prod.fst)];exact hs
 clear hs;rintro-_ h29 μ ⟨j,MS,rfl,rfl,hj,hMS,hs⟩;have hMSl:MS.length=g.n.toNat:=by have:=congrArg List.length hMS;simpa using this
 refine sBi (fun c1=>?_) (fun c1=>?_)
 .refine (hg.e.rw.ext hs.ext).nbI (by omega) (by omega) fun b30 o31 x gx t=>?_;replace gx:g.es[j]?=some x:=gx;have hxe:=hE x (Yb gx);unfold EdS at hxe;obtain⟨q,hq⟩:=get_some (l:=MS) (i:=x.f.toNat) (by omega);refine⟨_,_,_,_,_,_,t,?_⟩;refine hs.newput (vs:=x.cs) rfl rfl fun h39 hs=>?_;refine⟨x.f,hs.rd 0 rfl (i:=0) rfl,x.f,hs.rd 0 rfl (i:=0) rfl,⟨by omega,by omega⟩,?_⟩;rw[show 0+Int.toNat x.f*1=x.f.toNat by omega];refine⟨q.1,hs.rd 1 rfl (by rw[Yd,Yd,hq];rfl),?_⟩;refine⟨_,_,_,_,_,_,hs.at 0 rfl (o:=0) (n:=6) rfl,?_⟩;refine hs.newbE fun h49 E49 hs=>⟨E49.sm,?_⟩;have hs:St h h49 ((.blk h39.size x.cs 67 :: .blk h29.size x.cs 67::[.blk h20.size ((MS.map Prod.fst).map slV) 24,.blk h.size g.cs 27])++MS.map (nest 67 6 Ed.cs)++[]):=hs;have hqn:=(hs.nestLn hq (by omega)).ln;have hq2:q.2=(g.es.take j).filter (fun y=>decide (y.f=((x.f.toNat:Nat):Int))):=by
   have h1:=map_range_get hMS (s:=x.f.toNat) (by omega);rw[Yd,hq] at h1;exact Yyp h1
  have hql:q.2.length<=400:=by rw[hq2];refine Yys (List.length_filter_le _ _) ?_;rw[Yu];omega
  refine hs.nestAt hq app24 x (hs.at 0 rfl (o:=0) (n:=6) rfl) rfl rfl (by omega) (by simp only[maxLen];omega) fun r h51 hr hs3=>?_;refine⟨sm_cons (hs.same hs3 1 1 rfl rfl) sm_nil,⟨by omega,by omega⟩,?_⟩;refine hs3.put 2 rfl (o:=x.f.toNat) (vs:=[slV r]) rfl (by rw[Yc,Yc,Yv];omega) fun h52 hs=>?_;rw[map_splice slV (by rw[Yc];omega)] at hs;refine⟨_,by omega,j+1,MS.set x.f.toNat (r,q.2++[x]),by rw[w64 (by omega) (by omega)];omega,rfl,by omega,?_,?_⟩
  .apply Yyr;intro s;rw[Yd,Yd];by_cases hsn:s<g.n.toNat
   .rw[Yyb hsn];have h1:=map_range_get hMS hsn;rw[Yd] at h1;by_cases e:x.f.toNat=s
    .subst e;rw[Yq (by omega),Option.map_some,Option.map_some,fan_snoc gx,if_pos (by omega),hq2]
    .rw[Yy e,h1,Option.map_some,fan_snoc gx,if_neg (by omega),Yw]
   .rw[Yl (by rw[Yyh];omega),Yl (by rw[Yyd];omega)];rfl
  .rw[List.map_set];exact hs.drop 2
 have hjn:j=g.es.length:=by omega
 subst hjn;rw[Yye] at hMS;refine⟨fun x h' μ=>∃(j:Nat) (MS:List (Sl × List Ed)),x=(j:Int)/\μ=g.n.toNat-j/\j<=g.n.toNat/\MS.map Prod.snd=((List.range g.n.toNat).map fun s:Nat=>if s<j then srtS g.es s else g.es.filter (fun y=>decide (y.f=(s:Int)))) /\
  St h h' ([.blk h20.size ((MS.map Prod.fst).map slV) 24,.blk h.size g.cs 27]++MS.map (nest 67 6 Ed.cs)++[]),
  ⟨_,0,MS,rfl,rfl,by omega,by rw[hMS];rfl,hs⟩,?_⟩
 clear hs hMS hMSl hj c1;rintro-_ h58 μ ⟨j,MS,rfl,rfl,hj,hMS,hs⟩;have hMSl:MS.length=g.n.toNat:=by have:=congrArg List.length hMS;simpa using this
 refine sBi (fun c1=>?_) (fun c1=>?_)
 .obtain⟨q,hq⟩:=get_some (l:=MS) (i:=j) (by omega);refine⟨⟨by omega,by omega⟩,?_⟩;rw[show 0+Int.toNat ((j:Nat):Int)*1=j by omega];refine⟨q.1,hs.rd 0 rfl (by rw[Yd,Yd,hq];rfl),?_⟩;have hil':j<(MS.map (nest 67 6 Ed.cs)).length:=by rw[Yc];omega
  have hq2:q.2=g.es.filter (fun y=>decide (y.f=((j:Nat):Int))):=by
   have h1:=map_range_get hMS (s:=j) (by omega);rw[Yd,hq,if_neg (by omega)] at h1;exact Yyp h1
  have hql:q.2.length<=400:=by rw[hq2];exact Yys (List.length_filter_le _ _) hM
  have hget:=get_mid (P:=[.blk h20.size ((MS.map Prod.fst).map slV) 24,.blk h.size g.cs 27]) (R:=[]) hil';rw[Yd,hq] at hget;refine (sort243 hs _ hget (by omega)).mono ?_;rintro _ h61 ⟨rfl,l',hp,hw,hs⟩;have hl':l'=srtS g.es j:=by unfold srtS;rw[<-hq2];exact srt_of hp hw (by rw[hq2];exact acts_apart hV _)
  rw[set_mid hil'] at hs;refine⟨rfl,_,by omega,j+1,MS.set j (q.1,l'),by rw[w64 (by omega) (by omega)];omega,rfl,by omega,?_,?_⟩
  .apply Yyr;intro s;rw[Yd,Yd];by_cases hsn:s<g.n.toNat
   .rw[Yyb hsn];have h1:=map_range_get hMS hsn;rw[Yd] at h1;by_cases e:j=s
    .subst e;rw[Yq (by omega),Option.map_some,Option.map_some,if_pos (by omega),hl']
    .rw[Yy e,h1,Option.map_some];by_cases e2:s<j
     .rw[if_pos e2,if_pos (by omega)]
     .rw[if_neg e2,if_neg (by omega)]
   .rw[Yl (by rw[Yyh];omega),Yl (by rw[Yyd];omega)];rfl
  .have e1:(MS.map Prod.fst).set j (q.1,l').1=MS.map Prod.fst:=by
    have h9:(MS.map Prod.fst)[j]?=some q.1:=by rw[Yd,hq];rfl
    obtain⟨a,b⟩:=Ya.1 h9;show (MS.map Prod.fst).set j q.1=_;rw[<-b];exact List.set_getElem_self a
   rw[List.map_set (f:=Prod.fst),e1,List.map_set (f:=nest 67 6 Ed.cs)];exact hs
 have hMS2:MS.map Prod.snd=(List.range g.n.toNat).map (srtS g.es):=by
  rw[hMS];apply List.map_congr_left;intro s hs;rw[List.mem_range] at hs;rw[if_pos (by omega)]
 clear hMS c1 hj;rw[Yw] at hs;refine⟨g.he,hs.rd 1 rfl (i:=6) rfl,?_⟩;refine (hg.e.rw.ext hs.ext).nbI (by omega) (by omega) fun b64 o65 x gx t=>?_;replace gx:g.es[i]?=some x:=gx;rw[hi] at gx;cases gx;refine⟨x0.b,t.nth 2 rfl,g.he,hs.rd 1 rfl (i:=6) rfl,?_⟩;refine (hg.e.rw.ext hs.ext).nbI (by omega) (by omega) fun b68 o69 x gx t2=>?_;replace gx:g.es[i]?=some x:=gx;rw[hi] at gx;cases gx;refine⟨x0.t,t2.nth 4 rfl,by omega,?_⟩;have e8:=shl8 ⟨x0.b.toNat,by omega⟩;simp only[<-hxb] at e8;rw[e8];have hok0:(⟨x0.t.toNat,2^x0.b.toNat,0⟩:Plc).ok g.n.toNat:=⟨by simp only;omega,two6 (by omega),(show 0<64 by decide)⟩;have hkk:kokL (⟨x0.t.toNat,2^x0.b.toNat,0⟩:Plc):=⟨by simp only;omega,two8 (by omega),(show 0<256 by decide)⟩;have hcs0:(⟨x0.t.toNat,2^x0.b.toNat,0⟩:Plc).cs=[.int .i64 x0.t,.int .u8 ((2^x0.b.toNat:Nat):Int),.int .u8 0]:=by unfold Plc.cs;simp only;rw[<-hxt];rfl
 refine hs.newbE fun h71 E71 hs=>⟨E71.sm,?_⟩;refine hs.put 0 rfl (o:=0) (vs:=[.int .i64 x0.t,.int .u8 ((2^x0.b.toNat:Nat):Int),.int .u8 0]) rfl (Yyt 3) fun h72 hs=>?_;refine hs.mmake 246 fun h75 E75 hs=>⟨some h72.size,rfl,?_⟩;refine⟨((x0.t.toNat:Nat):Int),((2^x0.b.toNat:Nat):Int),((0:Nat):Int),by rw[<-hxt];exact hs.at 1 rfl (o:=0) (n:=3) rfl,?_⟩;refine hs.mput (cv:=Value.bool) (l:=[]) M352 0 rfl (fun q hq=>by cases hq) .nil (a:=⟨x0.t.toNat,2^x0.b.toNat,0⟩) hkk true fun h79 hs=>?_;refine⟨((x0.t.toNat:Nat):Int),((2^x0.b.toNat:Nat):Int),((0:Nat):Int),by rw[<-hxt];exact hs.at 1 rfl (o:=0) (n:=3) rfl,?_⟩;refine hs.newb fun h83 hs=>?_;generalize hp0:(⟨x0.t.toNat,2^x0.b.toNat,0⟩:Plc)=p0 at *;have hs:=hs.blkS 1 7 ([(p0,((-1:Int),(⟨0,0,0⟩:Ac)))].map vC) (by subst hp0;rfl) (fun r hr=>by obtain⟨x,_,rfl⟩:=Yp.1 hr;rfl) rfl (by decide);have hs:=hs.nil_ 134 3;have hs:St h h83 (seaL h.size h20.size h72.size g ⟨some ⟨h79.size,0,none⟩,1,1⟩ ⟨none,0,0⟩ [(p0,((-1:Int),(⟨0,0,0⟩:Ac)))] [(p0,true)] [] MS):=by
  refine (hs.sub (.cons_cons _ (.cons_cons _ (.cons_cons _ (.cons _ (List.Sublist.refl _)))))).perm ?_;unfold seaL;rw[List.map_nil (f:=pathIt),Yw];exact List.Perm.swap _ _ _
 have hQ0:QuI g.n.toNat [(p0,[])] [(p0,((-1:Int),(⟨0,0,0⟩:Ac)))] [(p0,true)]:=by
  refine⟨rfl,fun k v q hv hq=>?_,by simp,fun q hq=>?_,fun k q hq=>?_,fun p=>by simp,fun q hq=>?_,by simp⟩
  .have:=(Ya.1 hv).1;rw[Yv] at this;obtain rfl:k=0:=by omega
   cases hv;cases hq;exact⟨rfl,.inl ⟨rfl,rfl⟩⟩
  .rw[Ye] at hq;rw[hq];exact hok0
  .have:=(Ya.1 hq).1;rw[Yv] at this;obtain rfl:k=0:=by omega
   cases hq;exact Nat.zero_le _
  .rw[Ye] at hq;rw[hq]
 have hF0:FnI g (([]:List FS).map Prod.fst):=⟨.nil,fun f hf=>(by cases hf),fun f hf=>(by cases hf)⟩;have hS0:seaS g i=seaN g.es x0.b (g.n.toNat*65536+1-0) 0 [(p0,[])] (([]:List FS).map Prod.fst):=by unfold seaS;rw[hi];simp only;rw[hp0];rfl
 refine⟨fun qu al x h' μ=>∃(hd:Nat) (Q:List Vst) (V:List Vzt) (K:List (Plc × Bool)) (F:List FS),x=(hd:Int)/\μ=g.n.toNat*4096-hd/\hd<=Q.length/\St h h' (seaL h.size h20.size h72.size g qu al V K F MS)/\QuI g.n.toNat Q V K/\FnI g (F.map Prod.fst)/\seaS g i=seaN g.es x0.b (g.n.toNat*65536+1-hd) hd Q (F.map Prod.fst),⟨_,0,_,_,_,[],rfl,rfl,Nat.zero_le _,hs,hQ0,hF0,hS0⟩,?_⟩;clear hs hQ0 hF0 hS0;rintro-qu al _ h90 μ ⟨hd,Q,V,K,F,rfl,rfl,hhd,hs,hQ,hF,hS⟩;have hle:=hQ.le;have hvn:=hQ.vn;have hn4:g.n.toNat*4096<=200*4096:=Nat.mul_le_mul_right _ (by omega);have hqun:=hs.len 0 (s:=qu) (e:=248) (n:=7) (rows:=V.map vC) rfl (by omega);rw[Yc] at hqun;refine sBi (fun c=>?_) (fun c=>?_)
 .obtain⟨q,hq⟩:=get_some (l:=Q) (i:=hd) (by omega);obtain⟨v,hv⟩:=get_some (l:=V) (i:=hd) (by omega);have hvq:=(hQ.vq hd v q hv hq).1;obtain⟨ho1,ho2,ho3⟩:=hQ.ok q (Yb hq);refine (hs.rows 0 rfl (by omega)).nbI (by omega) (by omega) fun b91 o92 v' gv t=>?_;replace gv:V[hd]?=some v':=gv;rw[hv] at gv;cases gv;refine⟨(v.1.s:Nat),(v.1.b:Nat),(v.1.d:Nat),t.sub0 3 rfl,?_⟩;rw[hvq];refine hs.newput (vs:=q.1.cs) rfl rfl fun h97 hs=>?_;refine⟨(q.1.s:Nat),hs.rd 0 rfl (i:=0) rfl,⟨by omega,by omega⟩,?_⟩;rw[show 0+Int.toNat ((q.1.s:Nat):Int)*1=q.1.s by omega];obtain⟨ms,hms⟩:=get_some (l:=MS) (i:=q.1.s) (by omega);have hms2:ms.2=srtS g.es q.1.s:=by
   have h1:=map_range_get hMS2 (s:=q.1.s) ho1;rw[Yd,hms] at h1;exact Yyp h1
  have hmsl:ms.2.length<=400:=by rw[hms2];unfold srtS;rw[srtL_len];exact Yys (List.length_filter_le _ _) hM
  have hqd0:=(Ya.1 hq).1;have hqpl:=hQ.pl hd q hq;refine⟨ms.1,hs.rd 4 rfl (by rw[Yd,Yd,hms];rfl),?_⟩;have hmem:∀ {qu al V K F},.sl ms.1 67 6 (ms.2.map Ed.cs)∈(.blk h90.size q.1.cs 245::seaL h.size h20.size h72.size g qu al V K F MS:List It):=fun {qu al V K F}=>by
   refine Yn _ ?_;unfold seaL;simp only[Yr,Yk]
   right;right;right;right;right;left
   exact Yp.2 ⟨ms,Yb hms,rfl⟩
  have hrow0:=hs.rwm (hmem) (by omega);have hrn:ms.1.n=ms.2.length:=by have:=hrow0.1;rwa [Yc] at this
  refine⟨fun qu al x h' μ=>∃(j:Nat) (Q':List Vst) (V:List Vzt) (K:List (Plc × Bool)) (F':List FS),x=(j:Int)/\μ=ms.1.n-j/\j<=ms.1.n/\St h h' (.blk h90.size q.1.cs 245::seaL h.size h20.size h72.size g qu al V K F' MS)/\QuI g.n.toNat Q' V K/\FnI g (F'.map Prod.fst)/\Q'[hd]?=some q/\(Q',F'.map Prod.fst)=((srtS g.es q.1.s).take j).foldl (seaE x0.b q.1 q.2) (Q,F.map Prod.fst),⟨_,0,Q,V,K,F,rfl,rfl,Nat.zero_le _,hs,hQ,hF,hq,rfl⟩,?_⟩;have hQ0:=hQ;clear hs hQ hF hqun hvn hle hv hrow0;rintro-qu al _ h106 μ ⟨j,Q',V,K,F',rfl,rfl,hj,hs,hQ,hF,hq',hfold⟩;have hrow:Rw h106 6 ms.1 (ms.2.map Ed.cs):=hs.rwm hmem (by omega);refine sBi (fun c2=>?_) (fun c2=>?_)
  .refine hrow.nbI (by omega) (by omega) fun b107 o108 x gx t3=>?_;replace gx:ms.2[j]?=some x:=gx;rw[hms2] at gx;have hxm:x∈g.es:=by
    have h1:=(srtL_mem _ _).1 (Yb gx);exact (List.mem_filter.1 h1).1
   refine⟨x.f,x.a,x.b,x.l,x.t,x.ag,t3,?_⟩;refine hs.newput (vs:=x.cs) rfl rfl fun h116 hs=>?_;refine⟨x.t,hs.rd 0 rfl (i:=4) rfl,(q.1.b:Nat),hs.rd 1 rfl (i:=1) rfl,(q.1.d:Nat),hs.rd 1 rfl (i:=2) rfl,?_⟩;refine hs.newput (vs:=[.int .i64 x.t,.int .u8 (q.1.b:Nat),.int .u8 (q.1.d:Nat)]) rfl rfl fun h121 hs=>?_;refine edge206 hV hxb hs hQ hq' hF hxm fun qu' al' Q2 V2 K2 F2 h' hs2 hQ2 he hk=>?_;refine⟨_,?_,j+1,Q2,V2,K2,F2,by rw[w64 (by omega) (by omega)];omega,rfl,by omega,hs2,hQ2,?_,hk hd q hq',?_⟩
   .omega
   .have hle0:=hQ0.le;have:=seaE_fni (role:=x0.b) (p:=q.1) (path:=q.2) (st:=(Q',F'.map Prod.fst)) hF hxm (by omega);rw[<-he] at this;exact this
   .rw[take_snoc gx,List.foldl_append,<-hfold,he];rfl
  .rw[Yj (by rw[<-hms2];omega)] at hfold;have hle:=hQ0.le;have hqd:=(Ya.1 hq').1;refine⟨_,?_,hd+1,Q',V,K,F',by rw[w64 (by omega) (by omega)];omega,rfl,by omega,hs.drop 1,hQ,hF,?_⟩
   .omega
   .rw[hS,show g.n.toNat*65536+1-hd=(g.n.toNat*65536+1-(hd+1))+1 by omega,seaN_step hq,<-hfold]
 .have hend:seaS g i=F.map Prod.fst:=by rw[hS,seaN_end (Yl (by omega))]
  have hfl:=hF.len;rw[Yc] at hfl;refine⟨hs.ext,al,F,rfl,hend.symm,RL.ofSt hs 1 rfl (by omega) (by omega),fun f hf=>?_,by rw[hend];exact hF,hs.sub (.cons _ (.cons_cons _ (.cons _ (.cons _ (.cons _ (List.sublist_append_right _ _))))))⟩;have hm:pathIt f∈seaL h.size h20.size h72.size g qu al V K F MS:=by
   unfold seaL;simp only[Yr,Yk]
   right;right;right;right;right;right
   exact Yp.2 ⟨f,hf,rfl⟩
  obtain⟨k,hk⟩:=Yf.1 hm;exact RL.ofSt hs k hk (by omega) (by have:=hF.pl f.1 (Yp.2 ⟨f,hf,rfl⟩);omega)
def insMs (x:Ms):List Ms->List Ms
 | []=>[x]
 | y::r=>if msLt y x then y::insMs x r else x::y::r
def srtMs (l:List Ms):List Ms:=l.foldr insMs []
theorem msLt_tr {x y z:Ms} (h1:msLt x y) (h2:msLt y z):msLt x z:=by unfold msLt at *;omega
theorem msLt_irr (x:Ms):¬msLt x x:=by unfold msLt;omega
theorem msLt_tri {x y:Ms} (h:x≠y) (h1:¬msLt y x):msLt x y:=by
 obtain⟨a,b⟩:=x;obtain⟨a',b'⟩:=y;unfold msLt at *;simp only[ne_eq,Ms.mk.injEq] at h;simp only at *;omega
theorem insMs_mem (x z:Ms):∀l:List Ms,z∈insMs x l ↔ z=x\/z∈l
 | []=>by simp[insMs]
 | y::r=>by
  unfold insMs;split
  .rw[Yr,insMs_mem x z r,Yr];constructor
   .rintro (h | h | h)
    .exact .inr (.inl h)
    .exact .inl h
    .exact .inr (.inr h)
   .rintro (h | h | h)
    .exact .inr (.inl h)
    .exact .inl h
    .exact .inr (.inr h)
  .simp
theorem insMs_sorted {x:Ms}:∀ {l:List Ms},l.Pairwise msLt->(∀y∈l,y≠x)->(insMs x l).Pairwise msLt
 | [],_,_=>by simp[insMs]
 | y::r,hl,hx=>by
  obtain⟨h1,h2⟩:=List.pairwise_cons.1 hl;unfold insMs;by_cases h:msLt y x
  .rw[if_pos h,List.pairwise_cons];refine⟨fun z hz=>?_,insMs_sorted h2 fun z hz=>hx z (Yn _ hz)⟩;rcases (insMs_mem x z r).1 hz with rfl | hz
   .exact h
   .exact h1 z hz
  .rw[if_neg h,List.pairwise_cons];have h3:msLt x y:=msLt_tri (fun e=>hx y (by simp) e.symm) h;refine⟨fun z hz=>?_,hl⟩;rcases Yr.1 hz with rfl | hz
   .exact h3
   .exact msLt_tr h3 (h1 z hz)
theorem srtMs_mem (l:List Ms) (z:Ms):z∈srtMs l ↔ z∈l:=by
 induction l with
 | nil=>simp[srtMs]
 | cons a l ih=>
  show z∈insMs a (srtMs l) ↔ _;rw[insMs_mem,ih,Yr]
theorem srtMs_sorted:∀ {l:List Ms},l.Nodup->(srtMs l).Pairwise msLt
 | [],_=>.nil
 | a::l,h=>by
  obtain⟨h1,h2⟩:=List.nodup_cons.1 h;exact insMs_sorted (srtMs_sorted h2) fun y hy e=>h1 (by rw[<-e];exact (srtMs_mem l y).1 hy)
theorem srtMs_of {l l':List Ms} (hp:l'.Perm l) (hw:l'.Pairwise fun a b=>¬msLt b a) (hd:l.Nodup):l'=srtMs l:=by
 refine sorted_uniq (R:=msLt) msLt_irr (fun a b c=>msLt_tr) _ _ ?_ (srtMs_sorted hd) fun x=>by rw[srtMs_mem];exact hp.mem_iff
 exact (hw.and (hp.nodup_iff.2 hd)).imp fun ⟨h1,h2⟩=>msLt_tri h2 h1
def earS (g:Gl) (i:Nat):List Ms:=srtMs ((seaS g i).map (·.m))
def pthS (g:Gl) (i:Nat) (m:Ms):List Ac:=((seaS g i).find? fun f=>decide (f.m=m)).elim [] (·.path)
theorem early162 (g:Gl) (i:Nat) (x0:Ed) (h:Heap) (hg:GI h g) (hx:Gm h) (hV:ValidS g) (hi:g.es[i]?=some x0) :
  Fn Pz 31 #[g.v,.int .i64 (i:Nat)] h fun v h'=>Ext h h'/\∃s:Sl,v=.tuple ⟨[.slice s.a s.n s.c,.int .i64 0]⟩/\St h h' [.sl s 72 2 ((earS g i).map Ms.cs)]/\(earS g i).length<=400:=by
 apply vc31 (bs g.nm) g.hr g.hd g.n g.s g.e g.he g.ht (i:Nat);unfold W31;have hM:=hV.num.m;refine (St.refl h).newb fun h9 hs=>?_;refine⟨_,_,_,_,_,_,_,_,hs.at 0 rfl (n:=8) rfl,?_⟩;refine (search206 g i x0 h9 (hg.ext hs.ext) (hx.ext hs.ext) hV hi).mono ?_;rintro _ h21 ⟨E,s,F,rfl,hF,hr,_,hI,_⟩;have E21:=(hs.step E).ext;have hFl:=hI.len;have hFl2:F.length=(seaS g i).length:=by rw[<-hF,Yc]
 have hsn:=hr.ln;refine⟨s,0,rfl,?_⟩;have hs:=(St.refl h21).nil_ 72 2;refine⟨fun out x h' μ=>∃j:Nat,x=j/\μ=s.n-j/\j<=s.n/\St h21 h' [.sl out 72 2 (((F.take j).map (·.1.m)).map Ms.cs)],⟨_,0,rfl,rfl,Nat.zero_le _,hs⟩,?_⟩;clear hs;rintro-out _ h27 μ ⟨j,rfl,rfl,hj,hs⟩;have hon:=hs.len 0 (s:=out) (e:=72) (n:=2) rfl (by omega);rw[Yc,Yc,Yu] at hon;refine sBi (fun c=>?_) (fun c=>?_)
 .refine (hr.ext hs.ext).rw.nbI (by omega) (by omega) fun b28 o29 f gf t=>?_;replace gf:F[j]?=some f:=gf;refine⟨f.1.m.p,f.1.m.l,f.2,t,?_⟩;refine hs.newput (vs:=fnC f) rfl rfl fun h34 hs=>?_;refine⟨f.1.m.p,f.1.m.l,hs.at 0 rfl (o:=0) (n:=2) rfl,?_⟩;refine hs.app 1 rfl app261 (m:=1) [f.1.m.cs] rfl rfl (fun r hr=>by rw[Ye] at hr;rw[hr];rfl) rfl (by omega) (by simp only[maxLen];omega) fun s38 h39 n38 hs=>?_;refine⟨_,by omega,j+1,by rw[w64 (by omega) (by omega)];omega,rfl,by omega,?_⟩;rw[take_snoc gf,Ym,Ym];exact hs.drop 1
 .rw[Yj (by omega)] at hs;have hms:F.map (·.1.m)=(seaS g i).map (·.m):=by rw[<-hF,List.map_map];rfl
  rw[hms] at hs;have hlm:((seaS g i).map (·.m)).length<=400:=by rw[Yc];omega
  refine (sort207 hs 0 rfl (by omega)).mono ?_;rintro _ h42 ⟨rfl,l',hp,hw,hs⟩;have hl':l'=earS g i:=srtMs_of hp hw hI.nd;refine⟨rfl,E21.trans hs.ext,out,rfl,?_⟩;rw[<-hl'];exact⟨((St.refl h).step E21).join hs,by rw[hp.length_eq];exact hlm⟩
theorem path163 (g:Gl) (i:Nat) (x0:Ed) (m:Ms) (h:Heap) (hg:GI h g) (hx:Gm h) (hV:ValidS g) (hi:g.es[i]?=some x0) (hm:m∈earS g i) :
  Fn Pz 32 #[g.v,.int .i64 (i:Nat),.agg ⟨m.cs⟩] h fun v h'=>Ext h h'/\∃s:Sl,v=.tuple ⟨[.slice s.a s.n s.c,.int .i64 0]⟩/\St h h' [.sl s 65 3 ((pthS g i m).map Ac.cs)]/\(pthS g i m).length<=1000000:=by
 apply vc32 (bs g.nm) g.hr g.hd g.n g.s g.e g.he g.ht (i:Nat) m.p m.l;unfold W32;have hM:=hV.num.m;refine (St.refl h).newb fun h11 hs=>?_;refine hs.newb fun h12 hs=>?_;refine⟨_,_,_,_,_,_,_,_,hs.at 1 rfl (n:=8) rfl,?_⟩;refine (search206 g i x0 h12 (hg.ext hs.ext) (hx.ext hs.ext) hV hi).mono ?_;rintro _ h24 ⟨E,s,F,rfl,hF,hr,hp,hI,hso⟩;have hs0:=hs;replace hs:=hs.step E;have hFl:=hI.len;have hFl2:F.length=(seaS g i).length:=by rw[<-hF,Yc]
 have hsn:=hr.ln;refine⟨s,0,rfl,sBn (fun c=>absurd rfl c) (fun _=>?_)⟩;refine (index209 72 cal210 F m h11.size s h24 hr.rw (hs.at 0 rfl (o:=0) (n:=2) rfl) (by omega) fun q h hc=>same210 q m h11.size h hc).mono ?_;rintro _ h27 ⟨rfl,E2⟩;refine⟨_,rfl,?_⟩;have hin:∃f∈F,f.1.m=m:=by
  have h1:=(srtMs_mem _ _).1 hm;rw[<-hF] at h1;obtain⟨f,h2,h3⟩:=Yp.1 h1;obtain⟨q,h4,rfl⟩:=Yp.1 h2;exact⟨q,h4,h3⟩
 unfold ixI;cases hf:F.findIdx? fun q=>decide (q.1.m=m) with
 | none=>
  rw[List.findIdx?_eq_none_iff] at hf;obtain⟨f,h1,h2⟩:=hin;have:=hf f h1;rw[decide_eq_true h2] at this;cases this
 | some k=>
  obtain⟨h1,h2,_⟩:=List.findIdx?_eq_some_iff_getElem.1 hf;simp only;refine sBi (fun c=>by omega) (fun _=>?_);refine (hr.ext E2).rw.nbI (by omega) (by omega) fun b28 o29 f gf t=>?_;replace gf:F[k]?=some f:=gf;have hfm:f.1.m=m:=by
   rw[Yi h1] at gf;rw[<-Yyp gf];exact Yyn h2
  have hfF:=Yb gf;have hpe:pthS g i m=f.1.path:=by
   have hmem:f.1∈seaS g i:=by rw[<-hF];exact Yp.2 ⟨f,hfF,rfl⟩
   unfold pthS;cases hq:(seaS g i).find? fun f=>decide (f.m=m) with
   | none=>have:=List.find?_eq_none.1 hq f.1 hmem;rw[decide_eq_true hfm] at this;exact absurd rfl this
   | some f'=>
    have h3:=List.mem_of_find?_eq_some hq;have h4:f'.m=m:=by have:=List.find?_some hq;exact Yyn this
    show f'.path=f.1.path;obtain⟨a,ha⟩:=Yf.1 h3;obtain⟨b,hb⟩:=Yf.1 hmem;have h5:((seaS g i).map (·.m))[a]?=some m:=by rw[Yd,ha,<-h4];rfl
    have h6:((seaS g i).map (·.m))[b]?=some m:=by rw[Yd,hb,<-hfm];rfl
    have h7:=nodup_ix hI.nd h5 h6;subst h7;rw[ha] at hb;cases hb;rfl
  refine⟨f.2,t.nth 2 rfl,(hs.ext.trans E2),f.2,rfl,?_⟩;rw[hpe];refine⟨(hs0.sub (List.nil_sublist _)).join ((hso.step E2).sub (List.singleton_sublist.2 (Yn _ (Yp.2 ⟨f,hfF,rfl⟩)))),hI.pl f.1 (by rw[<-hF];exact Yp.2 ⟨f,hfF,rfl⟩)⟩
end Go.VC
end
