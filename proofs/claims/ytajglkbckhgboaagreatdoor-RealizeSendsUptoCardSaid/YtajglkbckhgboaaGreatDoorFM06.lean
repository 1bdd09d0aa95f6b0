/- SxMb SxMc SxMd SxMe SxNa SxNb SxNc SxNd SxNe SxRa SxRb SxRc SxRd SxRe0 SxRe SxRf SxRg SxHa SxIa SxHb SxHc SxHd SxIb SxIc SxId SxIe SxUa SxUb SxUc SxUd SxUe SxUf SxUg SxUh SxUi SxKm SxLa SxLb SxLc SxLd SxLe0 SxLs SxLe SxLf SxLg. -/
import Derived.Test.YtajglkbckhgboaaGreatDoorFM05
import Derived.Lib.AppendZerosOnto
set_option linter.all false
set_option maxRecDepth 100000
set_option maxHeartbeats 8000000

section
namespace Go.VC
open Go.Proofs Go.LexS
def FewS (g:Gl):Prop:=g.es.length<=50/\g.rs.length<=6/\g.ds.length<=40/\g.ts.length<=50
instance (g:Gl):Decidable (FewS g):=by unfold FewS;infer_instance
theorem few35 (g:Gl) (h:Heap) (hg:GI h g):Fn Pz 39 #[g.v] h fun v h'=>v=.bool (decide (FewS g))/\Ext h h':=by
 apply vc39 (bs g.nm) g.hr g.hd g.n g.s g.e g.he g.ht;unfold W39;have hs:=St.refl h;have h1:=hg.e.ln;have h2:=hg.r.ln;have h3:=hg.d.r.ln;have h4:=hg.t.ln;refine hs.newb fun h9 hs=>?_;refine⟨_,hs.rd 0 rfl rfl,?_⟩;refine sBi (fun c1=>?_) (fun c1=>⟨dF fun hc=>by unfold FewS at hc;omega,hs.ext⟩);refine⟨_,hs.rd 0 rfl rfl,?_⟩;refine sBi (fun c2=>?_) (fun c2=>⟨dF fun hc=>by unfold FewS at hc;omega,hs.ext⟩);refine⟨_,hs.rd 0 rfl rfl,?_⟩;refine sBi (fun c3=>?_) (fun c3=>⟨dF fun hc=>by unfold FewS at hc;omega,hs.ext⟩);refine⟨_,hs.rd 0 rfl rfl,?_,hs.ext⟩;congr 1;rw[decide_eq_decide];unfold FewS;omega
theorem few11 (g:Gl) (h:Heap) (hg:GI h g):Fn Pz 13 #[g.v] h fun v h'=>v=.bool (decide (FewS g/\g.n<=25))/\Ext h h':=by
 apply vc13 (bs g.nm) g.hr g.hd g.n g.s g.e g.he g.ht;unfold W13;have hs:=St.refl h;refine hs.newb fun h9 hs=>?_;refine⟨_,_,_,_,_,_,_,_,hs.at 0 rfl (n:=8) rfl,?_⟩;refine (few35 g h9 (hg.ext hs.ext)).mono ?_;rintro _ h20 ⟨rfl,E20⟩;replace hs:=hs.step E20;refine⟨_,rfl,?_⟩;refine sBi (fun c1=>?_) (fun c1=>⟨dF fun hc=>c1 hc.1,hs.ext⟩);refine⟨_,hs.rd 0 rfl rfl,?_,hs.ext⟩;congr 1;rw[decide_eq_decide];exact⟨fun h=>⟨c1,h⟩,fun h=>h.2⟩

def base (m:Mch) (i k:Nat):Bool:=decide (m.fin.getD i false=m.fin.getD k false)&&sameLim m i k

end Go.VC
end

section
namespace Go.VC
open Go.LexS




end Go.VC
end

section
namespace Go.VC
open Go.Proofs Go.LexS

theorem letter199 (b:UInt8) (h:Heap):Fn Pz 227 #[.int .u8 b.toNat] h fun v h'=>v=.bool (lt b)/\h'=h:=by
 apply vc227;unfold W227;unfold lt isLetter;generalize (b.toNat:Int)=n
 repeat' first
  | refine sBi (fun _=>?_) (fun _=>?_)
 all_goals
  refine⟨?_,rfl⟩;congr 1;rw[Bool.eq_iff_iff];simp only[Bool.or_eq_true,Yt,decide_eq_true_eq,Bool.false_eq_true,true_iff,false_iff];omega
theorem digit240 (b:UInt8) (h:Heap):Fn Pz 275 #[.int .u8 b.toNat] h fun v h'=>v=.bool (dg b)/\h'=h:=by
 apply vc275;unfold W275;unfold dg isDigit;refine sBi (fun c=>⟨?_,rfl⟩) (fun c=>⟨?_,rfl⟩)
 .rw[decide_eq_true (p:=(48:Int)<=b.toNat) c,Bool.true_and]
 .rw[decide_eq_false (p:=(48:Int)<=b.toNat) c,Bool.false_and]
theorem inner200 (b:UInt8) (h:Heap):Fn Pz 228 #[.int .u8 b.toNat] h fun v h'=>v=.bool (inn b)/\h'=h:=by
 apply vc228;unfold W228;refine (letter199 b h).mono ?_;rintro _ h3 ⟨rfl,rfl⟩;refine⟨_,rfl,sB_intro (fun c=>?_) (fun c=>?_)⟩
 .exact⟨by rw[show inn b=(lt b||dg b||((b.toNat:Int)==95)) from rfl,c];rfl,rfl⟩
 .refine (digit240 b _).mono ?_;rintro _ h6 ⟨rfl,rfl⟩;refine⟨_,rfl,sB_intro (fun d=>?_) (fun d=>?_)⟩
  .exact⟨by rw[show inn b=(lt b||dg b||((b.toNat:Int)==95)) from rfl,c,d];rfl,rfl⟩
  .exact⟨by rw[show inn b=(lt b||dg b||((b.toNat:Int)==95)) from rfl,c,d];rfl,rfl⟩
theorem isName152 (s:ByteArray) (h:Heap):Fn Pz 176 #[.string s] h fun v h'=>v=.bool (isName s.data.toList)/\h'=h:=by
 apply vc176;unfold W176;have hsz:=size_len s;rw[strEq];generalize hL:s.data.toList=L at *;refine sB_intro (fun he=>?_) (fun he=>?_)
 .have:L=[]:=Yyn he;subst this;exact⟨rfl,rfl⟩
 .have hne:L≠[]:=Yyo he;have hpos:0<L.length:=List.length_pos_iff.2 hne;obtain⟨b,hb,hby⟩:=byte_get (s:=s) (i:=0) (by omega);rw[hL] at hb;have hcons:L=b::L.drop 1:=by have:=drop_cons hb;rwa [List.drop_zero] at this
  have hdef:isName L=(decide (L.length<=16)&&lt b&&L.all inn):=by
   conv=>lhs;rw[hcons]
   rw[isName,<-hcons]
  rw[hdef];refine⟨⟨by omega,by omega⟩,?_⟩;rw[show Int.toNat 0=0 from rfl,hby];refine (letter199 _ _).mono ?_;rintro v h3 ⟨rfl,rfl⟩;refine⟨_,rfl,sB_intro (fun hlet=>?_) (fun hlet=>?_)⟩
  .refine⟨?_,rfl⟩;rw[show lt b=false from by rw[Bool.not_eq_true'] at hlet;exact hlet,Bool.and_false];rfl
  rw[show lt b=true from by rw[Bool.not_eq_false'] at hlet;exact hlet];refine sB_intro (fun hgt=>?_) (fun hgt=>?_)
  .refine⟨?_,rfl⟩;rw[decide_eq_false (by have:=Yyn hgt;omega)];rfl
  .have h16:L.length<=16:=by have:=Yyo hgt;omega
   rw[decide_eq_true h16];refine up_loop (n:=s.size) (fun i h'=>h'=h3/\∀(j:Nat) (b:UInt8),j<i->L[j]?=some b->(!inn b)=false) ⟨rfl,fun j b hj=>by omega⟩ ?_;rintro-i h8 hi ⟨rfl,hd⟩;refine sB_intro (fun hlt=>?_) (fun hge=>?_)
   .have hlt':=lt_t hlt;obtain⟨y,hy,hby2⟩:=byte_get hlt';rw[hL] at hy;refine⟨⟨by omega,by omega⟩,?_⟩;rw[show Int.toNat (i:Int)=i from rfl,hby2];refine (inner200 _ _).mono ?_;rintro v h11 ⟨rfl,rfl⟩;refine⟨_,rfl,sB_intro (fun hp=>?_) (fun hp=>?_)⟩
    .refine⟨?_,rfl⟩;have:L.all inn=false:=by
      rw[<-Bool.not_eq_true,all_split];intro hh;have:=hh y i hy;rw[Bool.not_eq_true'] at hp;rw[show inn y=false from hp] at this;cases this
     rw[this];rfl
    .exact Up.next hlt' (by omega) ⟨rfl,scan_next (p:=fun b=>!inn b) hy hp hd⟩
   .have hge':=lt_f hge;refine⟨?_,rfl⟩;rw[(all_split inn L).2 fun b j hb=>by simpa using hd j b (by have:=(Ya.1 hb).1;omega) hb];rfl
theorem in153 (l:List Nm) (s:Sl) (x:ByteArray) (h:Heap) (hr:Rw h 1 s (l.map nmC)) (hm:l.length<=1048576):Fn Pz 177 #[.slice s.a s.n s.c,.string x] h fun v h'=>v=.bool (decide (x.data.toList∈l))/\h'=h:=by
 apply vc177;unfold W177;have hn:=hr.ln;refine up_loop (n:=s.n) (fun i h'=>h'=h/\x.data.toList∉l.take i) ⟨rfl,fun e=>by simp at e⟩ ?_;rintro-i h8 hi ⟨rfl,hd⟩;refine sB_intro (fun c=>?_) (fun c=>?_)
 .replace c:=lt_t c;refine hr.nbI (by omega) (by omega) fun b o d g t=>?_;replace g:l[i]?=some d:=g;refine⟨_,t.hd,?_⟩;rw[strEq,bs_list];refine sB_intro (fun he=>?_) (fun hne=>?_)
  .replace he:=Yyn he;exact⟨by rw[decide_eq_true (by first | (rw[he];exact Yb g) | (rw[<-he];exact Yb g))],rfl⟩
  .replace hne:=Yyo hne;refine Up.next c (by omega) ⟨rfl,fun hm2=>?_⟩;rw[List.take_add_one,g] at hm2;rcases Yk.1 hm2 with hm2 | hm2
   .exact hd hm2
   .first | exact hne (Ye.1 hm2) | exact hne (Ye.1 hm2).symm
 .replace c:=lt_f c;refine⟨?_,rfl⟩;rw[Yj (by omega)] at hd;rw[decide_eq_false hd]
theorem index112 (l:List Nm) (s:Sl) (x:ByteArray) (h:Heap) (hr:Rw h 1 s (l.map nmC)) (hm:l.length<=1048576):Fn Pz 101 #[.slice s.a s.n s.c,.string x] h fun v h'=>(∃k:Int,v=.int .i64 k/\(∀i:Nat,i<l.length->(k<(i:Int) ↔ x.data.toList∈l.take i\/x.data.toList∉l)))/\h'=h:=by
 apply vc101;unfold W101;have hn:=hr.ln;refine up_loop (n:=s.n) (fun i h'=>h'=h/\x.data.toList∉l.take i) ⟨rfl,fun e=>by simp at e⟩ ?_;rintro-i h8 hi ⟨rfl,hd⟩;refine sB_intro (fun c=>?_) (fun c=>?_)
 .replace c:=lt_t c;refine hr.nbI (by omega) (by omega) fun b o d g t=>?_;replace g:l[i]?=some d:=g;refine⟨_,t.hd,?_⟩;rw[strEq,bs_list];refine sB_intro (fun he=>?_) (fun hne=>?_)
  .replace he:=Yyn he;have he2:x.data.toList=d:=by first | exact he | exact he.symm
   have hmem:x.data.toList∈l:=by rw[he2];exact Yb g
   refine⟨⟨_,rfl,fun k hk=>⟨fun hik=>.inl ?_,fun hor=>?_⟩⟩,rfl⟩
   .have:l[i]?=some x.data.toList:=by rw[he2];exact g
    exact Yb (i:=i) (by rw[Yyf,if_pos (by omega)];exact this)
   .rcases hor with hor | hor
    .apply Classical.byContradiction;intro hki;have:l.take k=(l.take i).take k:=by rw[List.take_take,Nat.min_eq_left (by omega)]
     rw[this] at hor;exact hd (List.mem_of_mem_take hor)
    .exact absurd hmem hor
  .replace hne:=Yyo hne;refine Up.next c (by omega) ⟨rfl,fun hm2=>?_⟩;rw[List.take_add_one,g] at hm2;rcases Yk.1 hm2 with hm2 | hm2
   .exact hd hm2
   .first | exact hne (Ye.1 hm2) | exact hne (Ye.1 hm2).symm
 .replace c:=lt_f c;rw[Yj (by omega)] at hd;exact⟨⟨_,rfl,fun k hk=>⟨fun _=>.inr hd,fun _=>by omega⟩⟩,rfl⟩
def kwB:List ByteArray:=[⟨#[97,103,97,105,110]⟩,⟨#[97,110,100]⟩,⟨#[97,115]⟩,⟨#[97,116]⟩,⟨#[99,97,108,108]⟩,⟨#[99,104,111,105,99,101]⟩,⟨#[101,108,115,101]⟩,⟨#[102,114,111,109]⟩,⟨#[105,102]⟩,⟨#[105,110,116]⟩,⟨#[108,101,110]⟩,⟨#[108,111,111,112]⟩,⟨#[109,101,115,115,97,103,101]⟩,⟨#[111,102]⟩,⟨#[111,102,102,101,114]⟩,⟨#[111,110]⟩,⟨#[111,114]⟩,⟨#[112,97,114]⟩,⟨#[112,108,97,121,115]⟩,⟨#[112,114,111,116,111,99,111,108]⟩,⟨#[115,101,114,118,105,99,101]⟩,⟨#[116,101,120,116]⟩,⟨#[116,105,109,101,115]⟩,⟨#[116,111]⟩,⟨#[118,97,114]⟩,⟨#[119,104,101,114,101]⟩,⟨#[119,104,105,108,101]⟩,⟨#[119,105,116,104,105,110]⟩]
theorem kwB_eq:(kwB.map fun b=>b.data.toList)=keywords:=rfl
theorem keywords154 (h:Heap):Fn Pz 178 #[] h fun v h'=>Ext h h'/\∃s:Sl,v=.slice s.a s.n s.c/\Rw h' 1 s (keywords.map nmC):=by
 apply vc178;unfold W178;intro h1 e;have ho:Own h1 h.size (kwB.map Value.string) 9:=by rw[e];exact Own.push
 have hl:kwB.length=28:=rfl;rw[<-kwB_eq];refine⟨by rw[e];exact Ext.push _ _,⟨some ⟨h.size,0,none⟩,28,28⟩,rfl,by rw[Yc,Yc,hl],fun _=>⟨h.size,0,rfl,fun i row hi=>?_⟩⟩;rw[List.map_map,Yd] at hi;obtain⟨x,hx1,hx2⟩:=Yya.1 hi;subst hx2;refine ho.atC fun j v hj=>?_
 match j,hj with
 | 0,hj=>cases hj;rw[show 0+i*1+0=i by omega,Yd,hx1];rfl
theorem isWord111 (s:ByteArray) (h:Heap):Fn Pz 100 #[.string s] h fun v h'=>v=.bool (isWord s.data.toList)/\Ext h h':=by
 apply vc100;unfold W100;refine (isName152 s h).mono ?_;rintro _ h3 ⟨rfl,rfl⟩;refine⟨_,rfl,sB_intro (fun c=>?_) (fun c=>?_)⟩
 .refine (keywords154 h3).mono ?_;rintro _ h6 ⟨E2,k,rfl,hk⟩;refine⟨_,rfl,?_⟩;refine (in153 _ k s h6 hk (by decide)).mono ?_;rintro _ h9 ⟨rfl,rfl⟩;exact⟨_,rfl,by rw[isWord,c];rfl,E2⟩
 .exact⟨by rw[isWord,c];rfl,.rfl'⟩
theorem word201 (s:ByteArray) (h:Heap):Fn Pz 229 #[.string s] h fun v h'=>v=.bool (isWord s.data.toList)/\Ext h h':=by
 apply vc229;unfold W229;refine (isWord111 s h).mono ?_;rintro _ h3 ⟨rfl,E⟩;exact⟨_,rfl,rfl,E⟩
theorem ix_one {l:Nm}:Lib.index l [46]=Lib.indexByte l 46:=Lib.index_one l 46
theorem pieces_none {l:Nm} (hn:∀k:Nat,l[k]?≠some 46):pieces l=[l]:=by
 have h1:Lib.index l [46]=-1:=by
  have h0:=Lib.index_ge l [46];apply Classical.byContradiction;intro h2;obtain⟨o,ho⟩:∃o:Nat,Lib.index l [46]=o:=⟨(Lib.index l [46]).toNat,by omega⟩;rw[ix_one] at ho;exact hn o (Lib.indexByte_some ho).1
 unfold pieces Lib.split;rw[Lib.count_miss h1];rfl
theorem pieces_hit {l:Nm} {i:Nat} (hi:l[i]?=some 46) (hn:∀k:Nat,k<i->l[k]?≠some 46):pieces l=l.take i::pieces (l.drop (i+1)):=by
 have h1:Lib.index l [46]=(i:Int):=by
  have h0:=Lib.index_ge l [46];have h2:Lib.index l [46] ≠ -1:=fun h2=>by rw[ix_one] at h2;exact Lib.indexByte_none h2 i hi
  obtain⟨o,ho⟩:∃o:Nat,Lib.index l [46]=o:=⟨(Lib.index l [46]).toNat,by omega⟩;have h3:=Lib.indexByte_some (ix_one (l:=l) ▸ ho);have:o=i:=by
   rcases Nat.lt_trichotomy o i with h | h | h
   .exact absurd h3.1 (hn o h)
   .exact h
   .exact absurd hi (h3.2 i h)
  rw[ho,this]
 unfold pieces Lib.split;rw[Lib.count_hit (i:=i) (by decide) h1,Nat.add_comm 1,Lib.splitK,if_neg (by rw[h1];intro e;have:=eq_of_beq e;omega),h1];rfl
theorem isPath157 (s:ByteArray) (h:Heap) (hs:s.size<=1048576):Fn Pz 181 #[.string s] h fun v h'=>v=.bool (isPath s.data.toList)/\Ext h h':=by
 apply vc181;unfold W181 V181a;have hsz:=size_len s;generalize hL:s.data.toList=L at *;refine⟨fun f i h' m=>∃a b:Nat,f=a/\i=b/\a<=b/\b<=s.size+1/\m=s.size+1-b/\Ext h h'/\(b<=s.size->(∀k:Nat,a<=k->k<b->L[k]?≠some 46)/\(pieces L).all isWord=(pieces (L.drop a)).all isWord)/\(s.size<b->(pieces L).all isWord=true),⟨_,0,0,rfl,rfl,Yyt _,by omega,rfl,.rfl',fun _=>⟨fun k _ hk=>by omega,rfl⟩,fun hb=>by omega⟩,?_⟩;rintro-_ _ h6 m ⟨a,b,rfl,rfl,hab,hb,rfl,E,hq,hz⟩;refine sB_intro (fun c=>?_) (fun c=>?_)
 .replace c:=Yyn c;have hbs:b<=s.size:=by omega
  obtain⟨q1,q2⟩:=hq hbs;have hw:IntKind.wrap .i64 ((b:Int)+1)=((b+1:Nat):Int):=by rw[w64 (by omega) (by omega)];omega
  have hsl:(s.extract (Int.toNat (a:Int)) (Int.toNat (b:Int))).data.toList=(L.drop a).take (b-a):=by
   rw[show Int.toNat (a:Int)=a from rfl,show Int.toNat (b:Int)=b from rfl,ext_data,hL]
  refine sB_intro (fun c2=>?_) (fun c2=>?_)
  .have hbe:b=s.size:=by
    have:(b:Int)=s.size:=by simpa using c2
    omega
   have hp:pieces (L.drop a)=[L.drop a]:=pieces_none fun k hk=>by
    rw[List.getElem?_drop] at hk;exact q1 (a+k) (by omega) (by have:=(Ya.1 hk).1;omega) hk
   have hta:(L.drop a).take (b-a)=L.drop a:=Yj (by rw[List.length_drop];omega);refine⟨⟨by omega,by omega,by omega⟩,?_⟩;refine (word201 _ h6).mono ?_;rintro _ h9 ⟨rfl,E2⟩;rw[hsl,hta];rw[hp,List.all_cons,List.all_nil,Bool.and_true] at q2;refine⟨_,rfl,sB_intro (fun c3=>?_) (fun c3=>⟨_,by omega,b+1,b+1,hw,hw,by omega,by omega,rfl,E.trans E2,fun hb2=>by omega,fun _=>?_⟩)⟩
   .refine⟨?_,E.trans E2⟩;rw[isPath,q2,bF c3,Bool.and_false]
   .rw[q2,bT c3]
  .have hne:(b:Int)≠s.size:=by simpa using c2
   obtain⟨y,hy,hby⟩:=byte_get (s:=s) (i:=b) (by omega);rw[hL] at hy;refine⟨⟨by omega,by omega⟩,?_⟩;rw[show Int.toNat (b:Int)=b from rfl] at *;rw[hby];refine sB_intro (fun c3=>?_) (fun c3=>⟨_,by omega,a,b+1,rfl,hw,by omega,by omega,rfl,E,fun _=>⟨fun k hk1 hk2=>?_,q2⟩,fun hb2=>by omega⟩)
   .have hy46:y=46:=by
     have h4:(y.toNat:Int)=46:=by simpa using c3
     exact UInt8.toNat_inj.1 (by rw[show (46:UInt8).toNat=46 from rfl];omega)
    subst hy46;have hp:pieces (L.drop a)=(L.drop a).take (b-a)::pieces ((L.drop a).drop (b-a+1)):=pieces_hit (by rw[List.getElem?_drop,show a+(b-a)=b by omega];exact hy) fun k hk=>by
     rw[List.getElem?_drop];exact q1 (a+k) (by omega) (by omega)
    rw[List.drop_drop,show a+(b-a+1)=b+1 by omega] at hp;rw[hp,List.all_cons] at q2;refine⟨⟨by omega,by omega,by omega⟩,?_⟩;refine (word201 _ h6).mono ?_;rintro _ h9 ⟨rfl,E2⟩;rw[hsl];refine⟨_,rfl,sB_intro (fun c4=>?_) (fun c4=>⟨_,by omega,b+1,b+1,hw,hw,by omega,by omega,rfl,E.trans E2,fun hb2=>⟨fun k _ _=>by omega,?_⟩,fun hb2=>by omega⟩)⟩
    .refine⟨?_,E.trans E2⟩;rw[isPath,q2,bF c4,Bool.false_and,Bool.and_false]
    .rw[q2,bT c4,Bool.true_and]
   .by_cases hkb:k=b
    .subst hkb;rw[hy];intro e;cases e;simp at c3
    .exact q1 k hk1 (by omega)
 .replace c:=Yyo c;refine⟨?_,E⟩;rw[isPath,hz (by omega),Bool.and_true];first | rfl | (congr 1;rw[decide_eq_decide];omega)
theorem vars155 (ds:List Dc) (s:Sl) (h:Heap) (hd:DL h s ds):Fn Pz 179 #[.slice s.a s.n s.c] h fun v h'=>v=.int .i64 ((allF ds).length:Nat)/\(allF ds).length<=1099511627776/\h'=h:=by
 apply vc179;unfold W179;have hn:=hd.r.ln;have hm:=hd.r.sm;have hle:∀i,i<=ds.length->(allF (ds.take i)).length<=i*1048576:=fun i hi=>by
  have:=allF_le (ds.take i) fun d hd2=>(hd.i d (List.mem_of_mem_take hd2)).pf.sm;rw[Yu,Nat.min_eq_left hi] at this;exact this
 have hmx:∀i,i<=ds.length->(allF (ds.take i)).length<=1099511627776:=fun i hi=>by
  have:=hle i hi;have:i*1048576<=1048576*1048576:=Nat.mul_le_mul_right _ (by omega);omega
 refine⟨fun q i h' m=>∃b:Nat,i=b/\b<=s.n/\m=s.n-b/\h'=h/\q=((allF (ds.take b)).length:Nat),⟨_,0,rfl,by omega,rfl,rfl,rfl⟩,?_⟩;rintro-nn _ h6 m ⟨b,rfl,hb,rfl,rfl,rfl⟩;refine sB_intro (fun c=>?_) (fun c=>?_)
 .replace c:=lt_t c;refine hd.r.rw.nbI (by omega) (by omega) fun b7 o8 d g t=>?_;replace g:ds[b]?=some d:=g;have hfn:=(hd.i d (Yb g)).pf.ln;refine⟨_,t.nth 1 rfl,_,?_,b+1,by rw[w64 (by omega) (by omega)];omega,by omega,rfl,rfl,?_⟩
  .omega
  .have h1:=hmx (b+1) (by omega);rw[List.take_add_one,g,Option.toList_some,allF_snoc,Yh] at h1 ⊢;rw[w64 (by omega) (by omega)];omega
 .replace c:=lt_f c;have h1:=hmx ds.length (Yyt _);rw[Yye] at h1;rw[Yj (by omega)];exact⟨rfl,h1,rfl⟩
theorem goodSort156 (a b c:Int) (h:Heap):Fn Pz 180 #[.agg ⟨[.int .i64 a,.int .i64 b,.int .i64 c]⟩] h (RP (SortS a b c) h):=by
 apply vc180;unfold W180 V180a;refine (St.refl h).newb fun h4 hs=>?_;refine⟨fun l m h'=>h'=h4/\((a=2/\l=0/\m=40)\/(a≠2/\l=-1000/\m=1000)),⟨_,hs.rd 0 rfl rfl,sBi (fun c=>⟨rfl,.inl ⟨by simpa using c,rfl,rfl⟩⟩) (fun c=>⟨rfl,.inr ⟨by simpa using c,rfl,rfl⟩⟩)⟩,?_⟩;rintro-l m _ ⟨rfl,hlm⟩
 repeat' (first
  | (refine⟨_,hs.rd 0 rfl rfl,?_⟩)
  | (refine sBi (fun _=>?_) (fun _=>?_)))
 all_goals
  refine RP.e ?_ hs.ext;unfold SortS;simp only[Bool.false_eq_true,decide_eq_true_eq,beq_iff_eq,false_iff,true_iff] at *;omega
theorem field241 (ds:List Dc) (s:Sl) (p:Int) (h:Heap) (hd:DL h s ds) (h0:0<=p) (h1:p<(allF ds).length) (h2:(allF ds).length<=1099511627776) :
  Fn Pz 276 #[.slice s.a s.n s.c,.int .i64 p] h fun v h'=>(∃f,(allF ds)[p.toNat]?=some f/\v=.agg ⟨f.cs⟩)/\Ext h h':=by
 apply vc276;unfold W276 V276a;have hn:=hd.r.ln;have hm:=hd.r.sm;refine (St.refl h).newb fun h1' hs=>?_;refine⟨fun x i h' m=>∃b:Nat,i=b/\b<=s.n/\m=s.n-b/\h'=h1'/\0<=x/\x+((allF (ds.take b)).length:Nat)=p,⟨_,0,rfl,by omega,rfl,rfl,h0,by show p+((0:Nat):Int)=p;omega⟩,?_⟩;rintro-x _ h7 m ⟨b,rfl,hb,rfl,rfl,hx0,hx1⟩;refine sB_intro (fun c=>?_) (fun c=>?_)
 .replace c:=lt_t c;have hrw:=hd.r.rw.ext hs.ext;refine hrw.nbI (by omega) (by omega) fun b8 o9 d g t=>?_;replace g:ds[b]?=some d:=g;have hdi:=hd.i d (Yb g);have hfn:=hdi.pf.ln;have hfm:=hdi.pf.sm;have hsp:allF ds=allF (ds.take b)++(d.fs++allF (ds.drop (b+1))):=by
   have e:ds=ds.take b++d::ds.drop (b+1):=by
    have h3:=(List.take_append_drop b ds).symm;have hl:=(Ya.1 g).1;rw[List.drop_eq_getElem_cons hl,(Ya.1 g).2] at h3;exact h3
   conv=>lhs;rw[e]
   unfold allF;rw[List.flatMap_append,List.flatMap_cons]
  refine⟨_,t.nth 1 rfl,sB_intro (fun c2=>?_) (fun c2=>?_)⟩
  .replace c2:=Yyn c2;refine hrw.nbI (by omega) (by omega) fun b11 o12 d2 g2 t2=>?_;replace g2:ds[b]?=some d2:=g2;rw[g] at g2;cases g2;refine⟨_,t2.nth 1 rfl,?_⟩;refine (hdi.pf.rw.ext hs.ext).nbI hx0 c2 fun b14 o15 f g3 t3=>?_;refine⟨_,_,_,_,t3,?_⟩;refine hs.put 0 rfl (o:=0) (vs:=f.cs) rfl (show 4<=4 by decide) fun h20 hs=>?_;refine⟨_,_,_,_,hs.at 0 rfl (o:=0) (n:=4) rfl,⟨f,?_,rfl⟩,hs.ext⟩;have hxl:=(Ya.1 g3).1;rw[hsp,Yyc (by omega),Yyi (by omega),<-g3];congr 1;omega
  .replace c2:=Yyo c2;refine hrw.nbI (by omega) (by omega) fun b11 o12 d2 g2 t2=>?_;replace g2:ds[b]?=some d2:=g2;rw[g] at g2;cases g2;refine⟨_,t2.nth 1 rfl,s.n-(b+1),by omega,b+1,by rw[w64 (by omega) (by omega)];omega,by omega,rfl,rfl,?_⟩;rw[w64 (by omega) (by omega)];refine⟨by omega,?_⟩;rw[List.take_add_one,g,Option.toList_some,allF_snoc,Yh];omega
 .replace c:=lt_f c;rw[Yj (by omega)] at hx1;omega
theorem text202 (ds:List Dc) (s:Sl) (p:Int) (h:Heap) (hd:DL h s ds):Fn Pz 230 #[.slice s.a s.n s.c,.int .i64 p] h (RP (TextS (allF ds) p) h):=by
 apply vc230;unfold W230;refine sB_intro (fun c=>?_) (fun c=>?_)
 .replace c:=Yyn c;refine (vars155 ds s h hd).mono ?_;rintro _ h3 ⟨rfl,hk,rfl⟩;refine⟨_,rfl,sB_intro (fun c2=>?_) (fun c2=>?_)⟩
  .replace c2:=Yyn c2;refine (field241 ds s p _ hd (by omega) (by omega) hk).mono ?_;rintro _ h9 ⟨⟨f,hf,rfl⟩,E⟩;refine⟨_,_,_,_,rfl,RP.e ⟨fun hb=>⟨by omega,f,hf,by simpa using hb⟩,?_⟩ E⟩;rintro⟨_,f2,hf2,hk2⟩;rw[hf] at hf2;cases hf2;simpa using hk2
  .replace c2:=Yyo c2;refine RP.f ?_ .rfl';rintro⟨_,f2,hf2,_⟩;have:=(Ya.1 hf2).1;omega
 .replace c:=Yyo c;exact RP.f (fun hT=>by have:=hT.1;omega) .rfl'
theorem goodGuard158 (ds:List Dc) (s:Sl) (d:Dc) (h:Heap) (hd:DL h s ds) (hi:DI h d) :
  Fn Pz 182 #[.slice s.a s.n s.c,.agg ⟨[.slice d.hd.a d.hd.n d.hd.c,.slice d.he.a d.he.n d.he.c]⟩] h (RP (GuardS (allF ds) d.ds d.es) h):=by
 apply vc182 s d.hd d.he;unfold W182;have hdn:=hi.pd.ln;have hdm:=hi.pd.sm;have hen:=hi.pe.ln;have hem:=hi.pe.sm;refine (St.refl h).newb fun h3 hs=>?_;refine (vars155 ds s h3 (hd.ext hs.ext)).mono ?_;rintro _ h6 ⟨rfl,hk,rfl⟩;refine⟨_,rfl,?_⟩;refine up_loopS (n:=d.hd.n) hs (fun i=>∀(j:Nat) (x:Df),j<i->d.ds[j]?=some x -> -1<=min x.x x.y/\max x.x x.y<(allF ds).length /\ -20000<=x.c/\x.c<=20000) (fun j x hj=>by omega) ?_;rintro-i h11 hin ⟨hs,hq⟩;refine⟨_,hs.rd 0 rfl rfl,sB_intro (fun c=>?_) (fun c=>?_)⟩
 .replace c:=lt_t c;refine⟨_,hs.rd 0 rfl rfl,?_⟩;refine (hi.pd.rw.ext hs.ext).nbI (by omega) (by omega) fun b o x g t=>?_;replace g:d.ds[i]?=some x:=g;refine⟨_,_,_,t,?_⟩;refine hs.newput (vs:=x.cs) rfl rfl fun h20 hs=>?_
  repeat' (first
    | (refine⟨_,hs.rd 0 rfl rfl,?_⟩)
    | (refine⟨_,hs.rd 1 rfl rfl,?_⟩)
    | (refine sBi (fun _=>?_) (fun _=>?_))
    | (refine sBe (fun _=>?_) (fun _=>?_))
    | (refine sBn (fun _=>?_) (fun _=>?_)))
  all_goals first
   | exact RP.f (fun hG=>by have:=hG.d x (Yb g);omega) hs.ext
   | (refine Up.next c (by omega) ⟨hs.drop 1,fun j y hj hy=>?_⟩
      by_cases e:j=i
      .subst e;rw[g] at hy;cases hy;omega
      .exact hq j y (by omega) hy)
 .replace c:=lt_f c;have hqd:∀x∈d.ds,-1<=min x.x x.y/\max x.x x.y<(allF ds).length /\ -20000<=x.c/\x.c<=20000:=fun x hx=>by
   obtain⟨j,hj⟩:=Yf.1 hx;exact hq j x (by have:=(Ya.1 hj).1;omega) hj
  clear hq;refine up_loopS (n:=d.he.n) hs (fun i=>∀(j:Nat) (x:Eqs),j<i->d.es[j]?=some x->TextS (allF ds) x.x/\TextS (allF ds) x.y) (fun j x hj=>by omega) ?_;rintro-i h32 hin ⟨hs,hq⟩;refine⟨_,hs.rd 0 rfl rfl,sB_intro (fun c=>?_) (fun c=>?_)⟩
  .replace c:=lt_t c;refine⟨_,hs.rd 0 rfl rfl,?_⟩;refine (hi.pe.rw.ext hs.ext).nbI (by omega) (by omega) fun b o x g t=>?_;replace g:d.es[i]?=some x:=g;refine⟨⟨by omega,by omega⟩,_,t.nth 0 rfl,?_⟩;refine (text202 ds s _ h32 (hd.ext hs.ext)).mono ?_;rintro _ h40 ⟨⟨b1,rfl,hb1⟩,E⟩;have hs:=hs.step E;refine⟨_,rfl,sB_intro (fun c1=>RP.f (fun hG=>iff_f hb1 (bF c1) (hG.e x (Yb g)).1) hs.ext) (fun c1=>?_)⟩;refine⟨_,hs.rd 0 rfl rfl,?_⟩;refine (hi.pe.rw.ext hs.ext).nbI (by omega) (by omega) fun b o x' g' t=>?_;replace g':d.es[i]?=some x':=g';rw[g] at g';cases g';refine⟨⟨by omega,by omega⟩,_,t.nth 1 rfl,?_⟩;refine (text202 ds s _ h40 (hd.ext hs.ext)).mono ?_;rintro _ h47 ⟨⟨b2,rfl,hb2⟩,E⟩;have hs:=hs.step E;refine⟨_,rfl,sB_intro (fun c2=>RP.f (fun hG=>iff_f hb2 (bF c2) (hG.e x (Yb g)).2) hs.ext) (fun c2=>Up.next c (by omega) ⟨hs,fun j y hj hy=>?_⟩)⟩;by_cases e:j=i
   .subst e;rw[g] at hy;cases hy;exact⟨hb1.1 (bT c1),hb2.1 (bT c2)⟩
   .exact hq j y (by omega) hy
  .replace c:=lt_f c;have hqe:∀x∈d.es,TextS (allF ds) x.x/\TextS (allF ds) x.y:=fun x hx=>by
    obtain⟨j,hj⟩:=Yf.1 hx;exact hq j x (by have:=(Ya.1 hj).1;omega) hj
   refine⟨_,hs.rd 0 rfl rfl,sB_intro (fun c1=>⟨_,hs.rd 0 rfl rfl,?_⟩) (fun c1=>?_)⟩
   .replace c1:=Yyn c1;refine RP.e ⟨fun hb=>⟨by omega,by have:=Yyn hb;omega,hqd,hqe⟩,fun hG=>?_⟩ hs.ext;have:=hG.ne;exact decide_eq_true (by omega)
   .replace c1:=Yyo c1;exact RP.f (fun hG=>by have:=hG.nd;omega) hs.ext
def GNm (ds:List Dc):Prop:=∀d∈ds,d.nm.length<=1048576
theorem dup_iff {α:Type} {l:List α} {p:α->Bool}:(l.any p)=false ↔ ∀(j:Nat) (y:α),l[j]?=some y->p y=false:=by
 rw[List.any_eq_false];refine⟨fun h j y hj=>?_,fun h y hy=>?_⟩
 .have:=h y (Yb hj);cases hp:p y<;>simp_all
 .obtain⟨j,hj⟩:=Yf.1 hy;rw[h j y hj];decide
theorem refValid113 (ds:List Dc) (s:Sl) (h:Heap) (hd:DL h s ds) (hN:GNm ds):Fn Pz 102 #[.slice s.a s.n s.c] h (RP (DeclS ds) h):=by
 apply vc102;unfold W102;have hn:=hd.r.ln;have hm:=hd.r.sm;refine sB_intro (fun c0=>RP.f (fun hG=>by have:=hG.pn;have:=Yyn c0;omega) .rfl') (fun c0=>?_);replace c0:=Yyo c0;refine (vars155 ds s h hd).mono ?_;rintro _ h3 ⟨rfl,hk,rfl⟩;refine⟨_,rfl,sB_intro (fun c00=>RP.f (fun hG=>by have:=hG.pv;have:=Yyn c00;omega) .rfl') (fun c00=>?_)⟩;replace c00:=Yyo c00;refine⟨fun f i h' m=>∃b:Nat,i=b/\b<=s.n/\m=s.n-b/\St h3 h' []/\f=((allF (ds.take b)).length:Nat)/\∀(j:Nat) (y:Dc),j<b->ds[j]?=some y->DcS ds j y,⟨_,0,rfl,by omega,rfl,St.refl _,rfl,fun j y hj=>by omega⟩,?_⟩;rintro-_ _ h9 m ⟨b,rfl,hb,rfl,hs,rfl,hq⟩;refine sB_intro (fun c=>?_) (fun c=>RP.t ⟨by omega,by omega,fun j y hy=>hq j y (by have:=lt_f c;have:=(Ya.1 hy).1;omega) hy⟩ hs.ext);replace c:=lt_t c;refine (hd.r.rw.ext hs.ext).nbI (by omega) (by omega) fun b10 o11 d g t=>?_;replace g:ds[b]?=some d:=g;have hdm:=Yb g;have hdi:=hd.i d hdm;have hfn:=hdi.pf.ln;have hfm:=hdi.pf.sm;refine⟨_,_,_,_,_,t,?_⟩;refine hs.newput (vs:=d.cs) rfl rfl fun h18 hs=>?_;refine up_loopS (n:=b) hs (fun i=>∀(j:Nat) (y:Dc),j<i->ds[j]?=some y->y.nm≠d.nm) (fun j y hj=>by omega) ?_;rintro-k1 h23 hk1 ⟨hs,hq1⟩;refine sB_intro (fun c1=>?_) (fun c1=>?_)
 .replace c1:=lt_t c1;refine (hd.r.rw.ext hs.ext).nbI (by omega) (by omega) fun b24 o25 d2 g2 t2=>?_;replace g2:ds[k1]?=some d2:=g2;refine⟨_,t2.nth 0 rfl,_,hs.rd 0 rfl rfl,sBs (fun e=>?_) (fun e=>Up.next c1 (by omega) ⟨hs,fun j y hj hy=>?_⟩)⟩
  .refine RP.f (fun hG=>?_) hs.ext;have:=dup_iff.1 (hG.pd b d g).pd k1 d2 (by rw[Yyf,if_pos c1];exact g2);exact Yyo this e
  .by_cases e2:j=k1
   .subst e2;rw[g2] at hy;cases hy;exact e
   .exact hq1 j y (by omega) hy
 replace c1:=lt_f c1;have hdup:((ds.take b).any fun x=>decide (x.nm=d.nm))=false:=dup_iff.2 fun j y hy=>by
  rw[Yyf] at hy;split at hy
  .exact decide_eq_false (hq1 j y (by omega) hy)
  .cases hy
 clear hq1;refine up_loopS (n:=d.hf.n) hs (fun i=>∀(j:Nat) (y:Fld),j<i->d.fs[j]?=some y->FldS d.fs j y) (fun j y hj=>by omega) ?_;rintro-k2 h33 hk2 ⟨hs,hq2⟩;refine⟨_,hs.rd 0 rfl rfl,sB_intro (fun c2=>?_) (fun c2=>?_)⟩
 .replace c2:=lt_t c2;refine⟨_,hs.rd 0 rfl rfl,?_⟩;refine (hdi.pf.rw.ext hs.ext).nbI (by omega) (by omega) fun b36 o37 f g3 t3=>?_;replace g3:d.fs[k2]?=some f:=g3;refine⟨_,_,_,t3.sub 1 3 rfl,?_⟩;refine (goodSort156 _ _ _ h33).mono ?_;rintro _ h43 ⟨⟨b1,rfl,hb1⟩,E⟩;have hs:=hs.step E;refine⟨_,rfl,sB_intro (fun c3=>RP.f (fun hG=>iff_f hb1 (bF c3) ((hG.pd b d g).pfs k2 f g3).ps) hs.ext) (fun c3=>?_)⟩;refine⟨_,hs.rd 0 rfl rfl,?_⟩;refine (hdi.pf.rw.ext hs.ext).nbI (by omega) (by omega) fun b45 o46 f2 g4 t4=>?_;replace g4:d.fs[k2]?=some f2:=g4;rw[g3] at g4;cases g4;refine⟨_,t4.nth 0 rfl,?_⟩;refine (isWord111 (bs f.nm) h43).mono ?_;rintro _ h50 ⟨rfl,E⟩;have hs:=hs.step E;refine⟨_,rfl,sB_intro (fun c4=>RP.f (fun hG=>?_) hs.ext) (fun c4=>?_)⟩
  .have:=((hG.pd b d g).pfs k2 f g3).pw;rw[bs_list,this] at c4;cases c4
  refine up_loopS (n:=k2) hs (fun i=>∀(j:Nat) (y:Fld),j<i->d.fs[j]?=some y->y.nm≠f.nm) (fun j y hj=>by omega) ?_;rintro-j1 h55 hj1 ⟨hs,hq3⟩;refine sB_intro (fun c5=>?_) (fun c5=>?_)
  .replace c5:=lt_t c5;refine⟨_,hs.rd 0 rfl rfl,?_⟩;refine (hdi.pf.rw.ext hs.ext).nbI (by omega) (by omega) fun b57 o58 f3 g5 t5=>?_;replace g5:d.fs[j1]?=some f3:=g5;refine⟨_,t5.nth 0 rfl,_,hs.rd 0 rfl rfl,?_⟩;refine (hdi.pf.rw.ext hs.ext).nbI (by omega) (by omega) fun b61 o62 f4 g6 t6=>?_;replace g6:d.fs[k2]?=some f4:=g6;rw[g3] at g6;cases g6;refine⟨_,t6.nth 0 rfl,sBs (fun e=>?_) (fun e=>Up.next c5 (by omega) ⟨hs,fun j y hj hy=>?_⟩)⟩
   .refine RP.f (fun hG=>?_) hs.ext;have:=dup_iff.1 ((hG.pd b d g).pfs k2 f g3).pd j1 f3 (by rw[Yyf,if_pos c5];exact g5);exact Yyo this e
   .by_cases e2:j=j1
    .subst e2;rw[g5] at hy;cases hy;exact e
    .exact hq3 j y (by omega) hy
  .replace c5:=lt_f c5;refine Up.next c2 (by omega) ⟨hs,fun j y hj hy=>?_⟩;by_cases e2:j=k2
   .subst e2;rw[g3] at hy;cases hy;refine⟨?_,hb1.1 (bT c3),dup_iff.2 fun j' y' hy'=>?_⟩
    .have:=bT c4;rw[bs_list] at this;exact this
    .rw[Yyf] at hy';split at hy'
     .exact decide_eq_false (hq3 j' y' (by omega) hy')
     .cases hy'
   .exact hq2 j y (by omega) hy
 .replace c2:d.hf.n<=k2:=by have:=Yyo c2;omega
  have hfl:∀k f,d.fs[k]?=some f->FldS d.fs k f:=fun k f hf=>hq2 k f (by have:=(Ya.1 hf).1;omega) hf;refine⟨_,hs.rd 0 rfl rfl,?_⟩;refine (isPath157 (bs d.nm) h33 (hN d hdm)).mono ?_;rintro _ h69 ⟨rfl,E⟩;have hs:=hs.step E;refine⟨_,rfl,sB_intro (fun c3=>RP.f (fun hG=>?_) hs.ext) (fun c3=>?_)⟩
  .have:=(hG.pd b d g).pp;rw[bs_list,this] at c3;cases c3
  have hpp:isPath d.nm=true:=by have:=bT c3;rw[bs_list] at this;exact this
  refine⟨_,hs.rd 0 rfl rfl,sB_intro (fun c4=>RP.f (fun hG=>by have:=(hG.pd b d g).pn;have:=Yyn c4;omega) hs.ext) (fun c4=>?_)⟩;replace c4:=Yyo c4;refine⟨_,hs.rd 0 rfl rfl,sBn (fun c5=>RP.f (fun hG=>by have:=(hG.pd b d g).pf;omega) hs.ext) (fun c5=>?_)⟩;refine⟨_,_,hs.at 0 rfl (o:=3) (n:=2) rfl,?_⟩;refine (goodGuard158 ds s d h69 (hd.ext hs.ext) (hdi.ext hs.ext)).mono ?_;rintro _ h76 ⟨⟨b2,rfl,hb2⟩,E⟩;have hs:=hs.step E;refine⟨_,rfl,sB_intro (fun c6=>RP.f (fun hG=>iff_f hb2 (bF c6) (hG.pd b d g).pg) hs.ext) (fun c6=>?_)⟩;refine⟨_,hs.rd 0 rfl rfl,s.n-(b+1),by omega,b+1,by rw[w64 (by omega) (by omega)];omega,by omega,rfl,hs.drop 1,?_,fun j y hj hy=>?_⟩
  .have h1:(allF (ds.take (b+1))).length<=(allF ds).length:=allF_take ds (b+1);rw[List.take_add_one,g,Option.toList_some,allF_snoc,Yh] at h1 ⊢;rw[w64 (by omega) (by omega)];omega
  .by_cases e2:j=b
   .subst e2;rw[g] at hy;cases hy;exact⟨hpp,by omega,by omega,hdup,hfl,hb2.1 (bT c6)⟩
   .exact hq j y (by omega) hy
theorem St.cut {h0 h:Heap} {L:List It} (hs:St h0 h L) (k:Nat) {s:Sl} {e:TypeId} {n:Nat} {rows:List (List Value)} (hk:L[k]?=some (.sl s e n rows)) (hn:0<n) (i:Nat) (hi:i<=s.n) :
  St h0 h (L.set k (.sl ⟨s.a,i,s.c⟩ e n (rows.take i))):=by
 have hget:=hs.get hk;have hln:=(hs.rw k hk hn).1;refine hs.turn hk (Yyt _) (j:=.sl ⟨s.a,i,s.c⟩ e n (rows.take i)) ?_ (fun b hb=>.inr hb) (fun _ _ _=>rfl);have hrl:∀r∈rows.take i,r.length=n:=fun r hr=>hget.2 r (List.mem_of_mem_take hr);have hfl:(rows.take i).flatten=rows.flatten.take (i*n):=by
  have h5:rows=rows.take i++rows.drop i:=(List.take_append_drop i rows).symm;rw[congrArg List.flatten h5,List.flatten_append,Yyq (by rw[flatten_len _ hrl,Yu,Nat.min_eq_left (by omega)];exact Yyt _)];rw[Yj (l:=(rows.take i).flatten) (by rw[flatten_len _ hrl,Yu,Nat.min_eq_left (by omega)];exact Yyt _)]
 have hin:i*n<=s.n*n:=Nat.mul_le_mul_right _ hi;refine⟨⟨by rw[flatten_len _ hrl,Yu];show min i rows.length*n=i*n;rw[Nat.min_eq_left (by omega)],?_⟩,hrl⟩;rcases hget.1.2 with ⟨ha,h2,h3⟩ | ⟨g,cur,ha,hb0,hh,hnc,hcm,hsz,htk⟩
 .exact .inl ⟨ha,by show i=0;omega,h3⟩
 .refine .inr ⟨g,cur,ha,hb0,hh,by show i<=s.c;omega,hcm,hsz,?_⟩;show cur.toList.take (i*n)=_;rw[hfl,<-htk,List.take_take,Nat.min_eq_left hin]
theorem splice_set {xs:List Value} {i:Nat} {v:Value} (h:i<xs.length):splice xs i [v]=xs.set i v:=by
 unfold splice;rw[List.set_eq_take_append_cons_drop,if_pos h];simp
theorem state114 (g:Gl) (p:Int) (h:Heap):Fn Pz 103 #[g.v,.int .i64 p] h (RP (0<=p/\p<g.n) h):=by
 apply vc103 (bs g.nm) g.hr g.hd g.n g.s g.e g.he g.ht;unfold W103;refine (St.refl h).newb fun h9 hs=>?_;refine sB_intro (fun c=>?_) (fun c=>?_)
 .refine⟨_,hs.rd 0 rfl rfl,RP.e ?_ hs.ext⟩;have:=Yyn c;rw[decide_eq_true_eq];omega
 .exact RP.f (by have:=Yyo c;omega) hs.ext
structure NumR (g:Gl):Prop where
 n:1<=g.n/\g.n<=200
 s:0<=g.s/\g.s<g.n
 e:0<=g.e/\g.e<g.n
 es:∀x∈g.es,0<=x.f/\x.f<g.n/\0<=x.t/\x.t<g.n
theorem NumS.R {g:Gl} (h:NumS g):NumR g:=⟨⟨h.n.1,h.n.2.1⟩,⟨h.n.2.2.1,h.n.2.2.2.2.1⟩,⟨h.n.2.2.2.1,h.n.2.2.2.2.2⟩,fun x hx=>by
 have:=h.e x hx;unfold EdS at this;omega⟩
theorem numbers65 (g:Gl) (h:Heap) (hg:GI h g):Fn Pz 44 #[g.v] h (RP (NumS g) h):=by
 apply vc44 (bs g.nm) g.hr g.hd g.n g.s g.e g.he g.ht;unfold W44;have hen:=hg.e.ln;have hem:=hg.e.sm;have hrn:=hg.r.ln;have hdn:=hg.d.r.ln;refine (St.refl h).newb fun h9 hs=>?_;refine up_loopS (n:=g.he.n) hs (fun i=>∀j x,j<i->g.es[j]?=some x->EdS g x) (fun j x hj=>by omega) ?_;rintro-i h14 hi ⟨hs,hq⟩;refine⟨_,hs.rd 0 rfl rfl,sB_intro (fun c=>?_) (fun c=>?_)⟩
 .replace c:=lt_t c;refine⟨_,hs.rd 0 rfl rfl,?_⟩;refine (hg.e.rw.ext hs.ext).nbI (by omega) (by omega) fun b o x gx t=>?_;replace gx:g.es[i]?=some x:=gx;refine⟨_,_,_,_,_,_,t,?_⟩;refine hs.newput (vs:=x.cs) rfl rfl fun h26 hs=>?_;refine⟨_,_,_,_,_,_,_,_,hs.at 1 rfl (o:=0) (n:=8) rfl,_,hs.rd 0 rfl rfl,?_⟩;refine (state114 g x.f h26).mono ?_;rintro _ h38 ⟨⟨b1,rfl,hb1⟩,E⟩;have hs:=hs.step E;refine⟨_,rfl,sB_intro (fun c1=>RP.f (fun hG=>by have:=iff_f hb1 (bF c1);have:=hG.e x (Yb gx);unfold EdS at this;omega) hs.ext) (fun c1=>?_)⟩;refine⟨_,_,_,_,_,_,_,_,hs.at 1 rfl (o:=0) (n:=8) rfl,_,hs.rd 0 rfl rfl,?_⟩;refine (state114 g x.t h38).mono ?_;rintro _ h50 ⟨⟨b2,rfl,hb2⟩,E⟩;have hs:=hs.step E;refine⟨_,rfl,sB_intro (fun c2=>RP.f (fun hG=>by have:=iff_f hb2 (bF c2);have:=hG.e x (Yb gx);unfold EdS at this;omega) hs.ext) (fun c2=>?_)⟩;have f1:=hb1.1 (bT c1);have f2:=hb2.1 (bT c2)
  repeat' (first
     | (refine⟨_,hs.rd 0 rfl rfl,?_⟩)
     | (refine⟨_,hs.rd 1 rfl rfl,?_⟩)
     | (refine⟨_,hs.rd 2 rfl rfl,?_⟩)
     | (refine⟨_,_,_,hs.at 0 rfl (o:=1) (n:=3) rfl,?_⟩)
     | (refine⟨_,_,_,hs.at 1 rfl (o:=1) (n:=3) rfl,?_⟩)
     | (refine sBi (fun _=>?_) (fun _=>?_))
     | (refine sBe (fun _=>?_) (fun _=>?_))
     | (refine sBn (fun _=>?_) (fun _=>?_))
     | (refine sB_intro (fun _=>?_) (fun _=>?_)))
  all_goals first
   | exact RP.f (fun hG=>by have:=hG.e x (Yb gx);unfold EdS at this;omega) hs.ext
   | (refine Up.next c (by omega) ⟨hs.drop 1,fun j y hj hy=>?_⟩
      by_cases e:j=i
      .subst e;rw[gx] at hy;cases hy;unfold EdS;omega
      .exact hq j y (by omega) hy)
 .replace c:=lt_f c;refine⟨_,hs.rd 0 rfl rfl,sB_intro (fun c1=>?_) (fun c1=>RP.f (fun hG=>by have:=Yyo c1;have:=hG.n;omega) hs.ext)⟩;refine⟨_,hs.rd 0 rfl rfl,sB_intro (fun c2=>?_) (fun c2=>RP.f (fun hG=>by have:=Yyo c2;have:=hG.n;omega) hs.ext)⟩;refine⟨_,_,_,_,_,_,_,_,hs.at 0 rfl (o:=0) (n:=8) rfl,_,hs.rd 0 rfl rfl,?_⟩;refine (state114 g g.s h14).mono ?_;rintro _ h76 ⟨⟨b3,rfl,hb3⟩,E⟩;have hs:=hs.step E;refine⟨_,rfl,sB_intro (fun c3=>?_) (fun c3=>RP.f (fun hG=>by have:=iff_f hb3 c3;have:=hG.n;omega) hs.ext)⟩;refine⟨_,_,_,_,_,_,_,_,hs.at 0 rfl (o:=0) (n:=8) rfl,_,hs.rd 0 rfl rfl,?_⟩;refine (state114 g g.e h76).mono ?_;rintro _ h88 ⟨⟨b4,rfl,hb4⟩,E⟩;have hs:=hs.step E;refine⟨_,rfl,sB_intro (fun c4=>?_) (fun c4=>RP.f (fun hG=>by have:=iff_f hb4 c4;have:=hG.n;omega) hs.ext)⟩;have f1:=Yyn c1;have f2:=Yyn c2;have f3:=hb3.1 c3;have f4:=hb4.1 c4;refine⟨_,hs.rd 0 rfl rfl,RP.e ⟨fun hb=>⟨by omega,by have:=Yyn hb;omega,fun x hx=>?_⟩,fun hG=>decide_eq_true (by have:=hG.m;omega)⟩ hs.ext⟩;obtain⟨j,hj⟩:=Yf.1 hx;exact hq j x (by have:=(Ya.1 hj).1;omega) hj
structure ApS (g:Gl):Prop where
 s:∀x∈g.es,x.ag=true->x.f≠g.s
 p:∀i x,g.es[i]?=some x->∀k y,g.es[k]?=some y->¬PairBad i k x y
theorem apart66 (g:Gl) (h:Heap) (hg:GI h g):Fn Pz 45 #[g.v] h (RP (ApS g) h):=by
 apply vc45 (bs g.nm) g.hr g.hd g.n g.s g.e g.he g.ht;unfold W45 V45a V45b;have hen:=hg.e.ln;have hem:=hg.e.sm;refine (St.refl h).newb fun h9 hs=>?_;refine up_loopS (n:=g.he.n) hs (fun i=>∀(j:Nat) (x:Ed),j<i->g.es[j]?=some x->(x.ag=true->x.f≠g.s)/\∀k y,g.es[k]?=some y->¬PairBad j k x y) (fun j y hj=>by omega) ?_;rintro-i h14 hi ⟨hs,hq⟩;refine⟨_,hs.rd 0 rfl rfl,sB_intro (fun c=>?_) (fun c=>RP.t ⟨fun x hx=>?_,fun j x hx=>?_⟩ hs.ext)⟩
 .replace c:=lt_t c;refine⟨_,hs.rd 0 rfl rfl,?_⟩;refine (hg.e.rw.ext hs.ext).nbI (by omega) (by omega) fun b o x gx t=>?_;replace gx:g.es[i]?=some x:=gx;refine⟨_,_,_,_,_,_,t,?_⟩;refine hs.newput (vs:=x.cs) rfl rfl fun h26 hs=>?_;refine⟨_,hs.rd 0 rfl rfl,sB_intro (fun cg=>?_) (fun cg=>?_)⟩;refine⟨_,hs.rd 0 rfl rfl,_,hs.rd 1 rfl rfl,sBe (fun cs=>RP.f (fun hG=>hG.s x (Yb gx) cg cs) hs.ext) (fun cs=>?_)⟩;rotate_left;all_goals
   refine up_loopS (n:=g.he.n) hs (fun k=>∀(j:Nat) (y:Ed),j<k->g.es[j]?=some y->¬PairBad i j x y) (fun j y hj=>by omega) ?_;rintro-k h34 hk ⟨hs,hq2⟩;refine⟨_,hs.rd 1 rfl rfl,sB_intro (fun c2=>?_) (fun c2=>?_)⟩
   .replace c2:=lt_t c2;refine⟨_,hs.rd 1 rfl rfl,?_⟩;refine (hg.e.rw.ext hs.ext).nbI (by omega) (by omega) fun b o y gy ty=>?_;replace gy:g.es[k]?=some y:=gy;refine⟨_,_,_,_,_,_,ty,?_⟩;refine hs.newput (vs:=y.cs) rfl rfl fun h46 hs=>?_
    repeat' (first
       | (refine⟨_,hs.rd 0 rfl rfl,?_⟩)
       | (refine⟨_,hs.rd 1 rfl rfl,?_⟩)
       | (refine⟨_,hs.rd 2 rfl rfl,?_⟩)
       | (refine⟨_,_,_,hs.at 0 rfl (o:=1) (n:=3) rfl,?_⟩)
       | (refine⟨_,_,_,hs.at 1 rfl (o:=1) (n:=3) rfl,?_⟩)
       | (refine sBi (fun _=>?_) (fun _=>?_))
       | (refine sBe (fun _=>?_) (fun _=>?_))
       | (refine sBn (fun _=>?_) (fun _=>?_))
       | (refine sB_intro (fun _=>?_) (fun _=>?_)))
    all_goals first
     | (refine RP.f (fun hG=>hG.p i x gx k y gy ?_) hs.ext;clear hq hq2 hs hg t ty;unfold PairBad;grind)
     | (refine Up.next c2 (by omega) ⟨hs.drop 1,fun j z hj hz=>?_⟩
        by_cases e:j=k
        .subst e;rw[gy] at hz;cases hz;clear hq hq2 hs hg t ty;unfold PairBad;grind
        .exact hq2 j z (by omega) hz)
   .replace c2:g.he.n<=k:=by have:=Yyo c2;omega
    refine Up.next c (by omega) ⟨hs.drop 1,fun j z hj hz=>?_⟩;by_cases e:j=i
    .subst e;rw[gx] at hz;cases hz;exact⟨by grind,fun k' y' hy'=>hq2 k' y' (by have:=(Ya.1 hy').1;omega) hy'⟩
    .exact hq j z (by omega) hz
 .obtain⟨j,hj⟩:=Yf.1 hx;exact (hq j x (by have:=lt_f c;have:=(Ya.1 hj).1;omega) hj).1
 .exact (hq j x (by have:=lt_f c;have:=(Ya.1 hx).1;omega) hx).2
theorem timed68 (g:Gl) (h:Heap) (hg:GI h g) (hN:NumS g):Fn Pz 47 #[g.v] h (RP (TimS g) h):=by
 apply vc47 (bs g.nm) g.hr g.hd g.n g.s g.e g.he g.ht;unfold W47 V47a;have hen:=hg.e.ln;have hem:=hg.e.sm;have htn:=hg.t.ln;have htm:=hg.t.sm;refine (St.refl h).newb fun h9 hs=>?_;refine up_loopS (n:=g.ht.n) hs (fun i=>∀(j:Nat) (x:To),j<i->g.ts[j]?=some x->TmS g j x) (fun j y hj=>by omega) ?_;rintro-i h14 hi ⟨hs,hq⟩;refine⟨_,hs.rd 0 rfl rfl,sB_intro (fun c=>?_) (fun c=>RP.t (fun j x hx=>hq j x (by have:=lt_f c;have:=(Ya.1 hx).1;omega) hx) hs.ext)⟩;replace c:=lt_t c;refine⟨_,hs.rd 0 rfl rfl,?_⟩;refine (hg.t.rw.ext hs.ext).nbI (by omega) (by omega) fun b o x gx t=>?_;replace gx:g.ts[i]?=some x:=gx;have no:∀ {q:Prop},(TmS g i x->q)->TimS g->q:=fun f hT=>f (hT i x gx);refine⟨_,_,_,t,?_⟩;refine hs.newput (vs:=x.cs) rfl rfl fun h23 hs=>?_;refine⟨_,_,_,_,_,_,_,_,hs.at 1 rfl (o:=0) (n:=8) rfl,_,hs.rd 0 rfl rfl,?_⟩;refine (state114 g x.s h23).mono ?_;rintro _ h35 ⟨⟨b1,rfl,hb1⟩,E⟩;have hs:=hs.step E;refine⟨_,rfl,sB_intro (fun c1=>RP.f (no fun hT=>?_) hs.ext) (fun c1=>?_)⟩
 .obtain⟨_,y,hy,hf,_⟩:=hT.e;have:=iff_f hb1 (bF c1);have:=hN.R.es y (Yb hy);omega
 have f1:=hb1.1 (bT c1);refine sBi (fun c2=>?_) (fun c2=>?_);have hw:IntKind.wrap .i64 ((i:Int)-1)=((i-1:Nat):Int):=by rw[w64 (by omega) (by omega)];omega
 refine⟨_,hs.rd 0 rfl rfl,_,hs.rd 1 rfl rfl,?_⟩;rw[hw];refine (hg.t.rw.ext hs.ext).nbI (by omega) (by omega) fun b o z gz tz=>?_;replace gz:g.ts[i-1]?=some z:=gz;have hl:lastS g.ts i=z.s:=by unfold lastS;rw[if_neg (by omega),gz]
 refine⟨_,tz.nth 0 rfl,sBi (fun d0=>RP.f (no fun hT=>by have:=hT.o;omega) hs.ext) (fun d0=>?_)⟩;have ho:lastS g.ts i<x.s:=by omega
 rotate_left;have ho:lastS g.ts i<x.s:=by unfold lastS;rw[if_pos (by omega)];omega
 all_goals
  refine⟨_,hs.rd 0 rfl rfl,sBi (fun d1=>RP.f (no fun hT=>by have:=hT.k;omega) hs.ext) (fun d1=>?_)⟩;refine⟨_,hs.rd 0 rfl rfl,sBi (fun d2=>RP.f (no fun hT=>by have:=hT.k;omega) hs.ext) (fun d2=>?_)⟩;refine⟨_,hs.rd 0 rfl rfl,sBi (fun d3=>RP.f (no fun hT=>by have:=hT.e.1;omega) hs.ext) (fun d3=>?_)⟩;refine⟨_,hs.rd 0 rfl rfl,_,hs.rd 1 rfl rfl,sBi (fun d4=>RP.f (no fun hT=>by obtain⟨_,y,hy,_⟩:=hT.e;have:=(Ya.1 hy).1;omega) hs.ext) (fun d4=>?_)⟩;refine⟨_,hs.rd 1 rfl rfl,_,hs.rd 0 rfl rfl,?_⟩;refine (hg.e.rw.ext hs.ext).nbI (by omega) (by omega) fun b o y gy ty=>?_;refine⟨_,ty.nth 0 rfl,_,hs.rd 0 rfl rfl,sBn (fun d5=>RP.f (no fun hT=>by obtain⟨_,z,hz,hf,_⟩:=hT.e;rw[gy] at hz;cases hz;omega) hs.ext) (fun d5=>⟨_,hs.rd 1 rfl rfl,_,hs.rd 0 rfl rfl,?_⟩)⟩;refine (hg.e.rw.ext hs.ext).nbI (by omega) (by omega) fun b o y2 gy2 ty=>?_;rw[gy] at gy2;cases gy2;refine⟨_,ty.nth 5 rfl,sB_intro (fun d6=>RP.f (no fun hT=>by obtain⟨_,z,hz,_,hf⟩:=hT.e;rw[gy] at hz;cases hz;rw[hf] at d6;cases d6) hs.ext) (fun d6=>?_)⟩;refine Up.next c (by omega) ⟨hs.drop 1,fun j z hj hz=>?_⟩;by_cases e:j=i
  .subst e;rw[gx] at hz;cases hz;exact⟨ho,by omega,by omega,y,gy,by omega,d6⟩
  .exact hq j z (by omega) hz
theorem before159 (g:Gl) (p q:Int) (h:Heap) (hg:GI h g) (hp0:0<=p) (hp1:p<g.es.length) (hq0:0<=q) (hq1:q<g.es.length):Fn Pz 183 #[g.v,.int .i64 p,.int .i64 q] h (RBo h):=by
 apply vc183 (bs g.nm) g.hr g.hd g.n g.s g.e g.he g.ht;unfold W183 V183a;have hen:=hg.e.ln;refine (St.refl h).newb fun h9 hs=>?_;have hrw:=hg.e.rw.ext hs.ext;have hsz:h.size<h9.size:=hc_blk (hs.rd 0 rfl (i:=0) rfl);refine⟨_,hs.rd 0 rfl rfl,?_⟩;refine hrw.nbI (by omega) (by omega) fun b1 o1 x _ t1=>?_;refine⟨_,_,_,t1.sub 1 3 rfl,_,hs.rd 0 rfl rfl,?_⟩;refine hrw.nbI (by omega) (by omega) fun b2 o2 y _ t2=>?_;have hb2:b2<h9.size:=hc_blk t2.hd;refine⟨_,_,_,t2.sub 1 3 rfl,?_,?_⟩
 .intro h22 e22;have E22:Ext h9 h22:=by rw[e22];exact Ext.push _ _
  refine⟨smx E22,?_⟩;have hs:St h h22 [.blk h9.size [.int .i64 0,.int .i64 0,.int .i64 0] 65,.blk h.size g.cs 27]:=hs.newb (K:=fun h22=>St h h22 [.blk h9.size [.int .i64 0,.int .i64 0,.int .i64 0] 65,.blk h.size g.cs 27]) (fun _ hs=>hs) h22 e22;intro h23 e23;have E23:Ext h22 h23:=by rw[e23];exact Ext.push _ _
  refine⟨smx E23,?_⟩;have hs:St h h23 [.blk h22.size [.int .i64 0,.int .i64 0,.int .i64 0] 65,.blk h9.size [.int .i64 0,.int .i64 0,.int .i64 0] 65,.blk h.size g.cs 27]:=hs.newb (K:=fun h23=>St h h23 [.blk h22.size [.int .i64 0,.int .i64 0,.int .i64 0] 65,.blk h9.size [.int .i64 0,.int .i64 0,.int .i64 0] 65,.blk h.size g.cs 27]) (fun _ hs=>hs) h23 e23;obtain⟨k1,k2⟩:=hs.put (K:=fun h'=>St h h' [.blk h22.size [.int .i64 0,.int .i64 0,.int .i64 0] 65,.blk h9.size [.int .i64 x.a,.int .i64 x.b,.int .i64 x.l] 65,.blk h.size g.cs 27]) 1 rfl (o:=0) (vs:=[.int .i64 x.a,.int .i64 x.b,.int .i64 x.l]) (n:=3) rfl (show 3<=3 by decide) (fun h' hs=>hs);refine⟨k1,fun h24 e24=>?_⟩;have hs:=k2 h24 e24;have hB:But h9.size h23 h24:=by rw[e24];exact But.hputs (a:=⟨h9.size,0,none⟩) _ _ _
  refine⟨Sm_but hB (fun a ha=>?_),?_⟩
  .simp only[Yr,List.not_mem_nil,or_false] at ha;rcases ha with rfl | rfl
   .show b2≠h9.size;omega
   .show h.size≠h9.size;omega
  refine hs.put 0 rfl (o:=0) (vs:=[.int .i64 y.a,.int .i64 y.b,.int .i64 y.l]) rfl (show 3<=3 by decide) fun h25 hs=>?_
  repeat' (first
    | exact .mk hs.ext
    | (refine sB_intro (fun _=>?_) (fun _=>?_))
    | (refine⟨_,hs.rd 0 rfl rfl,?_⟩)
    | (refine⟨_,hs.rd 1 rfl rfl,?_⟩))
 .intro h34 e34;have E34:Ext h9 h34:=by rw[e34];exact Ext.push _ _
  refine⟨smx E34,?_⟩;have hs:St h h34 [.blk h9.size [.int .i64 0,.int .i64 0,.int .i64 0] 65,.blk h.size g.cs 27]:=hs.newb (K:=fun h34=>St h h34 [.blk h9.size [.int .i64 0,.int .i64 0,.int .i64 0] 65,.blk h.size g.cs 27]) (fun _ hs=>hs) h34 e34;intro h35 e35;have E35:Ext h34 h35:=by rw[e35];exact Ext.push _ _
  refine⟨smx E35,?_⟩;have hsz34:h9.size<h34.size:=by rw[e34];simp
  have hs:St h h35 [.blk h34.size [.int .i64 0,.int .i64 0,.int .i64 0] 65,.blk h9.size [.int .i64 0,.int .i64 0,.int .i64 0] 65,.blk h.size g.cs 27]:=hs.newb (K:=fun h35=>St h h35 [.blk h34.size [.int .i64 0,.int .i64 0,.int .i64 0] 65,.blk h9.size [.int .i64 0,.int .i64 0,.int .i64 0] 65,.blk h.size g.cs 27]) (fun _ hs=>hs) h35 e35;obtain⟨k1,k2⟩:=hs.put (K:=fun h'=>St h h' [.blk h34.size [.int .i64 x.a,.int .i64 x.b,.int .i64 x.l] 65,.blk h9.size [.int .i64 0,.int .i64 0,.int .i64 0] 65,.blk h.size g.cs 27]) 0 rfl (o:=0) (vs:=[.int .i64 x.a,.int .i64 x.b,.int .i64 x.l]) (n:=3) rfl (show 3<=3 by decide) (fun h' hs=>hs);refine⟨k1,fun h36 e36=>?_⟩;have hs:=k2 h36 e36;have hB:But h34.size h35 h36:=by rw[e36];exact But.hputs (a:=⟨h34.size,0,none⟩) _ _ _
  refine⟨Sm_but hB (fun a ha=>?_),?_⟩
  .simp only[Yr,List.not_mem_nil,or_false] at ha;rcases ha with rfl | rfl
   .show b2≠h34.size;omega
   .show h.size≠h34.size;omega
  refine hs.put 1 rfl (o:=0) (vs:=[.int .i64 y.a,.int .i64 y.b,.int .i64 y.l]) rfl (show 3<=3 by decide) fun h37 hs=>?_
  repeat' (first
    | exact .mk hs.ext
    | (refine sB_intro (fun _=>?_) (fun _=>?_))
    | (refine⟨_,hs.rd 0 rfl rfl,?_⟩)
    | (refine⟨_,hs.rd 1 rfl rfl,?_⟩))
theorem intrw {h:Heap} {s:Sl} {L:List Int} (hr:Rw h 1 s (L.map inC)) (hc:s.n<=s.c) {i:Nat} (hi:i<=s.n):Rw h 1 ⟨subA s.a i s.c 1,s.n-i,s.c-i⟩ ((L.drop i).map inC):=by
 have hn:=hr.ln;rw[List.map_drop];by_cases h0:i=s.n
 .rw[List.drop_eq_nil_of_le (by rw[Yc];omega)];exact Rw.empty (by show s.n-i=0;omega)
 .exact hr.from hc (by omega)
theorem subA_nil {s:Sl} {i:Nat} (hna:s.a=none->s.n=0/\s.c=0) (h:subA s.a i s.c 1=none):s.n-i=0/\s.c-i=0:=by
 unfold subA at h;split at h
 .have:=hna h;omega
 .cases ha:s.a with
  | none=>have:=hna ha;omega
  | some a=>rw[ha] at h;cases h
def LOk (g:Gl) (p:Int) (i:Nat) (L:List Int):Prop:=(∀y∈L,0<=y/\y<g.es.length)/\(L=[] ↔ ∀(j:Nat) (x:Ed),j<i->g.es[j]?=some x->x.f≠p)
theorem edges116 (g:Gl) (p:Int) (h:Heap) (hg:GI h g):Fn Pz 105 #[g.v,.int .i64 p] h fun v h'=>(∃s:Sl,v=.slice s.a s.n s.c/\(s.n=0 ↔ ∀x∈g.es,x.f≠p))/\Ext h h':=by
 apply vc105 (bs g.nm) g.hr g.hd g.n g.s g.e g.he g.ht;unfold W105 V105a;have hen:=hg.e.ln;have hem:=hg.e.sm;refine (St.refl h).newb fun h9 hs=>?_;have hs:=hs.nil_ 3 1;refine⟨fun out x h' m=>∃(i:Nat) (L:List Int),x=i/\i<=g.he.n/\m=g.he.n-i/\L.length<=i/\LOk g p i L/\St h h' [.sl out 3 1 (L.map inC),.blk h.size g.cs 27],
  ⟨_,0,[],rfl,by omega,rfl,Yyt _,⟨(fun y hy=>by cases hy),iff_of_true rfl fun j x hj=>by omega⟩,hs⟩,?_⟩
 rintro-out _ h15 m ⟨i,L,rfl,hi,rfl,hLl,hL,hs⟩;refine⟨_,hs.rd 1 rfl rfl,sB_intro (fun c=>?_) (fun c=>⟨⟨_,rfl,?_⟩,hs.ext⟩)⟩;rotate_left
 .replace c:=lt_f c;have hol:=hs.len 0 rfl (by omega);rw[Yc] at hol;have hLe:out.n=0 ↔ L=[]:=by rw[<-List.length_eq_zero_iff];omega
  rw[hLe,hL.2];exact⟨fun hq x hx=>by obtain⟨j,hj⟩:=Yf.1 hx;exact hq j x (by have:=(Ya.1 hj).1;omega) hj,fun hq j x _ hj=>hq x (Yb hj)⟩
 replace c:=lt_t c;refine⟨_,hs.rd 1 rfl rfl,?_⟩;refine (hg.e.rw.ext hs.ext).nbI (by omega) (by omega) fun b18 o19 x gx t=>?_;replace gx:g.es[i]?=some x:=gx;refine⟨_,t.nth 0 rfl,sBn (fun cf=>?_) (fun cf=>?_)⟩
 .refine⟨_,by omega,i+1,L,by rw[w64 (by omega) (by omega)];omega,by omega,rfl,by omega,⟨hL.1,hL.2.trans ⟨fun hq j y hj hy=>?_,fun hq j y hj hy=>hq j y (by omega) hy⟩⟩,hs⟩;by_cases e:j=i
  .subst e;rw[gx] at hy;cases hy;exact cf
  .exact hq j y (by omega) hy
 have hol:=hs.len 0 rfl (by omega);rw[Yc] at hol
 have ins:∀(a:Nat) (h40:Heap),a<=out.n->St h h40 [.sl out 3 1 (L.map inC),.blk h.size g.cs 27]->∀h42:Heap,h42=h40.push (.cells ⟨[.int .i64 i]⟩ 3) ->
   App Pz 102 102 (.slice (some ⟨h40.size,0,none⟩) 1 1) (.slice (subA out.a a out.c 1) (out.n-a) (out.c-a)) h42 fun s43 h44=>
    App Pz 102 102 (.slice out.a a out.c) (.slice s43.a s43.n s43.c) h44 fun s45 h46=>∃m47,m47<g.he.n-i/\(∃(i':Nat) (L:List Int),IntKind.wrap .i64 ((i:Int)+1)=i'/\i'<=g.he.n/\m47=g.he.n-i'/\L.length<=i'/\LOk g p i' L/\St h h46 [.sl s45 3 1 (L.map inC),.blk h.size g.cs 27]):=by
  intro a h40 ha hs;refine hs.newb fun h42 hs=>?_;have hs2:=hs.blkS 1 1 ([(i:Int)].map inC) rfl (inrows _) rfl (by decide);refine hs2.appRw 0 rfl app42 (y:=⟨subA out.a a out.c 1,out.n-a,out.c-a⟩) (intrw (hs2.rows 1 rfl (by omega)) hol.2.1 ha) (inrows _) (fun hn=>subA_nil hol.2.2 hn) (by rw[List.all_eq_true];intro v hv;obtain⟨r,hr,hv2⟩:=List.mem_flatten.1 hv;obtain⟨z,_,rfl⟩:=Yp.1 hr;rw[Ye.1 hv2];rfl) (by show (1+(out.n-a))*8<=_;omega) (by show 1+(out.n-a)<=9223372036854775807;omega) fun s43 h44 hn43 hs=>?_;replace hs:St h h44 [.sl s43 3 1 (((i:Int)::L.drop a).map inC),.sl out 3 1 (L.map inC),.blk h.size g.cs 27]:=hs;have hcut:=hs.cut 1 rfl (by omega) a ha;rw[<-List.map_take] at hcut;replace hcut:St h h44 [.sl s43 3 1 (((i:Int)::L.drop a).map inC),.sl ⟨out.a,a,out.c⟩ 3 1 ((L.take a).map inC),.blk h.size g.cs 27]:=hcut;have h43:=hcut.len 0 rfl (by omega);refine hcut.appRw 1 rfl app42 (hcut.rows 0 rfl (by omega)) (inrows _) h43.2.2 (by rw[List.all_eq_true];intro v hv;obtain⟨r,hr,hv2⟩:=List.mem_flatten.1 hv;obtain⟨z,_,rfl⟩:=Yp.1 hr;rw[Ye.1 hv2];rfl) (by show (a+s43.n)*8<=_;rw[hn43];show (a+(1+(out.n-a)))*8<=_;omega) (by show a+s43.n<=9223372036854775807;rw[hn43];show a+(1+(out.n-a))<=_;omega) fun s45 h46 hn45 hs=>?_;replace hs:St h h46 [.sl s43 3 1 (((i:Int)::L.drop a).map inC),.sl s45 3 1 ((L.take a).map inC++((i:Int)::L.drop a).map inC),.blk h.size g.cs 27]:=hs;rw[<-Ym] at hs;refine⟨g.he.n-(i+1),by omega,i+1,L.take a++((i:Int)::L.drop a),by rw[w64 (by omega) (by omega)];omega,by omega,rfl,?_,⟨fun y hy=>?_,iff_of_false (by simp) fun hq=>hq i x (by omega) gx cf⟩,hs.drop 1⟩
  .rw[Yh,Yyj,Yu,List.length_drop];omega
  .rcases Yk.1 hy with hy | hy
   .exact hL.1 y (List.mem_of_mem_take hy)
   .rcases Yr.1 hy with rfl | hy
    .omega
    .exact hL.1 y (List.mem_of_mem_drop hy)
 refine up_loopS (n:=out.n) hs (fun _=>True) trivial ?_;rintro-a h26 ha ⟨hs,-⟩;have ht1:Int.toNat ((a:Nat):Int)=a:=by simp
 have ht2:Int.toNat ((out.n:Nat):Int)=out.n:=by simp
 refine sB_intro (fun c1=>?_) (fun c1=>?_)
 .replace c1:=lt_t c1;refine⟨_,_,_,_,_,_,_,_,hs.at 1 rfl (o:=0) (n:=8) rfl,?_⟩;refine (hs.rows 0 rfl (by omega)).nbI (by omega) (by omega) fun b35 o36 y gy ty=>?_;have hy:=hL.1 y (Yb gy);refine⟨_,ty.nth 0 rfl,?_⟩;refine (before159 g y i h26 (hg.ext hs.ext) hy.1 hy.2 (by omega) (by omega)).mono ?_;rintro _ h40 ⟨⟨bb,rfl⟩,E⟩;have hs:=hs.step E;refine⟨_,rfl,sB_intro (fun _=>Up.next c1 (by omega) ⟨hs,trivial⟩) (fun _=>?_)⟩;refine⟨⟨by omega,by omega,by omega⟩,⟨by omega,by omega,by omega⟩,?_⟩;rw[ht1,ht2,show Int.toNat 0=0 from rfl,subA_zero,Nat.sub_zero,Nat.sub_zero];exact ins a h40 (by omega) hs
 .replace c1:=lt_f c1;refine⟨⟨by omega,by omega,by omega⟩,⟨by omega,by omega,by omega⟩,?_⟩;rw[ht1,ht2,show Int.toNat 0=0 from rfl,subA_zero,Nat.sub_zero,Nat.sub_zero];exact ins a h26 (by omega) hs
end Go.VC
end

section
namespace Go.VC
structure EN (es:List Ed) (e:Int) (N n:Nat) (D:List Int):Prop where
 len:D.length=N
 src:Vis D e
 r:∀v,Vis D v->Rch es true e v
 b:∀d∈D,-1<=d/\d+D.count (-1)<=(N:Int)-1
 c:∀x∈es,∀d,0<=x.t->D[x.t.toNat]?=some d->0<=d->d<n->Vis D x.f
def ENk (es:List Ed) (n k:Nat) (D:List Int):Prop:=∀(j:Nat) (y:Ed),j<k->es[j]?=some y->0<=y.t->D[y.t.toNat]?=some (n:Int)->Vis D y.f
theorem count_rep (N:Nat):(List.replicate N (-1:Int)).count (-1)=N:=by rw[List.count_replicate,if_pos (by simp)]
theorem EN.start {es:List Ed} {e:Int} {N:Nat} (h0:0<=e) (h1:e<N):EN es e N 0 ((List.replicate N (-1:Int)).set e.toNat 0):=by
 have hl:e<(List.replicate N (-1:Int)).length:=by rw[Yg];exact h1
 have hv:∀v,Vis ((List.replicate N (-1:Int)).set e.toNat 0) v ↔ v=e:=fun v=>by
  rw[vis_set h0 hl (by omega)];refine⟨fun h=>h.elim id fun h=>?_,.inl⟩;obtain⟨_,d,hd,h2⟩:=h;have:=List.eq_of_mem_replicate (Yb hd);omega
 have hc:((List.replicate N (-1:Int)).set e.toNat 0).count (-1)+1=N:=by
  rw[List.count_set (by rw[Yg];omega),count_rep,List.getElem_replicate];simp;omega
 refine⟨by rw[Yyh,Yg],(hv e).2 rfl,fun v h=>?_,fun d hd=>?_,fun x _ d _ _ hd0 hd1=>by omega⟩
 .rw[(hv v).1 h];exact .refl
 .rcases List.mem_or_eq_of_mem_set hd with hd | rfl
  .rw[List.eq_of_mem_replicate hd];omega
  .omega
theorem EN.set {es:List Ed} {e:Int} {N n k:Nat} {D:List Int} (h:EN es e N n D) (hk:ENk es n k D) {x:Ed} (hx:es[k]?=some x) {d:Int} (ht0:0<=x.t) (ht:D[x.t.toNat]?=some (n:Int)) (hf0:0<=x.f) (hf:D[x.f.toNat]?=some d) (hd:d<0) :
  EN es e N n (D.set x.f.toNat (n+1))/\ENk es n (k+1) (D.set x.f.toNat (n+1)):=by
 have hfl:=(Ya.1 hf).1;have hfe:=(Ya.1 hf).2;have hd1:d=-1:=by have:=(h.b d (Yb hf)).1;omega
 subst hd1;have hvs:∀v,Vis (D.set x.f.toNat (n+1)) v ↔ v=x.f\/Vis D v:=fun v=>vis_set hf0 (by omega) (by omega);have hpos:0<D.count (-1):=List.count_pos_iff.2 (Yb hf);have hcnt:(D.set x.f.toNat ((n:Int)+1)).count (-1)+1=D.count (-1):=by
  rw[List.count_set hfl,hfe];have:(((n:Int)+1)==(-1:Int))=false:=by simp;omega
  rw[this];simp;omega
 have hub:=(h.b n (Yb ht)).2;have hne:∀ {y:Int} {d:Int},0<=y->(D.set x.f.toNat ((n:Int)+1))[y.toNat]?=some d->d<=n->D[y.toNat]?=some d:=fun {y d} hy hg hle=>by
  by_cases e:y.toNat=x.f.toNat
  .rw[e,Yq hfl] at hg;cases hg;omega
  .rwa [Yy (by omega)] at hg
 refine⟨⟨by rw[Yyh];exact h.len,(hvs e).2 (.inr h.src),fun v hv=>?_,fun d hd=>?_,fun y hy d h0 hg hd0 hd1=>?_⟩,fun j y hj hy h0 hg=>?_⟩
 .rcases (hvs v).1 hv with rfl | hv
  .exact (h.r x.t ⟨ht0,_,ht,by omega⟩).step ⟨x,Yb hx,rfl,rfl⟩
  .exact h.r v hv
 .rcases List.mem_or_eq_of_mem_set hd with hd | rfl
  .have:=h.b d hd;omega
  .omega
 .exact (hvs y.f).2 (.inr (h.c y hy d h0 (hne h0 hg (by omega)) hd0 hd1))
 .by_cases e:j=k
  .subst e;rw[hx] at hy;cases hy;exact (hvs x.f).2 (.inl rfl)
  .exact (hvs y.f).2 (.inr (hk j y (by omega) hy h0 (hne h0 hg (by omega))))
theorem ENk.skip {es:List Ed} {n k:Nat} {D:List Int} (hk:ENk es n k D) {x:Ed} (hx:es[k]?=some x) (h:0<=x.t->D[x.t.toNat]?=some (n:Int)->Vis D x.f):ENk es n (k+1) D:=fun j y hj hy h0 hg=>by
 by_cases e:j=k
 .subst e;rw[hx] at hy;cases hy;exact h h0 hg
 .exact hk j y (by omega) hy h0 hg
theorem EN.next {es:List Ed} {e:Int} {N n k:Nat} {D:List Int} (h:EN es e N n D) (hk:ENk es n k D) (hl:es.length<=k):EN es e N (n+1) D:=
 ⟨h.len,h.src,h.r,h.b,fun x hx d h0 hg hd0 hd1=>by
  obtain⟨j,hj⟩:=Yf.1 hx;by_cases hd:d=n
  .subst hd;exact hk j x (by have:=(Ya.1 hj).1;omega) hj h0 hg
  .exact h.c x hx d h0 hg hd0 (by omega)⟩
theorem EN.end_ {es:List Ed} {e:Int} {N:Nat} {D:List Int} (h:EN es e N N D) (v:Int):Vis D v ↔ Rch es true e v:=by
 refine⟨h.r v,fun hr=>?_⟩
 induction hr with
 | refl=>exact h.src
 | step _ hbc ih=>
  obtain⟨x,hx,h1,h2⟩:=hbc;obtain⟨h0,d,hd,hd0⟩:=ih;have hb:=(h.b d (Yb hd)).2;have h1':x.t=_:=h1;have h2':x.f=_:=h2;rw[<-h2'];rw[<-h1'] at hd h0;exact h.c x hx d h0 hd hd0 (by omega)
def VB (R:List Bool) (v:Int):Prop:=0<=v/\R[v.toNat]?=some true
def ClB (es:List Ed) (k:Nat) (R:List Bool):Prop:=∀(j:Nat) (y:Ed),j<k->es[j]?=some y->VB R y.f->VB R y.t
structure RE (es:List Ed) (s:Int) (N:Nat) (R:List Bool):Prop where
 len:R.length=N
 src:VB R s
 r:∀v,VB R v->Rch es false s v
def RN (es:List Ed) (n k:Nat) (R:List Bool):Prop:=ClB es es.length R\/(n+1<=R.count true/\(ClB es k R\/n+2<=R.count true))
theorem vb_set {R:List Bool} {b v:Int} (hb0:0<=b) (hb:b.toNat<R.length):VB (R.set b.toNat true) v ↔ v=b\/VB R v:=by
 unfold VB;constructor
 .rintro⟨h0,h1⟩;by_cases e:v=b
  .exact .inl e
  .rw[Yy (by omega)] at h1;exact .inr ⟨h0,h1⟩
 .rintro (rfl | ⟨h0,h1⟩)
  .exact⟨hb0,by rw[Yq hb]⟩
  .by_cases e:v=b
   .subst e;exact⟨hb0,by rw[Yq hb]⟩
   .exact⟨h0,by rw[Yy (by omega)];exact h1⟩
theorem RE.start {es:List Ed} {s:Int} {N:Nat} (h0:0<=s) (h1:s<N):RE es s N ((List.replicate N false).set s.toNat true)/\RN es 0 0 ((List.replicate N false).set s.toNat true):=by
 have hv:∀v,VB ((List.replicate N false).set s.toNat true) v ↔ v=s:=fun v=>by
  rw[vb_set h0 (by rw[Yg];omega)];refine⟨fun h=>h.elim id fun h=>?_,.inl⟩;have:=List.eq_of_mem_replicate (Yb h.2);cases this
 refine⟨⟨by rw[Yyh,Yg],(hv s).2 rfl,fun v h=>by rw[(hv v).1 h];exact .refl⟩,.inr ⟨?_,.inl fun j y hj=>by omega⟩⟩;exact List.count_pos_iff.2 (Yb (i:=s.toNat) (by rw[Yq (by rw[Yg];omega)]))
theorem RE.set {es:List Ed} {s:Int} {N n k:Nat} {R:List Bool} (h:RE es s N R) (hn:RN es n k R) {x:Ed} (hx:es[k]?=some x) (ht0:0<=x.t) (ht:R[x.t.toNat]?=some false) (hf0:0<=x.f) (hf:R[x.f.toNat]?=some true) :
  RE es s N (R.set x.t.toNat true)/\RN es n (k+1) (R.set x.t.toNat true):=by
 have htl:=(Ya.1 ht).1;have hte:=(Ya.1 ht).2;have hvs:∀v,VB (R.set x.t.toNat true) v ↔ v=x.t\/VB R v:=fun v=>vb_set ht0 htl;have hcnt:(R.set x.t.toNat true).count true=R.count true+1:=by
  rw[List.count_set htl,hte];simp
 refine⟨⟨by rw[Yyh];exact h.len,(hvs s).2 (.inr h.src),fun v hv=>?_⟩,?_⟩
 .rcases (hvs v).1 hv with rfl | hv
  .exact (h.r x.f ⟨hf0,hf⟩).step ⟨x,Yb hx,rfl,rfl⟩
  .exact h.r v hv
 .rcases hn with hn | ⟨h1,_⟩
  .have:=hn k x (Ya.1 hx).1 hx ⟨hf0,hf⟩;rw[this.2] at ht;cases ht
  .exact .inr ⟨by omega,.inr (by omega)⟩
theorem RN.skip {es:List Ed} {n k:Nat} {R:List Bool} (hn:RN es n k R) {x:Ed} (hx:es[k]?=some x) (h:VB R x.f->VB R x.t):RN es n (k+1) R:=by
 rcases hn with hn | ⟨h1,h2⟩
 .exact .inl hn
 .refine .inr ⟨h1,h2.imp_left fun hc j y hj hy hv=>?_⟩;by_cases e:j=k
  .subst e;rw[hx] at hy;cases hy;exact h hv
  .exact hc j y (by omega) hy hv
theorem RN.next {es:List Ed} {n k:Nat} {R:List Bool} (hn:RN es n k R) (hl:es.length<=k):RN es (n+1) 0 R:=by
 rcases hn with hn | ⟨h1,h2 | h2⟩
 .exact .inl hn
 .exact .inl fun j y hj hy=>h2 j y (by omega) hy
 .exact .inr ⟨by omega,.inl fun j y hj=>by omega⟩
theorem RE.end_ {es:List Ed} {s:Int} {N:Nat} {R:List Bool} (h:RE es s N R) (hn:RN es N 0 R) (v:Int):VB R v ↔ Rch es false s v:=by
 refine⟨h.r v,fun hr=>?_⟩;have hc:ClB es es.length R:=by
  rcases hn with hn | ⟨h1,_⟩
  .exact hn
  .have:=h.len;have:R.count true<=R.length:=List.count_le_length;omega
 induction hr with
 | refl=>exact h.src
 | step _ hbc ih=>
  obtain⟨x,hx,h1,h2⟩:=hbc;obtain⟨j,hj⟩:=Yf.1 hx;have h1':x.f=_:=h1;have h2':x.t=_:=h2;rw[<-h2'];exact hc j x (Ya.1 hj).1 hj (by rw[h1'];exact ih)
end Go.VC
end

section
namespace Go.VC
open Go.Proofs Go.LexS
theorem ints_set {L:List Int} {i:Nat} (h:i<L.length) (y:Int):splice (L.map (Value.int .i64)) i [.int .i64 y]=(L.set i y).map (Value.int .i64):=by
 rw[splice_set (by rw[Yc];exact h),List.map_set]
theorem bools_set {L:List Bool} {i:Nat} (h:i<L.length) (y:Bool):splice (L.map Value.bool) i [.bool y]=(L.set i y).map Value.bool:=by
 rw[splice_set (by rw[Yc];exact h),List.map_set]
theorem ints_flat:∀L:List Int,L.map (Value.int .i64)=(L.map inC).flatten
 | []=>rfl
 | a::L=>by rw[Yyl,Yyl,Yyu,ints_flat L];rfl
theorem made3I (n:Nat):madeL Pz 3 n=(List.replicate n (0:Int)).map (Value.int .i64):=by rw[made3,List.map_replicate]
theorem at_ints {L:List Int} {i:Nat} (h:i<L.length):∃y,(L.map (Value.int .i64))[i]?=some (.int .i64 y)/\L[i]?=some y:=⟨L[i],by rw[Yd,Yi h];rfl,Yi h⟩
theorem at_bools {L:List Bool} {i:Nat} (h:i<L.length):∃y,(L.map Value.bool)[i]?=some (.bool y)/\L[i]?=some y:=⟨L[i],by rw[Yd,Yi h];rfl,Yi h⟩
theorem ends115 (g:Gl) (h:Heap) (hg:GI h g) (hN:NumR g):Fn Pz 104 #[g.v] h fun v h'=>Ext h h'/\∃(s:Sl) (L:List Int),v=.slice s.a s.n s.c/\Rw h' 1 s (L.map inC)/\L.length=g.n.toNat/\∀v,Vis L v ↔ Rch g.es true g.e v:=by
 apply vc104 (bs g.nm) g.hr g.hd g.n g.s g.e g.he g.ht;unfold W104;have hen:=hg.e.ln;have hem:=hg.e.sm;obtain⟨N,hNn⟩:∃N:Nat,g.n=N:=⟨g.n.toNat,by have:=hN.n;omega⟩;have hn1:=hN.n;have hE:=hN.e;have htN:g.n.toNat=N:=by omega
 refine (St.refl h).newb fun h9 hs=>?_;refine⟨_,hs.rd 0 rfl rfl,⟨by omega,by omega,by omega⟩,?_⟩;rw[made3I];refine hs.newb fun h11 hs=>?_;refine⟨fun x h' m=>∃(i:Nat) (L:List Int),x=i/\i<=N/\m=N-i/\(L.length=N/\∀(j:Nat),j<i->L[j]?=some (-1))/\St h h' [.blk h9.size (L.map (Value.int .i64)) 3,.blk h.size g.cs 27],⟨_,0,_,rfl,by omega,rfl,⟨by rw[Yg];exact htN,fun j hj=>by omega⟩,hs⟩,?_⟩;rintro-_ h16 m ⟨i,L,rfl,hi,rfl,⟨hL,hLv⟩,hs⟩;refine⟨_,hs.rd 1 rfl rfl,sB_intro (fun c=>?_) (fun c0=>?_)⟩
 .replace c:=Yyn c;refine⟨⟨by omega,by omega⟩,?_⟩;rw[show 0+Int.toNat (i:Int)*1=i by simp];refine hs.put 0 rfl (o:=i) (vs:=[.int .i64 (-1)]) rfl (by rw[Yc];show i+1<=_;omega) fun h18 hs=>?_;rw[ints_set (by omega)] at hs;refine⟨_,by omega,i+1,L.set i (-1),by rw[w64 (by omega) (by omega)];omega,by omega,rfl,⟨by rw[Yyh];exact hL,fun j hj=>?_⟩,hs⟩;by_cases e:j=i
  .subst e;rw[Yq (by omega)]
  .rw[Yy (by omega)];exact hLv j (by omega)
 replace c0:=Yyo c0;have hLr:L=List.replicate N (-1):=Yyr fun j=>by
  by_cases hj:j<N
  .rw[hLv j (by omega),List.getElem?_replicate,if_pos hj]
  .rw[Yl (by omega),List.getElem?_replicate,if_neg hj]
 subst hLr;refine⟨_,hs.rd 1 rfl rfl,⟨by omega,by omega⟩,?_⟩;obtain⟨e,he⟩:∃e:Nat,g.e=e:=⟨g.e.toNat,by omega⟩;rw[he,show 0+Int.toNat (e:Int)*1=e by simp];refine hs.put 0 rfl (o:=e) (vs:=[.int .i64 0]) rfl (by rw[Yc];show e+1<=_;omega) fun h21 hs=>?_;rw[ints_set (by omega)] at hs;refine⟨fun x h' m=>∃(i:Nat) (L:List Int),x=i/\i<=N/\m=N-i/\EN g.es g.e N i L/\St h h' [.blk h9.size (L.map (Value.int .i64)) 3,.blk h.size g.cs 27],⟨_,0,_,rfl,by omega,rfl,?_,hs⟩,?_⟩
 .have:=EN.start (es:=g.es) (e:=g.e) (N:=N) (by omega) (by omega);rw[he] at this ⊢;exact this
 rintro-_ h26 m ⟨n,L2q,rfl,hn,rfl,en2,hs⟩;have hL2:=en2.len;refine⟨_,hs.rd 1 rfl rfl,sB_intro (fun c=>?_) (fun cE=>?_)⟩
 .replace c:=Yyn c;refine⟨fun x h' m=>∃(i:Nat) (L:List Int),x=i/\i<=g.he.n/\m=g.he.n-i/\(EN g.es g.e N n L/\ENk g.es n i L)/\St h h' [.blk h9.size (L.map (Value.int .i64)) 3,.blk h.size g.cs 27],⟨_,0,L2q,rfl,by omega,rfl,⟨en2,fun j y hj=>by omega⟩,hs⟩,?_⟩;rintro-_ h32 m ⟨k,L3,rfl,hk,rfl,⟨en3,ek⟩,hs⟩;have hL3:=en3.len;refine⟨_,hs.rd 1 rfl rfl,sB_intro (fun c2=>?_) (fun c2=>⟨_,by omega,n+1,L3,by rw[w64 (by omega) (by omega)];omega,by omega,rfl,en3.next ek (by have:=lt_f c2;omega),hs⟩)⟩;replace c2:=lt_t c2;refine⟨_,hs.rd 1 rfl rfl,?_⟩;refine (hg.e.rw.ext hs.ext).nbI (by omega) (by omega) fun b o x gx t=>?_;replace gx:g.es[k]?=some x:=gx;have hx:=hN.es x (Yb gx);obtain⟨xt,hxt⟩:∃a:Nat,x.t=a:=⟨x.t.toNat,by omega⟩;obtain⟨xf,hxf⟩:∃a:Nat,x.f=a:=⟨x.f.toNat,by omega⟩;refine⟨_,_,_,_,_,_,t,?_⟩;refine hs.newput (vs:=x.cs) rfl rfl fun h44 hs=>?_;obtain⟨y1,hy1,hz1⟩:=at_ints (L:=L3) (i:=xt) (by omega);obtain⟨y2,hy2,hz2⟩:=at_ints (L:=L3) (i:=xf) (by omega);have htt:x.t.toNat=xt:=by omega
  have htf:x.f.toNat=xf:=by omega
  have nxt:∀ {h':Heap} {L4:List Int},(EN g.es g.e N n L4/\ENk g.es n (k+1) L4)->St h h' [.blk h9.size (L4.map (Value.int .i64)) 3,.blk h.size g.cs 27]->∃m53,m53<g.he.n-k/\∃(i:Nat) (L:List Int),IntKind.wrap .i64 ((k:Int)+1)=i/\i<=g.he.n/\m53=g.he.n-i/\(EN g.es g.e N n L/\ENk g.es n i L)/\St h h' [.blk h9.size (L.map (Value.int .i64)) 3,.blk h.size g.cs 27]:=fun h4 hs=>
   ⟨_,by omega,k+1,_,by rw[w64 (by omega) (by omega)];omega,by omega,rfl,h4,hs⟩
  refine⟨x.t,hs.rd 0 rfl rfl,⟨by omega,by omega⟩,?_⟩;rw[hxt,show 0+Int.toNat (xt:Int)*1=xt by simp];refine⟨y1,hs.rd 1 rfl hy1,sBe (fun e1=>?_) (fun e1=>nxt ⟨en3,ek.skip gx fun _ hg1=>by rw[htt,hz1] at hg1;cases hg1;exact absurd rfl e1⟩ (hs.drop 1))⟩;refine⟨x.f,hs.rd 0 rfl rfl,⟨by omega,by omega⟩,?_⟩;rw[hxf,show 0+Int.toNat (xf:Int)*1=xf by simp];refine⟨y2,hs.rd 1 rfl hy2,sBi (fun e2=>?_) (fun e2=>nxt ⟨en3,ek.skip gx fun _ _=>⟨by omega,y2,by rw[htf];exact hz2,by omega⟩⟩ (hs.drop 1))⟩;refine⟨x.f,hs.rd 0 rfl rfl,⟨by omega,by omega⟩,?_⟩;rw[hxf,show 0+Int.toNat (xf:Int)*1=xf by simp];refine hs.put 1 rfl (o:=xf) (vs:=[.int .i64 (IntKind.wrap .i64 ((n:Int)+1))]) rfl (by rw[Yc];show xf+1<=_;omega) fun h50 hs=>?_;rw[ints_set (by omega)] at hs;rw[show IntKind.wrap .i64 ((n:Int)+1)=(n:Int)+1 from w64 (by omega) (by omega)] at hs;refine nxt ?_ (hs.drop 1);have:=en3.set ek gx (by omega) (by rw[htt,hz1,e1]) (by omega) (by rw[htf];exact hz2) e2;rw[htf] at this;exact this
 .have hfl:=ints_flat L2q;rw[htN];have hs2:=hs.blkS N 1 (L2q.map inC) hfl (inrows _) (by rw[Yc];exact hL2) (by show N<=9223372036854775807;omega);have hnN:n=N:=by have:=Yyo cE;omega
  have en3:EN g.es g.e N N L2q:=by rw[hnN] at en2;exact en2
  exact⟨hs.ext,⟨some ⟨h9.size,0,none⟩,N,N⟩,L2q,rfl,hs2.rows 0 rfl (by omega),hL2,fun v=>by rw[<-he];exact en3.end_ v⟩
theorem made4l (n:Nat):madeL Pz 4 n=(List.replicate n false).map Value.bool:=made4 n
structure ConS (g:Gl):Prop where
 f:∀v:Int,0<=v->v<g.n->Rch g.es false g.s v
 b:∀v:Int,0<=v->v<g.n->Rch g.es true g.e v
 e:∀x∈g.es,x.f≠g.e
theorem connected67 (g:Gl) (h:Heap) (hg:GI h g) (hN:NumR g):Fn Pz 46 #[g.v] h (RP (ConS g) h):=by
 apply vc46 (bs g.nm) g.hr g.hd g.n g.s g.e g.he g.ht;unfold W46;have hen:=hg.e.ln;have hem:=hg.e.sm;obtain⟨N,hNn⟩:∃N:Nat,g.n=N:=⟨g.n.toNat,by have:=hN.n;omega⟩;have hn1:=hN.n;have hS:=hN.s;have htN:g.n.toNat=N:=by omega
 refine (St.refl h).newb fun h9 hs=>?_;refine⟨_,hs.rd 0 rfl rfl,⟨by omega,by omega,by omega⟩,?_⟩;rw[made4l];refine hs.newb fun h11 hs=>?_;refine⟨_,hs.rd 1 rfl rfl,⟨by omega,by omega⟩,?_⟩;obtain⟨s0,hs0⟩:∃e:Nat,g.s=e:=⟨g.s.toNat,by omega⟩;rw[hs0,show 0+Int.toNat (s0:Int)*1=s0 by simp];refine hs.put 0 rfl (o:=s0) (vs:=[.bool true]) rfl (by rw[Yc,Yg];show s0+1<=_;omega) fun h13 hs=>?_;rw[bools_set (by rw[Yg];omega)] at hs;refine⟨fun x h' m=>∃(i:Nat) (L:List Bool),x=i/\i<=N/\m=N-i/\(RE g.es g.s N L/\RN g.es i 0 L)/\St h h' [.blk h9.size (L.map Value.bool) 4,.blk h.size g.cs 27],⟨_,0,_,rfl,by omega,rfl,?_,hs⟩,?_⟩
 .have:=RE.start (es:=g.es) (s:=g.s) (N:=N) (by omega) (by omega);rw[htN];rw[hs0] at this ⊢;exact this
 rintro-_ h18 m ⟨n,L,rfl,hn,rfl,⟨re1,rn1⟩,hs⟩;have hL:=re1.len;refine⟨_,hs.rd 1 rfl rfl,sB_intro (fun c=>?_) (fun cE=>?_)⟩
 .replace c:=Yyn c;refine⟨fun x h' m=>∃(i:Nat) (L:List Bool),x=i/\i<=g.he.n/\m=g.he.n-i/\(RE g.es g.s N L/\RN g.es n i L)/\St h h' [.blk h9.size (L.map Value.bool) 4,.blk h.size g.cs 27],⟨_,0,L,rfl,by omega,rfl,⟨re1,rn1⟩,hs⟩,?_⟩;rintro-_ h24 m ⟨k,L3,rfl,hk,rfl,⟨re3,rn3⟩,hs⟩;have hL3:=re3.len;refine⟨_,hs.rd 1 rfl rfl,sB_intro (fun c2=>?_) (fun c2=>⟨_,by omega,n+1,L3,by rw[w64 (by omega) (by omega)];omega,by omega,rfl,⟨re3,rn3.next (by have:=lt_f c2;omega)⟩,hs⟩)⟩;replace c2:=lt_t c2;have nxt:∀ {h':Heap} {L4:List Bool},(RE g.es g.s N L4/\RN g.es n (k+1) L4)->St h h' [.blk h9.size (L4.map Value.bool) 4,.blk h.size g.cs 27]->∃m53,m53<g.he.n-k/\∃(i:Nat) (L:List Bool),IntKind.wrap .i64 ((k:Int)+1)=i/\i<=g.he.n/\m53=g.he.n-i/\(RE g.es g.s N L/\RN g.es n i L)/\St h h' [.blk h9.size (L.map Value.bool) 4,.blk h.size g.cs 27]:=fun h4 hs=>
   ⟨_,by omega,k+1,_,by rw[w64 (by omega) (by omega)];omega,by omega,rfl,h4,hs⟩
  refine⟨_,hs.rd 1 rfl rfl,?_⟩;have hrw:=hg.e.rw.ext hs.ext;refine hrw.nbI (by omega) (by omega) fun b o x gx t=>?_;replace gx:g.es[k]?=some x:=gx;have hx:=hN.es x (Yb gx);obtain⟨xt,hxt⟩:∃a:Nat,x.t=a:=⟨x.t.toNat,by omega⟩;obtain⟨xf,hxf⟩:∃a:Nat,x.f=a:=⟨x.f.toNat,by omega⟩;obtain⟨y1,hy1,hz1⟩:=at_bools (L:=L3) (i:=xt) (by omega);obtain⟨y2,hy2,hz2⟩:=at_bools (L:=L3) (i:=xf) (by omega);have htt:x.t.toNat=xt:=by omega
  have htf:x.f.toNat=xf:=by omega
  have same:∀ {b:Bool},L3[xt]?=some b->L3.set xt b=L3:=fun {b} hb=>by
   obtain⟨hl,he⟩:=Ya.1 hb;rw[<-he,List.set_getElem_self]
  refine⟨x.t,t.nth 4 rfl,?_⟩;refine⟨_,hs.rd 1 rfl rfl,?_⟩;refine hrw.nbI (by omega) (by omega) fun b o x' gx' t'=>?_;replace gx':g.es[k]?=some x':=gx';rw[gx] at gx';cases gx';refine⟨x.t,t'.nth 4 rfl,⟨by omega,by omega⟩,?_⟩;rw[hxt,show 0+Int.toNat (xt:Int)*1=xt by simp];refine⟨y1,hs.rd 0 rfl hy1,sB_intro (fun e1=>?_) (fun e1=>?_)⟩
  .refine⟨⟨by omega,by omega⟩,?_⟩;refine hs.put 0 rfl (o:=xt) (vs:=[.bool true]) rfl (by rw[Yc];show xt+1<=_;omega) fun h35 hs=>?_;rw[bools_set (by omega),same (by rw[hz1,e1])] at hs;exact nxt ⟨re3,rn3.skip gx fun _=>⟨by omega,by rw[htt,hz1,e1]⟩⟩ hs
  .refine⟨_,hs.rd 1 rfl rfl,?_⟩;refine hrw.nbI (by omega) (by omega) fun b o x' gx' t'=>?_;replace gx':g.es[k]?=some x':=gx';rw[gx] at gx';cases gx';refine⟨x.f,t'.nth 0 rfl,⟨by omega,by omega⟩,?_⟩;rw[hxf,show 0+Int.toNat (xf:Int)*1=xf by simp];refine⟨y2,hs.rd 0 rfl hy2,⟨by omega,by omega⟩,?_⟩;refine hs.put 0 rfl (o:=xt) (vs:=[.bool y2]) rfl (by rw[Yc];show xt+1<=_;omega) fun h42 hs=>?_;rw[bools_set (by omega)] at hs;refine nxt ?_ hs;cases y2 with
   | true=>
    have:=re3.set rn3 gx (by omega) (by rw[htt,hz1,e1]) (by omega) (by rw[htf];exact hz2);rw[htt] at this;exact this
   | false=>
    rw[same (by rw[hz1,e1])];exact⟨re3,rn3.skip gx fun hv=>by have:=hv.2;rw[htf,hz2] at this;cases this⟩
 .refine⟨_,_,_,_,_,_,_,_,hs.at 1 rfl (o:=0) (n:=8) rfl,?_⟩;refine (ends115 g h18 (hg.ext hs.ext) hN).mono ?_;rintro _ h55 ⟨E,l,L2q,rfl,hl,hl2,hvis⟩;have hnN:n=N:=by have:=Yyo cE;omega
  have rn2:RN g.es N 0 L:=by rw[hnN] at rn1;exact rn1
  have hreach:=re1.end_ rn2;have hs:=hs.step E;have hln:=hl.ln;refine⟨_,rfl,?_⟩;refine⟨fun x h' m=>∃i:Nat,x=i/\i<=N/\m=N-i/\h'=h55/\∀v:Int,0<=v->v<i->Rch g.es false g.s v/\Rch g.es true g.e v,⟨_,0,rfl,by omega,rfl,rfl,fun v h1 h2=>by omega⟩,?_⟩;rintro-_ h60 m ⟨i,rfl,hi,rfl,rfl,hq⟩;refine⟨_,hs.rd 1 rfl rfl,sB_intro (fun c=>?_) (fun c=>?_)⟩
  .replace c:=Yyn c;obtain⟨y1,hy1,hz1⟩:=at_bools (L:=L) (i:=i) (by omega);refine⟨⟨by omega,by omega⟩,?_⟩;rw[show 0+Int.toNat (i:Int)*1=i by simp];refine⟨y1,hs.rd 0 rfl hy1,sB_intro (fun e1=>RP.f (fun hG=>?_) hs.ext) (fun e1=>?_)⟩
   .have:=((hreach i).2 (hG.f i (by omega) (by omega))).2;rw[show ((i:Int)).toNat=i from rfl,hz1] at this;cases this;cases e1
   refine hl.nbI (by omega) (by omega) fun b o y gy t=>?_;replace gy:L2q[i]?=some y:=gy;refine⟨_,t.nth 0 rfl,sBi (fun e2=>RP.f (fun hG=>?_) hs.ext) (fun e2=>⟨_,by omega,i+1,by rw[w64 (by omega) (by omega)];omega,by omega,rfl,rfl,fun v h1 h2=>?_⟩)⟩
   .obtain⟨_,d,hd,hd0⟩:=(hvis i).2 (hG.b i (by omega) (by omega));rw[show ((i:Int)).toNat=i from rfl,gy] at hd;cases hd;omega
   .by_cases e:v=(i:Int)
    .subst e;exact⟨(hreach i).1 ⟨by omega,by rw[show ((i:Int)).toNat=i from rfl,hz1,bT e1]⟩,(hvis i).1 ⟨by omega,y,gy,by omega⟩⟩
    .exact hq v h1 (by omega)
  .refine⟨_,_,_,_,_,_,_,_,hs.at 1 rfl (o:=0) (n:=8) rfl,_,hs.rd 1 rfl rfl,?_⟩;refine (edges116 g g.e _ (hg.ext hs.ext)).mono ?_;rintro _ h78 ⟨⟨q,rfl,hqe⟩,E⟩;replace c:=Yyo c;refine⟨_,rfl,RP.e ?_ (hs.step E).ext⟩;have hb:∀b:Bool,(b=true ↔ q.n=0)->(b=true ↔ ConS g):=fun b hb=>hb.trans (hqe.trans ⟨fun he=>⟨fun v h1 h2=>(hq v h1 (by omega)).1,fun v h1 h2=>(hq v h1 (by omega)).2,he⟩,fun hG=>hG.e⟩);refine hb _ ?_;simp
theorem names64 (g:Gl) (h:Heap) (hg:GI h g) (hM:GNm g.ds):Fn Pz 43 #[g.v] h (RP (NamedS g/\DeclS g.ds) h):=by
 apply vc43 (bs g.nm) g.hr g.hd g.n g.s g.e g.he g.ht;unfold W43;have hrn:=hg.r.ln;have hrm:=hg.r.sm;refine (St.refl h).newb fun h9 hs=>?_;refine up_loopS (n:=g.hr.n) hs (fun i=>∀(j:Nat) (s:Nm),j<i->g.rs[j]?=some s->isWord s=true/\s∉g.rs.take j) (fun j s hj=>by omega) ?_;rintro-i h14 hi ⟨hs,hq⟩;refine⟨_,hs.rd 0 rfl rfl,sB_intro (fun c=>?_) (fun c=>?_)⟩
 .replace c:=lt_t c;refine⟨_,hs.rd 0 rfl rfl,?_⟩;refine (hg.r.rw.ext hs.ext).nbI (by omega) (by omega) fun b o x gx t=>?_;replace gx:g.rs[i]?=some x:=gx;refine⟨_,t.nth 0 rfl,?_⟩;refine (isWord111 (bs x) h14).mono ?_;rintro _ h22 ⟨rfl,E⟩;have hs:=hs.step E;refine⟨_,rfl,sB_intro (fun c1=>RP.f (fun hG=>?_) hs.ext) (fun c1=>?_)⟩
  .have:=(hG.1.r i x gx).1;rw[bs_list,this] at c1;cases c1
  refine⟨_,hs.rd 0 rfl rfl,_,hs.rd 0 rfl rfl,?_⟩;refine (hg.r.rw.ext hs.ext).nbI (by omega) (by omega) fun b o x2 gx2 t=>?_;replace gx2:g.rs[i]?=some x2:=gx2;rw[gx] at gx2;cases gx2;refine⟨_,t.nth 0 rfl,?_⟩;refine (index112 g.rs g.hr (bs x) h22 (hg.r.rw.ext hs.ext) hrm).mono ?_;rintro _ h30 ⟨⟨k,rfl,hk⟩,rfl⟩;replace hk:=hk i (by omega);rw[bs_list] at hk;have hxm:x∈g.rs:=Yb gx;refine⟨_,rfl,fun _ _ _ _ hv=>hv,sBi (fun c2=>RP.f (fun hG=>?_) hs.ext) (fun c2=>Up.next c (by omega) ⟨hs,fun j s hj hj2=>?_⟩)⟩
  .rcases hk.1 c2 with h1 | h1
   .exact (hG.1.r i x gx).2 h1
   .exact h1 hxm
  .by_cases e:j=i
   .subst e;rw[gx] at hj2;cases hj2;refine⟨by have:=bT c1;rw[bs_list] at this;exact this,fun hm=>c2 (hk.2 (.inl hm))⟩
   .exact hq j s (by omega) hj2
 .replace c:=lt_f c;refine⟨_,hs.rd 0 rfl rfl,?_⟩;refine (isWord111 (bs g.nm) h14).mono ?_;rintro _ h35 ⟨rfl,E⟩;have hs:=hs.step E;refine⟨_,rfl,sB_intro (fun c1=>⟨_,hs.rd 0 rfl rfl,sBi (fun c2=>⟨_,hs.rd 0 rfl rfl,sBi (fun c3=>⟨_,hs.rd 0 rfl rfl,?_⟩) (fun c3=>RP.f (fun hG=>c3 (by have:=hG.1.n6;omega)) hs.ext)⟩) (fun c2=>RP.f (fun hG=>c2 (by have:=hG.1.n1;omega)) hs.ext)⟩) (fun c1=>RP.f (fun hG=>by rw[bs_list,hG.1.w] at c1;cases c1) hs.ext)⟩;refine (refValid113 g.ds g.hd h35 (hg.d.ext hs.ext) hM).mono ?_;rintro _ h41 ⟨⟨b2,rfl,hb2⟩,E⟩;refine⟨_,rfl,RP.e (hb2.trans ⟨fun hd=>⟨⟨by rw[bs_list] at c1;exact c1,by omega,by omega,fun j s hj=>hq j s (by have:=(Ya.1 hj).1;omega) hj⟩,hd⟩,fun hG=>hG.2⟩) (hs.step E).ext⟩
theorem refValid31 (g:Gl) (h:Heap) (hg:GI h g) (hM:GNm g.ds):Fn Pz 17 #[g.v] h (RP (ValidS g) h):=by
 apply vc17 (bs g.nm) g.hr g.hd g.n g.s g.e g.he g.ht;unfold W17;refine (St.refl h).newb fun h9 hs=>?_;refine⟨_,_,_,_,_,_,_,_,hs.at 0 rfl (o:=0) (n:=8) rfl,?_⟩;refine (names64 g h9 (hg.ext hs.ext) hM).mono ?_;rintro _ h20 ⟨⟨b1,rfl,hb1⟩,E⟩;have hs:=hs.step E;refine⟨_,rfl,sB_intro (fun c1=>?_) (fun c1=>RP.f (fun hG=>iff_f hb1 c1 ⟨hG.nam,hG.dcl⟩) hs.ext)⟩;refine⟨_,_,_,_,_,_,_,_,hs.at 0 rfl (o:=0) (n:=8) rfl,?_⟩;refine (numbers65 g h20 (hg.ext hs.ext)).mono ?_;rintro _ h31 ⟨⟨b2,rfl,hb2⟩,E⟩;have hs:=hs.step E;refine⟨_,rfl,sB_intro (fun c2=>?_) (fun c2=>RP.f (fun hG=>iff_f hb2 c2 hG.num) hs.ext)⟩;have hN:=hb2.1 c2;refine⟨_,_,_,_,_,_,_,_,hs.at 0 rfl (o:=0) (n:=8) rfl,?_⟩;refine (apart66 g h31 (hg.ext hs.ext)).mono ?_;rintro _ h42 ⟨⟨b3,rfl,hb3⟩,E⟩;have hs:=hs.step E;refine⟨_,rfl,sB_intro (fun c3=>?_) (fun c3=>RP.f (fun hG=>iff_f hb3 c3 ⟨hG.ord.s,hG.ord.p⟩) hs.ext)⟩;refine⟨_,_,_,_,_,_,_,_,hs.at 0 rfl (o:=0) (n:=8) rfl,?_⟩;refine (connected67 g h42 (hg.ext hs.ext) hN.R).mono ?_;rintro _ h53 ⟨⟨b4,rfl,hb4⟩,E⟩;have hs:=hs.step E;refine⟨_,rfl,sB_intro (fun c4=>?_) (fun c4=>RP.f (fun hG=>iff_f hb4 c4 ⟨hG.fwd,hG.bwd,hG.ord.e⟩) hs.ext)⟩;refine⟨_,_,_,_,_,_,_,_,hs.at 0 rfl (o:=0) (n:=8) rfl,?_⟩;refine (timed68 g h53 (hg.ext hs.ext) hN).mono ?_;rintro _ h64 ⟨⟨b5,rfl,hb5⟩,E⟩;have f1:=hb1.1 c1;have f3:=hb3.1 c3;have f4:=hb4.1 c4;exact⟨_,rfl,RP.e (hb5.trans ⟨fun ht=>⟨f1.1,hN,f1.2,⟨f4.e,f3.s,f3.p⟩,ht,f4.f,f4.b⟩,fun hG=>hG.tim⟩) (hs.step E).ext⟩
theorem good49 (g:Gl) (role:Int) (h:Heap) (hg:GI h g) (hM:GNm g.ds):Fn Pz 48 #[g.v,.int .i64 role] h (RP (ValidS g/\0<=role/\role<g.rs.length) h):=by
 apply vc48 (bs g.nm) g.hr g.hd g.n g.s g.e g.he g.ht;unfold W48;have hrn:=hg.r.ln;refine (St.refl h).newb fun h9 hs=>?_;refine⟨_,_,_,_,_,_,_,_,hs.at 0 rfl (o:=0) (n:=8) rfl,?_⟩;refine (refValid31 g h9 (hg.ext hs.ext) hM).mono ?_;rintro _ h20 ⟨⟨b1,rfl,hb1⟩,E⟩;have hs:=hs.step E;exact⟨_,rfl,sB_intro (fun c1=>sBi (fun c2=>⟨_,hs.rd 0 rfl rfl,RP.e ⟨fun hb=>⟨hb1.1 c1,by omega,by have:=Yyn hb;omega⟩,fun hG=>decide_eq_true (by omega)⟩ hs.ext⟩) (fun c2=>RP.f (fun hG=>c2 (by omega)) hs.ext)) (fun c1=>RP.f (fun hG=>iff_f hb1 c1 hG.1) hs.ext)⟩
structure Hv where
 role:Int
 send:Bool
 peer:Int
 label:Int
 vs:Sl
def Hv.cs (x:Hv):List Value:=[.int .i64 x.role,.bool x.send,.int .i64 x.peer,.int .i64 x.label,.slice x.vs.a x.vs.n x.vs.c]
end Go.VC
end

section
namespace Go.VC
open Go.LexS

def Hv.ev (x:Hv):Ev:=⟨x.send,x.peer,x.label⟩
noncomputable def stepS (g:Gl) (role:Int) (p:PSet) (x:Hv):PSet:=if x.role=role then clo g.es role (toL g.es role p x.ev) else fun _=>false
noncomputable def behS (g:Gl) (role:Int) (l:List Hv):PSet:=l.foldl (stepS g role) (clo g.es role [g.s])
theorem clo_nil {es:List Ed} {role:Int} {j:Nat}:clo es role [] j=false:=by
 have:∀a,¬Qr es role [] a:=fun a h=>by
  induction h with
  | base h=>cases h
  | step _ _ ih=>exact ih
 cases h:clo es role [] j with
 | false=>rfl
 | true=>exact absurd (clo_iff.1 h) (this _)
theorem toL_none {es:List Ed} {role:Int} {p:PSet} {x:Ev} (h:x∉evs es role p):toL es role p x=[]:=by
 apply List.eq_nil_iff_forall_not_mem.2;intro y hy;unfold toL at hy;obtain⟨n,hn,hy⟩:=List.mem_flatMap.1 hy;obtain⟨a,ha,he⟩:=Yym.1 hy;split at he
 .rename_i hax;refine h ((sortE_mem _ _).2 (List.mem_flatMap.2 ⟨n,hn,Yp.2 ⟨a,ha,hax⟩⟩))
 .cases he
theorem evs_empty {es:List Ed} {role:Int} {p:PSet} (hp:∀j,p j=false) (x:Ev):x∉evs es role p:=fun h=>by
 obtain⟨n,hn,_⟩:=List.mem_flatMap.1 ((sortE_mem _ _).1 h);have:=(elems_mem.1 hn).2;rw[hp n] at this;cases this
end Go.VC
end

section
namespace Go.VC
open Go.Proofs Go.LexS
def outGP (es:List Ed) (s:Int) (i:Nat):Bool:=match es[i]? with | some x=>decide (x.f=s) | none=>false
def outG (es:List Ed) (s:Int):List Nat:=(List.range es.length).filter (outGP es s)
theorem outG_mem {es:List Ed} {s:Int} {k:Nat}:k∈outG es s ↔ ∃x,es[k]?=some x/\x.f=s:=by
 unfold outG;rw[List.mem_filter,List.mem_range];constructor
 .rintro⟨h1,h2⟩;unfold outGP at h2;rw[Yi h1] at h2;exact⟨_,Yi h1,Yyn h2⟩
 .rintro⟨x,hx,hf⟩;refine⟨(Ya.1 hx).1,?_⟩;unfold outGP;rw[hx];exact decide_eq_true hf
theorem outG_len (es:List Ed) (s:Int):(outG es s).length<=es.length:=Yys (List.length_filter_le _ _) (by rw[Yyd];exact Yyt _)
theorem out23 (g:Gl) (s:Int) (h:Heap) (hg:GI h g):Fn Pz 55 #[g.v,.int .i64 s] h fun v h'=>Ext h h'/\∃r:Sl,v=.slice r.a r.n r.c/\Rw h' 1 r ((natI (outG g.es s)).map inC):=by
 apply vc55 (bs g.nm) g.hr g.hd g.n g.s g.e g.he g.ht;unfold W55;have hen:=hg.e.ln;have hem:=hg.e.sm;refine (St.refl h).newb fun h9 hs=>?_;have hs:=hs.nil_ 3 1;refine up_loopA (n:=g.he.n) hs (fun i rows=>rows=(natI ((List.range i).filter (outGP g.es s))).map inC) rfl ?_;clear hs;rintro-i out h15 rows hi hs rfl;have hocap:=hs.len 0 (s:=out) (e:=3) (n:=1) rfl (by omega);rw[Yc,show (natI ((List.range i).filter (outGP g.es s))).length=((List.range i).filter (outGP g.es s)).length from Yc _] at hocap;have hol:((List.range i).filter (outGP g.es s)).length<=i:=Yys (List.length_filter_le _ _) (by rw[Yyd];exact Yyt _);refine⟨g.he,hs.rd 1 rfl rfl,sBi (fun c=>?_) (fun c=>?_)⟩
 .refine⟨g.he,hs.rd 1 rfl rfl,?_⟩;refine (hg.e.rw.ext hs.ext).nbI (by omega) (by omega) fun b o x gx t=>?_;replace gx:g.es[i]?=some x:=gx;have hrs:(List.range (i+1)).filter (outGP g.es s)=if x.f=s then (List.range i).filter (outGP g.es s)++[i] else (List.range i).filter (outGP g.es s):=by
   rw[List.range_succ,List.filter_append];have hp:outGP g.es s i=decide (x.f=s):=by unfold outGP;rw[gx]
   by_cases e:x.f=s
   .rw[if_pos e,List.filter_cons_of_pos (by rw[hp];exact decide_eq_true e)];rfl
   .rw[if_neg e,List.filter_cons_of_neg (by rw[hp,decide_eq_false e];simp)];simp
  refine⟨_,t.hd,sBe (fun c2=>?_) (fun c2=>?_)⟩
  .refine hs.app 0 rfl app42 (m:=1) [inC (i:Int)] rfl rfl (fun r hr=>by rw[Ye] at hr;rw[hr];rfl) rfl (by omega) (by simp only[maxLen];omega) fun r h27 ns hs=>?_;refine UpA.next (by omega) (by omega) ⟨_,hs,?_⟩;rw[hrs,if_pos c2,natI_snoc,Ym];rfl
  .exact UpA.next (by omega) (by omega) ⟨_,hs,by rw[hrs,if_neg c2]⟩
 .have hie:i=g.es.length:=by omega
  subst hie;exact⟨hs.ext,out,rfl,hs.rows 0 rfl (by omega)⟩
theorem sees50 (x:Ed) (role:Int) (h:Heap):Fn Pz 56 #[.agg ⟨x.cs⟩,.int .i64 role] h fun v h'=>v=.bool (vis1 role x).isSome/\Ext h h':=by
 apply vc56 x.f x.a x.b x.l x.t x.ag;unfold W56;refine (St.refl h).newb fun h7 hs=>?_;refine⟨_,hs.rd 0 rfl rfl,sBe (fun c=>?_) (fun c=>⟨_,hs.rd 0 rfl rfl,?_,hs.ext⟩)⟩
 .refine⟨?_,hs.ext⟩;unfold vis1;rw[if_pos c.symm];rfl
 .unfold vis1;rw[if_neg (Ne.symm c)];by_cases e:x.b=role
  .rw[if_pos e.symm,e,beq_self_eq_true];rfl
  .rw[if_neg (Ne.symm e),beq_eq_false_iff_ne.2 e];rfl
theorem event51 (x:Ed) (role:Int) (e:Ev) (hv:vis1 role x=some e) (h:Heap):Fn Pz 57 #[.agg ⟨x.cs⟩,.int .i64 role] h fun v h'=>v=.agg ⟨aC role e⟩/\Ext h h':=by
 apply vc57 x.f x.a x.b x.l x.t x.ag;unfold W57 V57a;refine (St.refl h).newb fun h7 hs=>?_;refine hs.newb fun h8 hs=>?_;unfold vis1 at hv;refine⟨_,hs.rd 1 rfl rfl,sBe (fun c=>?_) (fun c=>?_)⟩
 .rw[if_pos c.symm] at hv;cases hv;refine⟨_,hs.rd 1 rfl rfl,_,hs.rd 1 rfl rfl,?_⟩;refine hs.put 0 rfl (o:=0) (vs:=aC role ⟨true,x.b,x.l⟩) rfl (show 5<=5 by decide) fun h12 hs=>?_;exact⟨_,_,_,_,⟨none,0,0⟩,hs.at 0 rfl (o:=0) (n:=5) rfl,rfl,hs.ext⟩
 .rw[if_neg (Ne.symm c)] at hv;split at hv
  .cases hv;refine⟨_,hs.rd 1 rfl rfl,_,hs.rd 1 rfl rfl,?_⟩;refine hs.put 0 rfl (o:=0) (vs:=aC role ⟨false,x.a,x.l⟩) rfl (show 5<=5 by decide) fun h12 hs=>?_;exact⟨_,_,_,_,⟨none,0,0⟩,hs.at 0 rfl (o:=0) (n:=5) rfl,rfl,hs.ext⟩
  .cases hv
def actC (x:Ed):List Value:=[.int .i64 x.a,.int .i64 x.b,.int .i64 x.l]
inductive Pth (es:List Ed):Int->List Ed->Int->Prop where
 | nil {s:Int}:Pth es s [] s
 | snoc {s t:Int} {p:List Ed} {x:Ed}:Pth es s p t->x∈es->x.f=t->Pth es s (p++[x]) x.t
def u8C (n:Nat):List Value:=[.int .u8 (n:Int)]
theorem app48:appB Pz 30 65 3 24=true:=by kernel_rfl
theorem word22 (g:Gl) (s:Sl) (L:List Nat) (h:Heap) (hg:GI h g) (hL:Rw h 1 s (L.map u8C)) (h30:L.length<=1048576) (hb:∀n∈L,n<=255) :
  Fn Pz 24 #[g.v,.slice s.a s.n s.c] h fun v h'=>Ext h h'/\∃(r:Sl) (p:List Ed) (at_:Int),v=.tuple ⟨[.slice r.a r.n r.c,.int .i64 at_]⟩/\Rw h' 3 r (p.map actC)/\Pth g.es g.s p at_/\p.length<=L.length:=by
 apply vc24 (bs g.nm) g.hr g.hd g.n g.s g.e g.he g.ht;unfold W24;have hen:=hg.e.ln;have hem:=hg.e.sm;have hn:=hL.ln;refine (St.refl h).newb fun h9 hs=>?_;refine⟨_,hs.rd 0 rfl rfl,?_⟩;have hs:=hs.nil_ 65 3;refine⟨fun out a x h' m=>∃(k:Nat) (p:List Ed),x=k/\k<=s.n/\m=s.n-k/\p.length<=k/\Pth g.es g.s p a/\St h h' [.sl out 65 3 (p.map actC),.blk h.size g.cs 27],
  ⟨_,0,[],rfl,by omega,rfl,Yyt _,.nil,hs⟩,?_⟩
 clear hs;rintro-out a _ h17 m ⟨k,p,rfl,hk,rfl,hpl,hP,hs⟩;have hocap:=hs.len 0 (s:=out) (e:=65) (n:=3) rfl (by omega);rw[Yc] at hocap;refine sB_intro (fun c=>?_) (fun c=>⟨hs.ext,out,p,a,rfl,hs.rows 0 rfl (by omega),hP,by omega⟩);replace c:=lt_t c;refine⟨_,_,_,_,_,_,_,_,hs.at 1 rfl (o:=0) (n:=8) rfl,?_⟩;refine (out23 g a h17 (hg.ext hs.ext)).mono ?_;rintro _ h28 ⟨E,r,rfl,hr⟩;have hs:=hs.step E;have hrn:=hr.ln;refine⟨r,rfl,sBe (fun c2=>⟨hs.ext,out,p,a,rfl,hs.rows 0 rfl (by omega),hP,by omega⟩) (fun c2=>?_)⟩;refine⟨g.he,hs.rd 1 rfl rfl,?_⟩;refine (hL.ext hs.ext).nbI (by omega) (by omega) fun b o n gn t=>?_;replace gn:L[k]?=some n:=gn;have hn255:=hb n (Yb gn);refine⟨_,t.hd,c2,?_⟩;have hq:Int.tmod (IntKind.wrap .i64 (n:Int)) (r.n:Int)=((n%r.n:Nat):Int):=by
  rw[w64 (by omega) (by omega)];rfl
 have hql:n%r.n<r.n:=Nat.mod_lt _ (by omega);rw[hq];refine hr.nbI (by omega) (by omega) fun b2 o2 d gd t2=>?_;replace gd:(natI (outG g.es a))[n%r.n]?=some d:=gd;obtain⟨j,hj,rfl⟩:=natI_get gd;obtain⟨x0,hx0,hxf⟩:=outG_mem.1 (Yb hj);have hjl:=(Ya.1 hx0).1;refine⟨_,t2.nth 0 rfl,?_⟩;refine (hg.e.rw.ext hs.ext).nbI (by omega) (by omega) fun b3 o3 x gx t3=>?_;replace gx:g.es[j]?=some x:=gx;rw[hx0] at gx;cases gx;refine⟨_,_,_,_,_,_,t3,?_⟩;intro h44 e44;refine⟨smx (by rw[e44];exact Ext.push _ _),?_⟩;refine hs.newput (zs:=[.int .i64 0,.int .i64 0,.int .i64 0,.int .i64 0,.int .i64 0,.bool false]) (vs:=x0.cs) (n:=6) (e:=67) rfl rfl (fun h45 hs=>?_) h44 e44;refine⟨_,_,_,hs.at 0 rfl (o:=1) (n:=3) rfl,?_⟩;refine hs.app 1 rfl app48 (m:=1) [actC x0] rfl rfl (fun r hr=>by rw[Ye] at hr;rw[hr];rfl) rfl (by omega) (by simp only[maxLen];omega) fun r2 h51 ns hs=>?_;refine⟨_,hs.rd 0 rfl rfl,s.n-(k+1),by omega,k+1,p++[x0],by rw[w64 (by omega) (by omega)];omega,by omega,rfl,by rw[Yh,Yv];omega,.snoc hP (Yb hx0) hxf,?_⟩;rw[Ym];exact hs.drop 1
end Go.VC
end

section
namespace Go.VC
def mk8 (c:Nat):Nat->Nat
 | 0=>0
 | k+1=>c+256*mk8 c k
def s1 (k x:Nat):Nat:=((x/2)&&&mk8 0x55 k)+(x&&&mk8 0x55 k)
def s2 (k x:Nat):Nat:=((x/4)&&&mk8 0x33 k)+(x&&&mk8 0x33 k)
def s3 (k x:Nat):Nat:=(x/16+x)&&&mk8 0x0f k
def b1 (b:Nat):Nat:=((b/2)&&&0x55)+(b&&&0x55)
def b2 (b:Nat):Nat:=((b/4)&&&0x33)+(b&&&0x33)
def b3 (b:Nat):Nat:=(b/16+b)&&&0x0f
set_option maxRecDepth 100000 in
theorem f1:∀b,b<256->∀t,t<2->(b/2+128*t)&&&0x55=(b/2)&&&0x55:=by decide
set_option maxRecDepth 100000 in
theorem f2:∀b,b<256->∀t,t<4->(b/4+64*t)&&&0x33=(b/4)&&&0x33:=by decide
set_option maxRecDepth 100000 in
theorem f3:∀b,b<69->∀t,t<5->(b/16+16*t+b)&&&0x0f=b3 b:=by decide
set_option maxRecDepth 100000 in
theorem f4:∀b,b<256->b1 b<256/\b2 (b1 b)<69/\b2 (b1 b)%16<5/\b3 (b2 (b1 b))<9/\(b3 (b2 (b1 b))=0->b=0):=by decide
end Go.VC
end

section
namespace Go.VC
open Go.Proofs Go.LexS
theorem own54 (g:Gl) (role:Int) (b:Nat) (x:Hv) (h:Heap) (hl:LkI h ⟨b,0,none⟩ g role) :
  Fn Pz 73 #[.pointer (some ⟨b,0,none⟩),.agg ⟨x.cs⟩] h fun v h'=>v=.tuple ⟨[.agg ⟨x.ev.cs⟩,.bool (x.role==role)]⟩/\Ext h h':=by
 apply vc73 ⟨b,0,none⟩ x.role x.send x.peer x.label x.vs;unfold W73;obtain⟨hq,hv,qs,vs,e0,hat,_⟩:=hl.ex;have hb:b<h.size:=hc_blk (hat.nth 0 rfl);refine (St.refl h).newb fun h6 hs=>?_;have hh6:h.size<h6.size:=hc_blk (hs.rd 0 rfl (i:=0) rfl);refine hs.newbE fun h7 E7 hs=>?_;refine⟨_,hs.rd 1 rfl rfl,_,hs.rd 1 rfl rfl,_,hs.rd 1 rfl rfl,_,hs.rd 1 rfl rfl,role,(atC_ext hs.ext hat).nth 8 rfl,?_⟩;obtain⟨k1,k2⟩:=hs.put (K:=fun h'=>St h h' [.blk h6.size x.ev.cs 140,.blk h.size x.cs 33]) 0 rfl (o:=0) (vs:=x.ev.cs) (n:=3) rfl (show 3<=3 by decide) (fun h' hs=>hs);refine⟨k1,fun h13 e13=>?_⟩;have hs:=k2 h13 e13;have hB:But h6.size h7 h13:=by rw[e13];exact But.hputs (a:=⟨h6.size,0,none⟩) _ _ _
 refine⟨Sm_but hB (fun a ha=>?_),?_⟩
 .simp only[Yr,List.not_mem_nil,or_false] at ha;rcases ha with rfl | rfl
  .show b≠h6.size;omega
  .show h.size≠h6.size;omega
 .exact⟨_,_,_,hs.at 0 rfl (o:=0) (n:=3) rfl,rfl,hs.ext⟩
theorem behS_snoc (g:Gl) (role:Int) (l:List Hv) (x:Hv):behS g role (l++[x])=stepS g role (behS g role l) x:=by unfold behS;rw[List.foldl_append];rfl
theorem stepS_nil (g:Gl) (role:Int) (x:Hv):stepS g role (fun _=>false) x=fun _=>false:=by
 unfold stepS;split
 .rw[toL_none (evs_empty (fun _=>rfl) _)];exact funext fun j=>clo_nil
 .rfl
theorem foldS_nil (g:Gl) (role:Int):∀l:List Hv,l.foldl (stepS g role) (fun _=>false)=fun _=>false
 | []=>rfl
 | x::l=>by rw[List.foldl_cons,stepS_nil,foldS_nil g role l]
theorem behS_wrong {g:Gl} {role:Int} {l:List Hv} {i:Nat} {x:Hv} (hx:l[i]?=some x) (hr:x.role≠role):behS g role l=fun _=>false:=by
 have e:l=l.take i++x::l.drop (i+1):=by
  rw[<-drop_get hx,List.take_append_drop]
 rw[e];unfold behS;rw[List.foldl_append,List.foldl_cons];have:stepS g role ((l.take i).foldl (stepS g role) (clo g.es role [g.s])) x=fun _=>false:=by
  unfold stepS;rw[if_neg hr]
 rw[this,foldS_nil]
theorem behS_lt {g:Gl} {role:Int} (hV:ValidS g) (l:List Hv):∀j,behS g role l j=true->(j:Int)<g.n:=by
 have hN:=hV.num.n
 suffices h:∀(l:List Hv) (p:PSet),(∀j,p j=true->(j:Int)<g.n)->∀j,l.foldl (stepS g role) p j=true->(j:Int)<g.n from
  h l _ fun j hj=>clo_lt hV (fun x hx=>by rw[Ye.1 hx];omega) j hj
 intro l
 induction l with
 | nil=>intro p hp;exact hp
 | cons x l ih=>
  intro p hp;rw[List.foldl_cons];refine ih _ fun j hj=>?_;unfold stepS at hj;split at hj
  .exact clo_lt hV (toL_lt hV) j hj
  .cases hj
theorem behind27 (g:Gl) (role:Int) (s:Sl) (L:List Hv) (h:Heap) (hg:GI h g) (hx:Gx h) (hgood:ValidS g/\0<=role/\role<g.rs.length) (hL:RL h 5 s Hv.cs L) :
  Fn Pz 33 #[g.v,.int .i64 role,.slice s.a s.n s.c] h fun v h'=>Ext h h'/\∃q:Sl,v=.tuple ⟨[.slice q.a q.n q.c,.int .i64 0]⟩/\SetV h' q (behS g role L):=by
 apply vc33 (bs g.nm) g.hr g.hd g.n g.s g.e g.he g.ht role s;unfold W33;have hV:=hgood.1;have hN:=hV.num.n;have hsn:=hL.ln;have hsm:=hL.sm;refine (St.refl h).newb fun h9 hs=>?_;refine⟨_,_,_,_,_,_,_,_,hs.at 0 rfl (o:=0) (n:=8) rfl,?_⟩;refine (look52 g role h9 (hg.ext hs.ext) (hx.ext hs.ext)).mono ?_;rintro _ h21 ⟨E21,hr⟩;rcases hr with ⟨hn,_⟩ | ⟨_,b,hb,rfl,hl⟩
 .exact absurd hgood hn
 have hs:=hs.step E21;refine⟨_,_,rfl,sBn (fun c=>absurd rfl c) fun _=>?_⟩;refine⟨_,hs.rd 0 rfl rfl,?_⟩;refine hs.newbE fun h23 E23 hs=>?_;have hs2:=hs.blkS 1 1 ([g.s].map inC) rfl (inrows _) rfl (by decide);refine (closed53 g role b [g.s] ⟨some ⟨h21.size,0,none⟩,1,1⟩ h23 (hl.ext E23) hV (hs2.rows 0 rfl (by omega)) (fun x hx=>by rw[Ye.1 hx];omega) (by show 1<=1048576;omega)).mono ?_;rintro _ h26 ⟨E26,c,k,ws,rfl,hc0,ho,hS⟩;have hl26:=hl.ext (E23.trans E26);have E:=(hs.step E26).ext;have hset:=hS.v ho k;refine⟨⟨some ⟨c,0,none⟩,k,k⟩,rfl,?_⟩;refine⟨fun q x h' m=>∃i:Nat,x=i/\i<=s.n/\m=s.n-i/\Ext h26 h'/\SetV h' q (behS g role (L.take i)),⟨_,0,rfl,by omega,rfl,.rfl',hset⟩,?_⟩;rintro-q _ h32 m ⟨i,rfl,hi,rfl,Ei,hq⟩;refine sB_intro (fun cc=>?_) (fun cc=>?_)
 .replace cc:=lt_t cc;refine (hL.rw.ext (E.trans Ei)).nbI (by omega) (by omega) fun b33 o34 x gx t=>?_;replace gx:L[i]?=some x:=gx;refine⟨_,_,_,_,_,t,?_⟩;refine (St.refl h32).newput (vs:=x.cs) rfl rfl fun h41 hs=>?_;refine⟨_,_,_,_,_,hs.at 0 rfl (o:=0) (n:=5) rfl,?_⟩;refine (own54 g role b x h41 (hl26.ext (Ei.trans hs.ext))).mono ?_;rintro _ h52 ⟨rfl,E52⟩;have hs:=hs.step E52;refine⟨_,_,_,_,rfl,?_⟩;refine hs.newput (vs:=x.ev.cs) rfl rfl fun h54 hs=>?_;have E54:=(E.trans Ei).trans hs.ext;refine sB_intro (fun c1=>?_) (fun c1=>?_)
  .have hr:x.role≠role:=by simpa using c1
   refine (make55 [] ⟨none,0,0⟩ h54 Rw.nil (by decide)).mono ?_;rintro _ h57 ⟨E57,b2,k2,ws2,rfl,_,ho2,hS2⟩;refine⟨⟨some ⟨b2,0,none⟩,k2,k2⟩,rfl,E54.trans E57,_,rfl,?_⟩;have:=hS2.v ho2 k2;rw[behS_wrong gx hr];have e:(fun j:Nat=>decide ((j:Int)∈([]:List Int)/\j<4096))=fun _=>false:=funext fun j=>by simp
   rw[e] at this;exact this
  .have hr:x.role=role:=by simpa using c1
   refine⟨_,_,_,hs.at 0 rfl (o:=0) (n:=3) rfl,?_⟩;refine (after56 g role b (behS g role (L.take i)) x.ev q h54 (hl26.ext (Ei.trans hs.ext)) hV (hx.ext E54) (hq.ext hs.ext) (behS_lt hV _)).mono ?_;rintro _ h63 ⟨E63,c2,k2,ws2,rfl,_,ho2,hS2⟩;refine⟨⟨some ⟨c2,0,none⟩,k2,k2⟩,rfl,s.n-(i+1),by omega,i+1,by rw[w64 (by omega) (by omega)];omega,by omega,rfl,(Ei.trans hs.ext).trans E63,?_⟩;rw[take_snoc gx,behS_snoc];have e:stepS g role (behS g role (L.take i)) x=clo g.es role (toL g.es role (behS g role (L.take i)) x.ev):=by unfold stepS;rw[if_pos hr]
   rw[e];exact hS2.v ho2 k2
 .replace cc:=lt_f cc;rw[Yj (by omega)] at hq;exact⟨E.trans Ei,_,rfl,hq⟩

def hvE (role:Int) (e:Ev):Hv:=⟨role,e.send,e.peer,e.label,⟨none,0,0⟩⟩
end Go.VC
end

section
namespace Go.VC
open Go.LexS
theorem pth_range {g:Gl} (hV:ValidS g) {p:List Ed} {q:Int} (h:Pth g.es g.s p q):0<=q/\q<g.n:=by
 cases h with
 | nil=>have:=hV.num.n;omega
 | snoc _ hx _=>have:=hV.num.R.es _ hx;omega
theorem behS_clo (g:Gl) (role:Int) (l:List Hv):∃l0,behS g role l=clo g.es role l0:=by
 suffices h:∀(l:List Hv) (p:PSet),(∃l0,p=clo g.es role l0)->∃l0,l.foldl (stepS g role) p=clo g.es role l0 from h l _ ⟨_,rfl⟩
 intro l
 induction l with
 | nil=>intro p hp;exact hp
 | cons x l ih=>
  intro p _;rw[List.foldl_cons];refine ih _ ?_;unfold stepS;split
  .exact⟨_,rfl⟩
  .exact⟨[],funext fun j=>clo_nil.symm⟩
theorem toL_mem {es:List Ed} {role:Int} {p:PSet} {x:Ed} {e:Ev} (hx:x∈es) (hv:vis1 role x=some e) (h0:0<=x.f) (h1:x.f<4096) (hp:p x.f.toNat=true):x.t∈toL es role p e:=by
 unfold toL;refine List.mem_flatMap.2 ⟨x.f.toNat,elems_mem.2 ⟨by omega,hp⟩,Yym.2 ⟨⟨e,x.t⟩,?_,if_pos rfl⟩⟩;unfold visL;refine Yym.2 ⟨x,hx,?_⟩;rw[if_pos (by omega),hv];rfl
theorem pth_in {g:Gl} (hV:ValidS g) (role:Int) {p:List Ed} {q:Int} (h:Pth g.es g.s p q):behS g role ((p.filterMap (vis1 role)).map (hvE role)) q.toNat=true:=by
 have hN:=hV.num.n
 induction h with
 | nil=>
  exact clo_iff.2 (.base (by rw[show ((g.s.toNat:Nat):Int)=g.s by omega];exact Ye.2 rfl))
 | @snoc t p x hp hx hf ih=>
  have hr:=hV.num.R.es x hx;rw[hf.symm] at ih;rw[List.filterMap_append,List.filterMap_cons,List.filterMap_nil];cases hv:vis1 role x with
  | none=>
   simp only[Yw];obtain⟨l0,hl0⟩:=behS_clo g role ((p.filterMap (vis1 role)).map (hvE role));rw[hl0] at ih ⊢;have h1:=clo_iff.1 ih;rw[show ((x.f.toNat:Nat):Int)=x.f by omega] at h1;refine clo_iff.2 ?_;rw[show ((x.t.toNat:Nat):Int)=x.t by omega];exact .step h1 ⟨x,hx,hv,rfl,rfl⟩
  | some e=>
   rw[Ym,Yyl,List.map_nil,behS_snoc];unfold stepS;rw[if_pos (show (hvE role e).role=role from rfl)];refine clo_iff.2 (.base ?_);rw[show ((x.t.toNat:Nat):Int)=x.t by omega];exact toL_mem hx hv hr.1 (by omega) ih


end Go.VC
end

section
namespace Go.VC
open Go.Proofs Go.LexS
def setI (p:PSet):List Int:=natI (elems p)
theorem sameEv47 (r:Int) (x y:Ev) (h:Heap):Fn Pz 42 #[.agg ⟨aC r x⟩,.agg ⟨aC r y⟩] h fun v h'=>v=.bool (decide (x=y))/\Ext h h':=by
 apply vc42 r x.send x.peer x.label ⟨none,0,0⟩ r y.send y.peer y.label ⟨none,0,0⟩;unfold W42;refine (St.refl h).newb fun h11 hs=>?_;refine hs.newb fun h12 hs=>?_;refine⟨_,hs.rd 1 rfl (i:=0) rfl,_,hs.rd 0 rfl (i:=0) rfl,sB_t (by simp) ?_⟩;have no:x≠y->(Value.bool false=.bool (decide (x=y))/\Ext h h12):=fun e=>⟨by rw[decide_eq_false e],hs.ext⟩;refine⟨_,hs.rd 1 rfl (i:=1) rfl,_,hs.rd 0 rfl (i:=1) rfl,sB_intro (fun c1=>?_) (fun c1=>no fun e=>by rw[e] at c1;simp at c1)⟩;refine⟨_,hs.rd 1 rfl (i:=2) rfl,_,hs.rd 0 rfl (i:=2) rfl,sBe (fun c2=>?_) (fun c2=>no fun e=>c2 (by rw[e]))⟩;refine⟨_,hs.rd 1 rfl (i:=3) rfl,_,hs.rd 0 rfl (i:=3) rfl,?_,hs.ext⟩;have c1:x.send=y.send:=by simpa using c1
 by_cases c3:x.label=y.label
 .rw[decide_eq_true (ev_ext c1 c2 c3),c3,beq_self_eq_true]
 .rw[decide_eq_false (fun e=>c3 (by rw[e])),beq_eq_false_iff_ne.2 c3]
theorem sameEvs97 (r:Int) (A B:List Ev) (s t:Sl) (h:Heap) (hA:Rw h 5 s (A.map (aC r))) (hB:Rw h 5 t (B.map (aC r))) (hl:A.length<=1048576):Fn Pz 25 #[.slice s.a s.n s.c,.slice t.a t.n t.c] h fun v h'=>v=.bool (decide (A=B))/\Ext h h':=by
 apply vc25 s t;unfold W25;have hn:=hA.ln;have hm:=hB.ln;have no:A≠B->∀h',Ext h h'->(Value.bool false=.bool (decide (A=B))/\Ext h h'):=fun e h' E=>⟨by rw[decide_eq_false e],E⟩;refine sBn (fun c=>no (fun e=>c (by rw[hn,hm,e])) h .rfl') (fun c=>?_);have hAB:A.length=B.length:=by omega
 refine up_loop (n:=s.n) (fun i h'=>Ext h h'/\∀(j:Nat) x y,j<i->A[j]?=some x->B[j]?=some y->x=y) ⟨.rfl',fun j x y hj=>by omega⟩ ?_;rintro-i h5 hi ⟨E,hq⟩;refine sB_intro (fun c1=>?_) (fun c1=>⟨?_,E⟩)
 .replace c1:=lt_t c1;refine (hA.ext E).nbI (by omega) (by omega) fun b6 o7 x gx t6=>?_;replace gx:A[i]?=some x:=gx;refine⟨r,x.send,x.peer,x.label,⟨none,0,0⟩,t6,?_⟩;refine (hB.ext E).nbI (by omega) (by omega) fun b9 o10 y gy t9=>?_;replace gy:B[i]?=some y:=gy;refine⟨r,y.send,y.peer,y.label,⟨none,0,0⟩,t9,?_⟩;refine (sameEv47 r x y h5).mono ?_;rintro _ h22 ⟨rfl,E2⟩;refine⟨_,rfl,sB_intro (fun c2=>no (fun e=>?_) _ (E.trans E2)) (fun c2=>Up.next c1 (by omega) ⟨E.trans E2,fun j x' y' hj hx' hy'=>?_⟩)⟩
  .rw[e] at gx;rw[gx] at gy;have:=Yyo (bF c2);exact this (Yyp gy)
  .by_cases e:j=i
   .subst e;rw[gx] at hx';rw[gy] at hy';cases hx';cases hy';exact Yyn (bT c2)
   .exact hq j x' y' (by omega) hx' hy'
 .replace c1:=lt_f c1;have e:A=B:=by
   refine List.ext_getElem hAB fun j h1 h2=>?_;exact hq j _ _ (by omega) (Yi h1) (Yi h2)
  rw[decide_eq_true e]
/-! ### events -/
/-! ### sets in memory -/
structure SR where
 s:Sl
 p:PSet
def SR.cs (x:SR):List Value:=slC x.s
def Below (p:PSet):Prop:=∀j,p j=true->j<4096
/-! ### the view table -/
def SR.it (q:SR):It:=.sl q.s 3 1 ((setI q.p).map inC)
/-! ### the timing of a view -/
/-! ### the sending conditions al the reference asks them -/


/-! ### plain -/
def CpJ (M:List Mv) (n k j:Nat):Prop:=j<=M.length/\∀(i:Nat) y,M[i]?=some y->(i<j ↔ y.f<(n:Int)\/(y.f=(n:Int)/\i<k))
theorem CpJ.end_ {M:List Mv} {n j:Nat} (h:CpJ M n 0 j) (hM:∀y∈M,y.f<(n:Int)):j=M.length:=by
 rcases Nat.lt_or_ge j M.length with c | c
 .obtain⟨x,gx⟩:=get_some (l:=M) (i:=j) c;have:=(h.2 j x gx).2 (.inl (hM x (Yb gx)));omega
 .exact Nat.le_antisymm h.1 c
/-! ### the walk -/
end Go.VC
end

section
namespace Go.VC
open Go.Proofs Go.LexS Go.Maps
def t0:To:=⟨0,0,0⟩
structure Vs where
 a:Int
 b:Int
 h:List Ev
def Vs.p (v:Vs):Int × Int:=(v.a,v.b)
/-! ### the queue -/
structure Vt where
 a:Int
 b:Int
 ahead:Int
 x:Ev
def Vt.cs (v:Vt):List Value:=[.int .i64 v.a,.int .i64 v.b,.int .i64 v.ahead,.bool v.x.send,.int .i64 v.x.peer,.int .i64 v.x.label]
/-! ### what tells states apart, al the table tells it -/
/-! ### the machine whose targets are the least ones of their classes -/
section
variable {m:Mch} {C:List Nat}
end
section
variable {m:Mch} {C:List Nat}
end
section
variable {m:Mch} {C:List Nat}
end
section
variable {m:Mch} {C:List Nat}
end
section
variable {m:Mch} {C:List Nat}
end
section
variable {m:Mch} {C:List Nat}
end
section
variable {m:Mch} {C:List Nat}
end
section
variable {m:Mch} {C:List Nat} {cnt:Nat}
end
section
variable {m:Mch} {C:List Nat} {cnt:Nat}
end
section
variable {m:Mch} {C:List Nat} {cnt:Nat}
end
section
variable {m:Mch} {C:List Nat} {cnt:Nat}
variable {c0:Nat} {M:Mch} {Q:List Nat}
end
section
variable {m:Mch} {C:List Nat} {cnt:Nat}
variable {c0:Nat} {M:Mch} {Q:List Nat}
end
section
variable {m:Mch} {C:List Nat} {cnt:Nat}
variable {c0:Nat} {M:Mch} {Q:List Nat}
end
section
variable {m:Mch} {C:List Nat} {cnt:Nat}
variable {c0:Nat} {M:Mch} {Q:List Nat}
end
section
variable {M K:Mch} {R:Nat->Nat->Prop}
end
section
variable {M K:Mch} {R:Nat->Nat->Prop}
end
section
variable {m:Mch} {C:List Nat} {cnt c0:Nat} {M:Mch} {Q:List Nat}
end
section
variable {m:Mch} {C:List Nat} {cnt c0:Nat} {M:Mch} {Q:List Nat}
end
section
variable {n:Nat} {to:List Nat}
end
section
variable {n:Nat} {to:List Nat}
end
section
variable {n:Nat} {to:List Nat}
end
section
variable {n:Nat} {to:List Nat}
end
end Go.VC
end

section
namespace Go.VC
open Go.Proofs Go.LexS

structure PM where
 m:Mch
 f:Sl
 v:Sl
 l:Sl
def PM.cs (p:PM):List Value:=mC p.m p.f p.v p.l
theorem seenR160 (p:Addr) (role:Int) (x:Ed) (h:Heap) (hp:hc h ⟨p.block,p.off+8,none⟩=some (.int .i64 role)):Fn Pz 106 #[.pointer (some p),.agg ⟨x.cs⟩] h fun v h'=>Ext h h'/\v=(match vis1 role x with | some e=>.tuple ⟨[.agg ⟨e.cs⟩,.bool true]⟩ | none=>.tuple ⟨[.agg ⟨[.bool false,.int .i64 0,.int .i64 0]⟩,.bool false]⟩):=by
 apply vc106 p x.f x.a x.b x.l x.t x.ag;unfold W106;refine (St.refl h).newb fun h7 hs=>?_;refine hs.newb fun h8 hs=>?_;refine⟨role,hc_ext hs.ext hp,x.a,hs.rd 1 rfl (i:=1) rfl,sBe (fun c=>?_) (fun c=>?_)⟩
 .refine⟨x.b,hs.rd 1 rfl (i:=2) rfl,x.l,hs.rd 1 rfl (i:=3) rfl,?_⟩;refine hs.put 0 rfl (o:=0) (vs:=[.bool true,.int .i64 x.b,.int .i64 x.l]) rfl (Yyt 3) fun h13 hs=>?_;refine⟨true,x.b,x.l,hs.at 0 rfl (o:=0) (n:=3) rfl,hs.ext,?_⟩;unfold vis1;rw[if_pos c];rfl
 .refine⟨x.b,hs.rd 1 rfl (i:=2) rfl,sBe (fun c2=>?_) (fun c2=>?_)⟩
  .refine⟨x.a,hs.rd 1 rfl (i:=1) rfl,x.l,hs.rd 1 rfl (i:=3) rfl,?_⟩;refine hs.put 0 rfl (o:=0) (vs:=[.bool false,.int .i64 x.a,.int .i64 x.l]) rfl (Yyt 3) fun h13 hs=>?_;refine⟨false,x.a,x.l,hs.at 0 rfl (o:=0) (n:=3) rfl,hs.ext,?_⟩;unfold vis1;rw[if_neg c,if_pos c2];rfl
  .refine hs.put 0 rfl (o:=0) (vs:=[.bool false,.int .i64 0,.int .i64 0]) rfl (Yyt 3) fun h13 hs=>?_;refine⟨false,0,0,hs.at 0 rfl (o:=0) (n:=3) rfl,hs.ext,?_⟩;unfold vis1;rw[if_neg c,if_neg c2]
theorem moveLen170 (a b s t:Int) (h:Heap):Fn Pz 169 #[.agg ⟨[.int .i64 a,.int .i64 b,.int .i64 s,.int .i64 t]⟩] h fun v h'=>v=.int .i64 (if 0<=a/\0<=b then 2 else 1)/\Ext h h':=by
 apply vc169 a b s t;unfold W169;refine (St.refl h).newb fun h5 hs=>?_;refine⟨a,hs.rd 0 rfl (i:=0) rfl,sBi (fun c=>?_) (fun c=>?_)⟩
 .refine⟨b,hs.rd 0 rfl (i:=1) rfl,sBi (fun c2=>?_) (fun c2=>?_)⟩
  .exact⟨by rw[if_pos ⟨c,c2⟩],hs.ext⟩
  .exact⟨by rw[if_neg fun h=>c2 h.2],hs.ext⟩
 .exact⟨by rw[if_neg fun h=>c h.1],hs.ext⟩
theorem sends215 (L:List Ev) (b:Bool) (s:Sl) (h:Heap) (hr:Rw h 3 s (L.map Ev.cs)):Fn Pz 148 #[.agg ⟨[.slice s.a s.n s.c,.bool b]⟩] h fun v h'=>v=.bool (sndAt L 0)/\Ext h h':=by
 apply vc148 s b;unfold W148;have hn:=hr.ln;refine (St.refl h).newb fun h3 hs=>?_;refine⟨s,hs.rd 0 rfl (i:=0) rfl,sBi (fun c=>?_) (fun c=>?_)⟩
 .refine⟨s,hs.rd 0 rfl (i:=0) rfl,?_⟩;refine (hr.ext hs.ext).nbI (by omega) (by omega) fun b6 o7 e ge t=>?_;replace ge:L[0]?=some e:=ge;refine⟨e.send,t.nth 0 rfl,?_,hs.ext⟩;unfold sndAt;rw[ge]
 .refine⟨?_,hs.ext⟩;have:L=[]:=List.length_eq_zero_iff.1 (by omega);subst this;rfl
theorem mixed174 (L:List Ev) (b:Bool) (s:Sl) (h:Heap) (hr:Rw h 3 s (L.map Ev.cs)) (hl:L.length<=1048576):Fn Pz 149 #[.agg ⟨[.slice s.a s.n s.c,.bool b]⟩] h fun v h'=>v=.bool (sndAt L 0&&(b || !sndAt L (L.length-1)))/\Ext h h':=by
 apply vc149 s b;unfold W149;have hn:=hr.ln;refine (St.refl h).newb fun h3 hs=>?_;refine⟨s,b,hs.at 0 rfl (o:=0) (n:=2) rfl,?_⟩;refine (sends215 L b s h3 (hr.ext hs.ext)).mono ?_;rintro _ h8 ⟨rfl,E⟩;have hs:=hs.step E;refine⟨_,rfl,sB_intro (fun c=>?_) (fun c=>⟨by rw[c];rfl,hs.ext⟩)⟩;have hpos:0<L.length:=by
  cases L with
  | nil=>cases c
  | cons a l=>exact Nat.succ_pos _
 refine⟨b,hs.rd 0 rfl (i:=1) rfl,sB_intro (fun c2=>⟨by rw[c,c2];rfl,hs.ext⟩) (fun c2=>?_)⟩;refine⟨s,hs.rd 0 rfl (i:=0) rfl,s,hs.rd 0 rfl (i:=0) rfl,?_⟩;rw[w64 (n:=(s.n:Int)-1) (by omega) (by omega)];refine (hr.ext hs.ext).nbI (by omega) (by omega) fun b6 o7 e ge t=>?_;rw[show ((s.n:Int)-1).toNat=L.length-1 by omega] at ge;refine⟨e.send,t.nth 0 rfl,?_,hs.ext⟩;have h1:sndAt L (L.length-1)=e.send:=by unfold sndAt;rw[ge]
 rw[c,c2,h1];rfl
theorem compareR204 (x y:Ev) (h:Heap):Fn Pz 185 #[.agg ⟨x.cs⟩,.agg ⟨y.cs⟩] h fun v h'=>v=.int .i64 (cmpE x y)/\Ext h h':=by
 apply vc185 x.send x.peer x.label y.send y.peer y.label;unfold W185;have hs:=St.refl h;refine hs.newb fun h7 hs=>?_;refine hs.newb fun h8 hs=>?_;refine⟨_,hs.rd 1 rfl rfl,?_⟩;refine⟨_,hs.rd 0 rfl rfl,?_⟩;refine sB_intro (fun c=>?_) (fun c=>?_)
 .have hne:x.send≠y.send:=by simpa using c
  refine⟨_,hs.rd 1 rfl rfl,?_⟩;unfold cmpE;rw[if_pos hne];refine sB_intro (fun d=>?_) (fun d=>?_)
  .exact⟨by rw[if_pos d],hs.ext⟩
  .exact⟨by rw[if_neg (by rw[d];simp)],hs.ext⟩
 .have he:x.send=y.send:=by simpa using c
  refine⟨_,hs.rd 1 rfl rfl,_,hs.rd 0 rfl rfl,_,hs.rd 1 rfl rfl,_,hs.rd 0 rfl rfl,?_⟩;refine (cmp110 _ _ _).mono ?_;rintro _ _ ⟨rfl,rfl⟩;refine⟨_,rfl,fun _ _ _ _ hv=>hv,?_⟩;refine (cmp110 _ _ _).mono ?_;rintro _ _ ⟨rfl,rfl⟩;refine⟨_,rfl,fun _ _ _ _ hv=>hv,?_⟩;refine hs.newb fun h22 hs=>?_;have hs2:=hs.blkS 2 1 ([cmpI x.peer y.peer,cmpI x.label y.label].map inC) rfl (inrows _) rfl (by decide);refine (or109 [cmpI x.peer y.peer,cmpI x.label y.label] _ h22 (hs2.rows 0 rfl (by omega)) (show 2<=1048576 by decide)).mono ?_;rintro _ _ ⟨rfl,rfl⟩;refine⟨_,rfl,?_,hs.ext⟩;unfold cmpE;rw[if_neg (by simpa using he)];show Value.int .i64 (orI3 _ (orI3 _ 0))=_;congr 1;unfold orI3;split
  .rfl
  .split<;>omega
theorem ev_extb {x y:Ev} (h:((x.send==y.send)&&((x.peer==y.peer)&&((x.label==y.label)&&true)))=true):x=y:=by
 cases x;cases y;simp_all
theorem indexR280 (L:List Ev) (e:Ev) (s:Sl) (h:Heap) (hr:Rw h 3 s (L.map Ev.cs)) (hl:L.length<=1048576):Fn Pz 295 #[.slice s.a s.n s.c,.agg ⟨e.cs⟩] h fun v h'=>∃i:Int,v=.int .i64 i/\Ext h h'/\(0<=i ↔ e∈L):=by
 apply vc295 s e.send e.peer e.label;unfold W295;have hn:=hr.ln;refine (St.refl h).newb fun h4 hs=>?_;refine up_loopS (n:=s.n) hs (fun i=>∀(j:Nat) x,j<i->L[j]?=some x->x≠e) (fun j x hj=>by omega) ?_;clear hs;rintro-i h9 hi ⟨hs,hq⟩;refine sB_intro (fun c=>?_) (fun c=>?_)
 .replace c:=lt_t c;refine⟨e.send,e.peer,e.label,hs.at 0 rfl (o:=0) (n:=3) rfl,?_⟩;refine (hr.ext hs.ext).nbI (by omega) (by omega) fun b13 o14 x gx t=>?_;replace gx:L[i]?=some x:=gx;refine⟨x.send,x.peer,x.label,t,sB_intro (fun c2=>?_) (fun c2=>?_)⟩
  .have hxe:=ev_extb c2;exact⟨i,rfl,hs.ext,iff_of_true (by omega) (by rw[hxe];exact Yb gx)⟩
  .refine Up.next c (by omega) ⟨hs,fun j x' hj gx'=>?_⟩;by_cases e1:j=i
   .subst e1;rw[gx] at gx';cases gx';rintro rfl;simp at c2
   .exact hq j x' (by omega) gx'
 .replace c:=lt_f c;refine⟨-1,rfl,hs.ext,iff_of_false (by omega) fun hm=>?_⟩;obtain⟨j,hj⟩:=Yf.1 hm;exact hq j e (by have:=(Ya.1 hj).1;omega) hj rfl
theorem containsR251 (L:List Ev) (e:Ev) (s:Sl) (h:Heap) (hr:Rw h 3 s (L.map Ev.cs)) (hl:L.length<=1048576):Fn Pz 263 #[.slice s.a s.n s.c,.agg ⟨e.cs⟩] h (RP (e∈L) h):=by
 apply vc263 s e.send e.peer e.label;unfold W263;refine (St.refl h).newb fun h4 hs=>?_;refine⟨e.send,e.peer,e.label,hs.at 0 rfl (o:=0) (n:=3) rfl,?_⟩;refine (indexR280 L e s h4 (hr.ext hs.ext) hl).mono ?_;rintro _ h10 ⟨i,rfl,E,hi⟩;exact⟨i,rfl,RP.e (by rw[decide_eq_true_eq];exact hi) (hs.step E).ext⟩
theorem hasR214 (L:List Ev) (b:Bool) (e:Ev) (s:Sl) (h:Heap) (hr:Rw h 3 s (L.map Ev.cs)) (hl:L.length<=1048576):Fn Pz 214 #[.agg ⟨[.slice s.a s.n s.c,.bool b]⟩,.agg ⟨e.cs⟩] h (RP (e∈L) h):=by
 apply vc214 s b e.send e.peer e.label;unfold W214;refine (St.refl h).newb fun h6 hs=>?_;refine hs.newb fun h7 hs=>?_;refine⟨s,hs.rd 1 rfl (i:=0) rfl,e.send,e.peer,e.label,hs.at 0 rfl (o:=0) (n:=3) rfl,?_⟩;refine (containsR251 L e s h7 (hr.ext hs.ext) hl).mono ?_;rintro _ h14 ⟨⟨b2,rfl,hb⟩,E⟩;exact⟨b2,rfl,⟨b2,rfl,hb⟩,(hs.step E).ext⟩
structure Lm where
 k:Int
 x:Ev
def Lm.cs (l:Lm):List Value:=[.int .i64 l.k,.bool l.x.send,.int .i64 l.x.peer,.int .i64 l.x.label]
structure Fs where
 s:Sl
 l:List Ev
 b:Bool
def Fs.cs (f:Fs):List Value:=[.slice f.s.a f.s.n f.s.c,.bool f.b]
structure AnR (h:Heap) (p:Addr) (role:Int) (hfi hli hag how:Sl) (fi:List Fs) (li:List Lm) (ag ow:List Bool):Prop where
 ro:hc h ⟨p.block,p.off+8,none⟩=some (.int .i64 role)
 f:hc h ⟨p.block,p.off+10,none⟩=some (.slice hfi.a hfi.n hfi.c)
 l:hc h ⟨p.block,p.off+11,none⟩=some (.slice hli.a hli.n hli.c)
 a:hc h ⟨p.block,p.off+12,none⟩=some (.slice hag.a hag.n hag.c)
 o:hc h ⟨p.block,p.off+13,none⟩=some (.slice how.a how.n how.c)
 rf:RL h 2 hfi Fs.cs fi
 re:∀f∈fi,RL h 3 f.s Ev.cs f.l
 rl:RL h 4 hli Lm.cs li
 ra:RL h 1 hag bC ag
 rw:RL h 1 how bC ow
theorem AnR.ext {h h':Heap} {p:Addr} {role:Int} {hfi hli hag how:Sl} {fi:List Fs} {li:List Lm} {ag ow:List Bool} (hA:AnR h p role hfi hli hag how fi li ag ow) (E:Ext h h'):AnR h' p role hfi hli hag how fi li ag ow:=
 ⟨hc_ext E hA.ro,hc_ext E hA.f,hc_ext E hA.l,hc_ext E hA.a,hc_ext E hA.o,hA.rf.ext E,fun f hf=>(hA.re f hf).ext E,hA.rl.ext E,hA.ra.ext E,hA.rw.ext E⟩
theorem lm_eq {x y:Lm}:((x.k==y.k)&&(((x.x.send==y.x.send)&&((x.x.peer==y.x.peer)&&((x.x.label==y.x.label)&&true)))&&true))=true ↔ x=y:=by
 constructor
 .intro h;obtain⟨k,e⟩:=x;obtain⟨k',e'⟩:=y;cases e;cases e'
  simp_all
 .rintro rfl;simp
def ClA (li:List Lm) (ag ow:List Bool) (s t:Nat):Prop:=ow[s]?=some true/\ow[t]?=some true/\(li[s]?≠li[t]?\/ag[s]?≠ag[t]?)
theorem clockR213 (p:Addr) (role:Int) (hfi hli hag how:Sl) (fi:List Fs) (li:List Lm) (ag ow:List Bool) (s t:Nat) (h:Heap) (hA:AnR h p role hfi hli hag how fi li ag ow) (l1:s<ow.length/\t<ow.length) (l2:s<li.length/\t<li.length) (l3:s<ag.length/\t<ag.length) :
  Fn Pz 151 #[.pointer (some p),.agg ⟨[.int .i64 (s:Nat),.int .i64 (t:Nat)]⟩] h (RP (ClA li ag ow s t) h):=by
 apply vc151 p (s:Nat) (t:Nat);unfold W151;have n1:=hA.rw.ln;have n2:=hA.rl.ln;have n3:=hA.ra.ln;refine (St.refl h).newb fun h3 hs=>?_;have hA:=hA.ext hs.ext;refine⟨how,hA.o,s,hs.rd 0 rfl (i:=0) rfl,?_⟩;refine hA.rw.rw.nbI (by omega) (by omega) fun _ _ o1 g1 u1=>⟨o1,u1.hd,sB_intro (fun c1=>?_) (fun c1=>RP.f (fun hc=>?_) hs.ext)⟩
 case refine_2=>
  have:=hc.1;rw[show ow[s]?=some o1 from g1,c1] at this;cases this
 refine⟨how,hA.o,t,hs.rd 0 rfl (i:=1) rfl,?_⟩;refine hA.rw.rw.nbI (by omega) (by omega) fun _ _ o2 g2 u2=>⟨o2,u2.hd,sB_intro (fun c2=>?_) (fun c2=>RP.f (fun hc=>?_) hs.ext)⟩
 case refine_2=>
  have:=hc.2.1;rw[show ow[t]?=some o2 from g2,c2] at this;cases this
 refine⟨hli,hA.l,s,hs.rd 0 rfl (i:=0) rfl,?_⟩;refine hA.rl.rw.nbI (by omega) (by omega) fun _ _ x gx ux=>⟨x.k,x.x.send,x.x.peer,x.x.label,ux,hli,hA.l,t,hs.rd 0 rfl (i:=1) rfl,?_⟩;refine hA.rl.rw.nbI (by omega) (by omega) fun _ _ y gy uy=>⟨y.k,y.x.send,y.x.peer,y.x.label,uy,?_⟩;replace gx:li[s]?=some x:=gx;replace gy:li[t]?=some y:=gy;replace g1:ow[s]?=some o1:=g1;replace g2:ow[t]?=some o2:=g2;rw[c1] at g1;rw[c2] at g2;refine sB_intro (fun c3=>RP.t ⟨g1,g2,.inl fun e=>?_⟩ hs.ext) (fun c3=>?_)
 .rw[gx,gy] at e;have:=lm_eq.2 (Yyp e);rw[this] at c3;cases c3
 have hxy:x=y:=lm_eq.1 (by simpa using c3);refine⟨hag,hA.a,s,hs.rd 0 rfl (i:=0) rfl,?_⟩;refine hA.ra.rw.nbI (by omega) (by omega) fun _ _ a1 k1 v1=>⟨a1,v1.hd,hag,hA.a,t,hs.rd 0 rfl (i:=1) rfl,?_⟩;refine hA.ra.rw.nbI (by omega) (by omega) fun _ _ a2 k2 v2=>⟨a2,v2.hd,RP.e ?_ hs.ext⟩;replace k1:ag[s]?=some a1:=k1;replace k2:ag[t]?=some a2:=k2;unfold ClA;rw[g1,g2,gx,gy,k1,k2,hxy];cases a1<;>cases a2<;>simp
theorem find_at {α:Type} {p:α->Bool}:∀(L:List α) (i:Nat) (x:α),(∀(j:Nat) y,j<i->L[j]?=some y->p y=false)->L[i]?=some x->p x=true->L.find? p=some x
 | [],i,x,_,h,_=>by cases h
 | a::L,0,x,_,h,hp=>by cases h;exact List.find?_cons_of_pos hp
 | a::L,i+1,x,hq,h,hp=>by
  rw[List.find?_cons_of_neg (by rw[hq 0 a (by omega) rfl];decide)];exact find_at L i x (fun j y hj hy=>hq (j+1) y (by omega) hy) h hp
theorem find_no {α:Type} {p:α->Bool} {L:List α} (h:∀(j:Nat) y,L[j]?=some y->p y=false):L.find? p=none:=by
 rw[List.find?_eq_none];intro x hx;obtain⟨j,hj⟩:=Yf.1 hx;rw[h j x hj];decide
def difP (K:List Ev) (x:Ev):Bool:=x.send && !decide (x∈K)
theorem differR171 (p:Addr) (role:Int) (hfi hli hag how:Sl) (fi:List Fs) (li:List Lm) (ag ow:List Bool) (s t:Nat) (fs ft:Fs) (h:Heap) (hA:AnR h p role hfi hli hag how fi li ag ow) (gs:fi[s]?=some fs) (gt:fi[t]?=some ft) :
  Fn Pz 170 #[.pointer (some p),.agg ⟨[.int .i64 (s:Nat),.int .i64 (t:Nat)]⟩] h fun v h'=>Ext h h'/\v=(match fs.l.find? (difP ft.l) with | some x=>.tuple ⟨[.agg ⟨x.cs⟩,.bool true]⟩ | none=>.tuple ⟨[.agg ⟨[.bool false,.int .i64 0,.int .i64 0]⟩,.bool false]⟩):=by
 apply vc170 p (s:Nat) (t:Nat);unfold W170;have n1:=hA.rf.ln;have ls:=(Ya.1 gs).1;have lt:=(Ya.1 gt).1;have hfs:=hA.re fs (Yb gs);have hft:=hA.re ft (Yb gt);have n2:=hfs.ln;have m2:=hfs.sm;refine (St.refl h).newb fun h3 hs=>?_;refine hs.newb fun h4 hs=>?_;refine⟨hfi,(hA.ext hs.ext).f,s,hs.rd 1 rfl (i:=0) rfl,?_⟩;refine (hA.rf.ext hs.ext).rw.nbI (by omega) (by omega) fun b7 o8 f gf u=>?_;replace gf:fi[s]?=some f:=gf;rw[gs] at gf;cases gf;refine⟨fs.s,u.nth 0 rfl,?_⟩;refine up_loopS (n:=fs.s.n) hs (fun i=>∀(j:Nat) x,j<i->fs.l[j]?=some x->difP ft.l x=false) (fun j x hj=>by omega) ?_;clear hs;rintro-i h14 hi ⟨hs,hq⟩;refine sB_intro (fun c=>?_) (fun c=>?_)
 .replace c:=lt_t c;refine (hfs.ext hs.ext).rw.nbI (by omega) (by omega) fun b15 o16 x gx ux=>?_;replace gx:fs.l[i]?=some x:=gx;refine⟨x.send,x.peer,x.label,ux,?_⟩;refine hs.newput (vs:=x.cs) rfl rfl fun h21 hs=>?_;have nxt:∀ {hZ:Heap},Ext h21 hZ->difP ft.l x=false->∃m42,m42<fs.s.n-i/\Up fs.s.n (fun i h'=>St h h' [.blk h3.size [.bool false,.int .i64 0,.int .i64 0] 188,.blk h.size [.int .i64 (s:Nat),.int .i64 (t:Nat)] 97]/\∀(j:Nat) x,j<i->fs.l[j]?=some x->difP ft.l x=false) (IntKind.wrap .i64 ((i:Int)+1)) hZ m42:=fun {hZ} E hd=>by
   refine Up.next c (by omega) ⟨(hs.step E).drop 1,fun j y hj gy=>?_⟩;by_cases e:j=i
   .subst e;rw[gx] at gy;cases gy;exact hd
   .exact hq j y (by omega) gy
  refine⟨x.send,hs.rd 0 rfl (i:=0) rfl,sB_intro (fun c2=>?_) (fun c2=>nxt .rfl' (by unfold difP;rw[c2];rfl))⟩;refine⟨hfi,(hA.ext hs.ext).f,t,hs.rd 2 rfl (i:=1) rfl,?_⟩;refine (hA.rf.ext hs.ext).rw.nbI (by omega) (by omega) fun b25 o26 f2 gf2 u2=>?_;replace gf2:fi[t]?=some f2:=gf2;rw[gt] at gf2;cases gf2;refine⟨ft.s,ft.b,u2,x.send,x.peer,x.label,hs.at 0 rfl (o:=0) (n:=3) rfl,?_⟩;refine (hasR214 ft.l ft.b x ft.s h21 (hft.ext hs.ext).rw hft.sm).mono ?_;rintro _ h34 ⟨⟨b,rfl,hb⟩,E⟩;refine⟨b,rfl,E.sm,sB_intro (fun c3=>?_) (fun c3=>nxt E ?_)⟩
  .have hs:=hs.step E;have hno:x∉ft.l:=iff_f hb (bF c3);refine⟨x.send,x.peer,x.label,hs.at 0 rfl (o:=0) (n:=3) rfl,?_⟩;refine hs.put 1 rfl (o:=0) (vs:=x.cs) rfl (Yyt 3) fun h38 hs=>?_;refine⟨x.send,x.peer,x.label,hs.at 1 rfl (o:=0) (n:=3) rfl,hs.ext,?_⟩;rw[find_at fs.l i x hq gx (by unfold difP;rw[c2,decide_eq_false hno];rfl)];rfl
  .unfold difP;rw[decide_eq_true (hb.1 (bT c3))];simp
 .replace c:=lt_f c;refine hs.put 0 rfl (o:=0) (vs:=[.bool false,.int .i64 0,.int .i64 0]) rfl (Yyt 3) fun h44 hs=>?_;refine⟨false,0,0,hs.at 0 rfl (o:=0) (n:=3) rfl,hs.ext,?_⟩;rw[find_no fun j y hj=>hq j y (by have:=(Ya.1 hj).1;omega) hj]
theorem und257:Pz.underlying 193=some (.slice 188):=by kernel_rfl
theorem zero252 (w:World):(zeroValue 188).run Pz w=.ok (.agg #[.bool false,.int .i64 0,.int .i64 0]) w:=by
 have hi:(Pz.info? 188).bind (·.zero)=some (.agg #[.bool false,.int .i64 0,.int .i64 0]):=by kernel_rfl
 cases h:Pz.info? 188 with
 | none=>rw[h] at hi;cases hi
 | some i=>rw[h] at hi;simp only[Option.bind_some] at hi;simp[zeroValue,typeInfo,h,hi]
theorem compact205 {h0 h:Heap} {L:List It} (hs:St h0 h L) (k:Nat) {s:Sl} {l:List Ev} (hk:L[k]?=some (.sl s 188 3 (l.map Ev.cs))) (hm:l.length<=1048576) :
  Fn Pz 186 #[.slice s.a s.n s.c] h fun v h'=>∃r:Sl,v=.slice r.a r.n r.c/\St h0 h' (L.set k (.sl r 188 3 ((compactL l).map Ev.cs))):=by
 apply vc186 s;unfold W186;have hlen:=hs.len k hk (by omega);have hn:s.n=l.length:=by rw[hlen.1,Yc]
 have hkl:k<L.length:=(Ya.1 hk).1;have hset:L.set k (.sl s 188 3 (l.map Ev.cs))=L:=by
  obtain⟨a,b⟩:=Ya.1 hk;rw[<-b];exact List.set_getElem_self a
 have hself:compactL l=l->(∃r:Sl,Value.slice s.a s.n s.c=.slice r.a r.n r.c/\St h0 h (L.set k (.sl r 188 3 ((compactL l).map Ev.cs)))):=fun e=>⟨s,rfl,by rw[e,hset];exact hs⟩;refine sB_intro (fun c=>?_) (fun c=>?_)
 .have:l.length<2:=by have:=Yyn c;omega
  refine hself ?_
  match l,this with
  | [],_=>rfl
  | [a],_=>rfl
 .have h2:2<=l.length:=by have:=Yyo c;omega
  refine⟨fun x h' m=>∃i:Nat,x=i/\1<=i/\i<=l.length/\m=l.length-i/\h'=h/\compactL (l.take i)=l.take i,⟨_,1,rfl,by omega,by omega,rfl,rfl,?_⟩,?_⟩
  .match l,h2 with
   | a::r,_=>rfl
  rintro-x h5 m ⟨i,rfl,hi1,hin,rfl,rfl,hcc⟩;refine sB_intro (fun l2=>?_) (fun l2=>?_)
  .replace l2:=lt_t l2;have hrw:=hs.rows k hk (by omega);refine hrw.nbI (by omega) (by omega) fun b o x1 g t=>?_;replace g:l[i]?=some x1:=g;refine⟨_,_,_,t,?_⟩;have hw1:IntKind.wrap .i64 ((i:Int)-1)=((i-1:Nat):Int):=by rw[w64 (by omega) (by omega)];omega
   rw[hw1];refine hrw.nbI (x:=((i-1:Nat):Int)) (by omega) (by omega) fun b' o' y1 g' t'=>?_;replace g':l[i-1]?=some y1:=g';refine⟨_,_,_,t',?_⟩;rw[evEq];have hstep:=compactL_step g hi1 g';refine sB_intro (fun e=>?_) (fun e=>?_)
   .replace e:=Yyn e;rw[if_pos e,hcc] at hstep;have hcap:=hlen.2.1;refine⟨⟨by omega,by omega,by omega⟩,?_⟩;refine⟨fun kk x h' m=>∃(q j:Nat) (cl:List Ev),kk=q/\x=j/\1<=j/\i+j<=l.length/\q<=i+j-1/\m=l.length-j/\cl.length=l.length/\cl.take q=compactL (l.take (i+j))/\(∀a,i+j-1<=a->cl[a]?=l[a]?)/\St h0 h' (L.set k (.sl s 188 3 (cl.map Ev.cs))),
     ⟨_,i,1,l,rfl,rfl,by omega,by omega,by omega,rfl,rfl,hstep.symm,fun _ _=>rfl,by rw[hset];exact hs⟩,?_⟩
    rintro-kk x h21 m' ⟨q,j,cl,rfl,rfl,hj1,hjn,hq,rfl,hcl,hct,hun,hs⟩;have hkI:(L.set k (.sl s 188 3 (cl.map Ev.cs)))[k]?=some (.sl s 188 3 (cl.map Ev.cs)):=by rw[Yq hkl]
    have hfrom:=(hs.rows k hkI (by omega)).from (i:=i) (by omega) (by omega)
    rw[<-List.map_drop] at hfrom;have hti:Int.toNat ((s.n:Nat):Int)-Int.toNat ((i:Nat):Int)=s.n-i:=by simp
    have htI:Int.toNat ((i:Nat):Int)=i:=by simp
    refine sB_intro (fun c2=>?_) (fun c2=>?_)
    .have hjl:i+j<l.length:=by have:=Yyn c2;rw[hti] at this;omega
     rw[hti,htI];refine hfrom.nbI (x:=(j:Int)) (by omega) (by show (j:Int)<((s.n-i:Nat):Int);omega) fun b2 o2 x2 g2 t2=>?_;replace g2:(cl.drop i)[j]?=some x2:=g2;rw[List.getElem?_drop,hun _ (by omega)] at g2;refine⟨_,_,_,t2,?_⟩;have hw2:IntKind.wrap .i64 ((j:Int)-1)=((j-1:Nat):Int):=by rw[w64 (by omega) (by omega)];omega
     rw[hw2];refine hfrom.nbI (x:=((j-1:Nat):Int)) (by omega) (by show ((j-1:Nat):Int)<((s.n-i:Nat):Int);omega) fun b3 o3 y2 g3 t3=>?_;replace g3:(cl.drop i)[j-1]?=some y2:=g3;rw[List.getElem?_drop,show i+(j-1)=i+j-1 by omega,hun _ (by omega)] at g3;refine⟨_,_,_,t3,?_⟩;rw[evEq];have hst2:=compactL_step g2 (by omega) g3;have hwj:IntKind.wrap .i64 ((j:Int)+1)=((j+1:Nat):Int):=by rw[w64 (by omega) (by omega)];omega
     have hwq:IntKind.wrap .i64 ((q:Int)+1)=((q+1:Nat):Int):=by rw[w64 (by omega) (by omega)];omega
     refine sB_intro (fun e2=>?_) (fun e2=>?_)
     .have hne:x2≠y2:=by simpa using e2
      rw[if_neg hne] at hst2;refine hfrom.nbI (x:=(j:Int)) (by omega) (by show (j:Int)<((s.n-i:Nat):Int);omega) fun b4 o4 x3 g4 t4=>?_;replace g4:(cl.drop i)[j]?=some x3:=g4;rw[List.getElem?_drop,hun _ (by omega)] at g4;rw[g2] at g4;cases g4;refine⟨_,_,_,t4,?_⟩;refine hs.set k hkI (by omega) (x:=(q:Int)) (by omega) (by omega) x2 rfl rfl (fun b5 o5 h39 hs=>?_) rfl;rw[List.set_set] at hs;refine⟨l.length-(j+1),by omega,q+1,j+1,cl.set q x2,hwq,hwj,by omega,by omega,by omega,rfl,by rw[Yyh];exact hcl,?_,?_,hs⟩
      .rw[show i+(j+1)=i+j+1 by omega,hst2,<-hct,take_snoc (x:=x2) (by rw[Yq (by omega)]),List.take_set_of_le (Yyt _)]
      .intro a ha;rw[Yy (by omega)];exact hun a (by omega)
     .have heq:x2=y2:=by simpa using e2
      rw[if_pos heq] at hst2;refine⟨l.length-(j+1),by omega,q,j+1,cl,rfl,hwj,by omega,by omega,by omega,rfl,hcl,?_,fun a ha=>hun a (by omega),hs⟩;rw[show i+(j+1)=i+j+1 by omega,hst2];exact hct
    .have hjl:i+j=l.length:=by have:=Yyo c2;rw[hti] at this;omega
     refine⟨⟨by omega,by omega,by omega⟩,?_⟩;have htq:Int.toNat ((q:Nat):Int)=q:=by simp
     have htn:Int.toNat ((s.n:Nat):Int)=s.n:=by simp
     rw[htq,htn];refine hs.clear k hkI (by omega) q (by omega) und257 zero252 rfl rfl fun v h42 hs=>?_;refine⟨⟨by omega,by omega,by omega⟩,⟨s.a,q,s.c⟩,?_,?_⟩
     .rw[show Int.toNat 0=0 from rfl,subA_zero];rfl
     .rw[List.set_set,<-List.map_take,hct,hjl,Yye] at hs;exact hs
   .replace e:=Yyo e;rw[if_neg e,hcc] at hstep;refine⟨l.length-(i+1),by omega,i+1,by rw[w64 (by omega) (by omega)];omega,by omega,by omega,rfl,rfl,?_⟩;rw[hstep,take_snoc g]
  .replace l2:=lt_f l2;rw[Yj (by omega)] at hcc;exact hself hcc
end Go.VC
end

section
namespace Go.VC
open Go.Proofs Go.LexS Go.Shelf
theorem swoMs:Go.Sort.SWO (ltOf cmpMs) where
 irrefl x:=by unfold ltOf;rw[decide_eq_false_iff_not,cmpMs_neg];unfold msLt;omega
 trans x y z h1 h2:=by unfold ltOf at *;rw[decide_eq_true_eq,cmpMs_neg] at *;unfold msLt at *;omega
 ntrans x y z h1 h2:=by unfold ltOf at *;rw[decide_eq_false_iff_not,cmpMs_neg] at *;unfold msLt at *;omega
theorem swoEd:Go.Sort.SWO (ltOf cmpEd) where
 irrefl x:=by unfold ltOf cmpEd;rw[decide_eq_false_iff_not,cmpA_neg];unfold acLt;omega
 trans x y z h1 h2:=by unfold ltOf cmpEd at *;rw[decide_eq_true_eq,cmpA_neg] at *;unfold acLt at *;omega
 ntrans x y z h1 h2:=by unfold ltOf cmpEd at *;rw[decide_eq_false_iff_not,cmpA_neg] at *;unfold acLt at *;omega
instance:Inhabited Ms:=⟨⟨0,0⟩⟩
instance:Inhabited Ed:=⟨⟨0,0,0,0,0,false⟩⟩
theorem sort203 {h0 h:Heap} {L:List It} (hs:St h0 h L) (k:Nat) {s:Sl} {l:List Ev} (hk:L[k]?=some (.sl s 188 3 (l.map Ev.cs))) (hm:l.length<=1048576) :
  Fn Pz 184 #[.slice s.a s.n s.c,.func (.func 185) #[] #[]] h fun v h'=>v=.tuple ⟨[]⟩/\∃l':List Ev,l'.Perm l/\l'.Pairwise (fun a b=>¬evLt b a)/\St h0 h' (L.set k (.sl s 188 3 (l'.map Ev.cs))):=by
 refine Fn.mono (sort_own Tryz.sortL203 3 188 Tryz.isAgg188 Tryz.sizeOf188 Ev.cs (fun _=>rfl) (fun x v hv=>by simp[Ev.cs] at hv;rcases hv with rfl | rfl | rfl<;>rfl) cmpE swoE 185 (enters_of Tryz.func185 (by kernel_rfl) rfl) (fun x y h=>@M.compareR204 monoDrawn x y h) hs k hk (by omega) (by omega)) ?_;rintro v h' ⟨rfl,l',hp,hw,hs'⟩;exact⟨rfl,l',hp,hw.imp fun {a b} hab=>by unfold ltOf at hab;rw[decide_eq_false_iff_not,cmpE_neg] at hab;exact hab,hs'⟩
theorem sort207 {h0 h:Heap} {L:List It} (hs:St h0 h L) (k:Nat) {s:Sl} {l:List Ms} (hk:L[k]?=some (.sl s 72 2 (l.map Ms.cs))) (hm:l.length<=1048576) :
  Fn Pz 69 #[.slice s.a s.n s.c,.func (.func 70) #[] #[]] h fun v h'=>v=.tuple ⟨[]⟩/\∃l':List Ms,l'.Perm l/\l'.Pairwise (fun a b=>¬msLt b a)/\St h0 h' (L.set k (.sl s 72 2 (l'.map Ms.cs))):=by
 refine Fn.mono (sort_own Tryz.sortL207 2 72 Tryz.isAgg72 Tryz.sizeOf72 Ms.cs (fun _=>rfl) (fun x v hv=>by simp[Ms.cs] at hv;rcases hv with rfl | rfl<;>rfl) cmpMs swoMs 70 (enters_of Tryz.func70 (by kernel_rfl) rfl) (fun x y h=>@M.cmpM208 monoDrawn x y h) hs k hk (by omega) (by omega)) ?_;rintro v h' ⟨rfl,l',hp,hw,hs'⟩;exact⟨rfl,l',hp,hw.imp fun {a b} hab=>by unfold ltOf at hab;rw[decide_eq_false_iff_not,cmpMs_neg] at hab;exact hab,hs'⟩
theorem sort243 {h0 h:Heap} {L:List It} (hs:St h0 h L) (k:Nat) {s:Sl} {l:List Ed} (hk:L[k]?=some (.sl s 67 6 (l.map Ed.cs))) (hm:l.length<=1048576) :
  Fn Pz 128 #[.slice s.a s.n s.c,.func (.func 129) #[] #[]] h fun v h'=>v=.tuple ⟨[]⟩/\∃l':List Ed,l'.Perm l/\l'.Pairwise (fun a b=>¬acLt b.act a.act)/\St h0 h' (L.set k (.sl s 67 6 (l'.map Ed.cs))):=by
 refine Fn.mono (sort_own Tryz.sortL243 6 67 Tryz.isAgg67 Tryz.sizeOf67 Ed.cs (fun _=>rfl) (fun x v hv=>by simp[Ed.cs] at hv;rcases hv with rfl | rfl | rfl | rfl | rfl | rfl<;>rfl) cmpEd swoEd 129 (enters_of Tryz.func129 (by kernel_rfl) rfl) (fun x y h=>@M.cmpE244 monoDrawn x y h) hs k hk (by omega) (by omega)) ?_;rintro v h' ⟨rfl,l',hp,hw,hs'⟩;exact⟨rfl,l',hp,hw.imp fun {a b} hab=>by unfold ltOf cmpEd at hab;rw[decide_eq_false_iff_not,cmpA_neg] at hab;exact hab,hs'⟩
end Go.VC
end

section
namespace Go.VC
open Go.Proofs Go.LexS
structure AnG (h:Heap) (b:Nat) (g:Gl) (role:Int) (ho:Sl) (os:Nat->Sl):Prop where
 at_:atC h ⟨b,0,none⟩ (g.cs++[.int .i64 role,.slice ho.a ho.n ho.c])
 gi:GI h g
 ro:Rw h 1 ho ((List.range g.n.toNat).map fun i=>slC (os i))
 rs:∀i,i<g.n.toNat->Rw h 1 (os i) ((natI (outG g.es (i:Nat))).map inC)
theorem AnG.ext {h h':Heap} {b:Nat} {g:Gl} {role:Int} {ho:Sl} {os:Nat->Sl} (hA:AnG h b g role ho os) (E:Ext h h'):AnG h' b g role ho os:=
 ⟨atC_ext E hA.at_,hA.gi.ext E,hA.ro.ext E,fun i hi=>(hA.rs i hi).ext E⟩
theorem CL.perm {es:List Ed} {role:Int} {n:Nat} {l:List Int} {D:List Bool} {T T':List Int} (h:CL es role n l D T) (hp:T.Perm T'):CL es role n l D T':=
 ⟨h.len,by rw[<-hp.length_eq];exact h.cnt,fun v=>hp.mem_iff.symm.trans (h.mem v),fun v hv=>h.r v (hp.mem_iff.2 hv)⟩
def evIx (es:List Ed) (role:Int) (k:Nat):Option Ev:=(es[k]?).bind (vis1 role)
theorem fm_range {α β:Type} (f:α->Option β) (es:List α):es.filterMap f=(List.range es.length).filterMap fun i=>(es[i]?).bind f:=by
 have key:∀n,n<=es.length->(es.take n).filterMap f=(List.range n).filterMap fun i=>(es[i]?).bind f:=by
  intro n
  induction n with
  | zero=>intro _;simp
  | succ n ih=>
   intro hn;have hx:=Yi (l:=es) (i:=n) (by omega);rw[List.range_succ,List.filterMap_append,<-ih (by omega),take_snoc hx,List.filterMap_append];congr 1;simp only[List.filterMap_cons,List.filterMap_nil,hx,Option.bind_some]
 have:=key es.length (Yyt _)
 rwa [Yye] at this
theorem fm_congr {α β:Type} {f g:α->Option β}:∀ {l:List α},(∀x∈l,f x=g x)->l.filterMap f=l.filterMap g
 | [],_=>rfl
 | a::l,h=>by rw[List.filterMap_cons,List.filterMap_cons,h a (by simp),fm_congr fun x hx=>h x (Yn _ hx)]
theorem visI (es:List Ed) (role:Int) (n:Nat):(outG es (n:Nat)).filterMap (evIx es role)=(visL es role n).map (·.x):=by
 unfold outG visL;rw[List.filterMap_filter,List.map_filterMap,fm_range _ es];refine fm_congr fun i hi=>?_;unfold outGP evIx;have hx:=Yi (l:=es) (i:=i) (by simpa using hi);rw[hx];simp only[Option.bind_some];by_cases h:(es[i]'(by simpa using hi)).f=(n:Int)
 .simp only[h,decide_true,if_true,Option.map_map];cases vis1 role _<;>rfl
 .simp only[h,decide_false,if_false,Bool.false_eq_true,Option.map_none]
def evP (es:List Ed) (role:Int) (v:Int):List Ev:=(visL es role v.toNat).map (·.x)
structure FI (g:Gl) (role s:Int) (D:List Bool) (P T:List Int) (E:List Ev):Prop where
 cl:CL g.es role g.n.toNat [s] D (P++T)
 nd:(P++T).Nodup
 q:∀v∈P,∀b∈quietL g.es role v.toNat,b∈P++T
 e:E=P.flatMap (evP g.es role)
 s:s∈P++T
structure FJ (g:Gl) (role s:Int) (v:Int) (j:Nat) (D:List Bool) (P T:List Int) (E:List Ev):Prop where
 cl:CL g.es role g.n.toNat [s] D (P++v::T)
 nd:(P++v::T).Nodup
 q:∀w∈P,∀b∈quietL g.es role w.toNat,b∈P++v::T
 qj:∀k∈(outG g.es v).take j,∀x,g.es[k]?=some x->vis1 role x=none->x.t∈P++v::T
 e:E=P.flatMap (evP g.es role)++((outG g.es v).take j).filterMap (evIx g.es role)
 s:s∈P++v::T
theorem FI.pop {g:Gl} {role s v:Int} {D:List Bool} {P T:List Int} {E:List Ev} (h:FI g role s D P (T++[v]) E):FJ g role s v 0 D P T E:=by
 have hp:(P++(T++[v])).Perm (P++v::T):=List.Perm.append_left P List.perm_append_comm;exact⟨h.cl.perm hp,hp.nodup_iff.1 h.nd,fun w hw b hb=>hp.mem_iff.1 (h.q w hw b hb),fun k hk=>by simp at hk,by rw[h.e];simp,hp.mem_iff.1 h.s⟩
theorem FJ.fin {g:Gl} {role s v:Int} {D:List Bool} {P T:List Int} {E:List Ev} {j:Nat} (h:FJ g role s v j D P T E) (h0:0<=v) (hj:(outG g.es v).length<=j):FI g role s D (P++[v]) T E:=by
 have hp:P++v::T=P++[v]++T:=by simp
 obtain⟨n,rfl⟩:∃n:Nat,v=n:=⟨v.toNat,by omega⟩;refine⟨hp ▸ h.cl,hp ▸ h.nd,fun w hw b hb=>?_,?_,hp ▸ h.s⟩
 .rw[<-hp];rcases Yk.1 hw with hw | hw
  .exact h.q w hw b hb
  .rw[Ye] at hw;subst hw;obtain⟨x,hx,hv,hf,rfl⟩:=quietL_mem.1 hb;obtain⟨k,hk⟩:=Yf.1 hx;exact h.qj k (by rw[Yj hj];exact outG_mem.2 ⟨x,hk,by omega⟩) x hk hv
 .rw[h.e,Yj hj,visI,List.flatMap_append];unfold evP;simp
theorem FJ.vis {g:Gl} {role s v:Int} {D:List Bool} {P T:List Int} {E:List Ev} {j k:Nat} {x:Ed} {e:Ev} (h:FJ g role s v j D P T E) (hk:(outG g.es v)[j]?=some k) (hx:g.es[k]?=some x) (hv:vis1 role x=some e):FJ g role s v (j+1) D P T (E++[e]):=by
 refine⟨h.cl,h.nd,h.q,fun i hi y hy hn=>?_,?_,h.s⟩
 .rw[take_snoc hk,Yk,Ye] at hi;rcases hi with hi | rfl
  .exact h.qj i hi y hy hn
  .rw[hx] at hy;cases hy;rw[hv] at hn;cases hn
 .rw[take_snoc hk,List.filterMap_append,<-Yz,<-h.e];simp[evIx,hx,hv]
theorem FJ.old {g:Gl} {role s v:Int} {D:List Bool} {P T:List Int} {E:List Ev} {j k:Nat} {x:Ed} (h:FJ g role s v j D P T E) (hk:(outG g.es v)[j]?=some k) (hx:g.es[k]?=some x) (hv:vis1 role x=none) (h0:0<=x.t) (hd:D[x.t.toNat]?=some true):FJ g role s v (j+1) D P T E:=by
 refine⟨h.cl,h.nd,h.q,fun i hi y hy hn=>?_,?_,h.s⟩
 .rw[take_snoc hk,Yk,Ye] at hi;rcases hi with hi | rfl
  .exact h.qj i hi y hy hn
  .rw[hx] at hy;cases hy;exact (h.cl.mem _).2 ⟨h0,hd⟩
 .rw[take_snoc hk,List.filterMap_append,<-Yz,<-h.e];simp[evIx,hx,hv]
theorem FJ.new {g:Gl} {role s v:Int} {D:List Bool} {P T:List Int} {E:List Ev} {j k:Nat} {x:Ed} (h:FJ g role s v j D P T E) (hk:(outG g.es v)[j]?=some k) (hx:g.es[k]?=some x) (hv:vis1 role x=none) (h0:0<=x.t) (hd:D[x.t.toNat]?=some false):FJ g role s v (j+1) (D.set x.t.toNat true) P (T++[x.t]) E:=by
 have hvm:Qr g.es role [s] v:=h.cl.r v (by simp);have hkm:=outG_mem.1 (Yb hk);obtain⟨x',hx',hf⟩:=hkm;rw[hx] at hx';cases hx';have hcl:=h.cl.push h0 hd (.step hvm ⟨x,Yb hx,hv,hf,rfl⟩);have hp:P++v::T++[x.t]=P++v::(T++[x.t]):=by simp
 rw[hp] at hcl;have hno:x.t∉P++v::T:=fun hm=>by have:=((h.cl.mem _).1 hm).2;rw[hd] at this;cases this
 refine⟨hcl,?_,fun w hw b hb=>?_,fun i hi y hy hn=>?_,?_,?_⟩
 .rw[<-hp,List.nodup_append];exact⟨h.nd,by simp,fun a ha c hc e=>by rw[Ye] at hc;subst hc;subst e;exact hno ha⟩
 .rw[<-hp];exact List.mem_append_left _ (h.q w hw b hb)
 .rw[<-hp];rw[take_snoc hk,Yk,Ye] at hi;rcases hi with hi | rfl
  .exact List.mem_append_left _ (h.qj i hi y hy hn)
  .rw[hx] at hy;cases hy;simp
 .rw[take_snoc hk,List.filterMap_append,<-Yz,<-h.e];simp[evIx,hx,hv]
 .rw[<-hp];exact List.mem_append_left _ h.s
theorem ev_total {es:List Ed} {role:Int} {P:List Int} (hP:P.Nodup) (h0:∀v∈P,0<=v):(P.flatMap (evP es role)).length<=es.length:=by
 have h1:=vis_total es role (P.map Int.toNat) (by
  rw[List.Nodup,List.pairwise_map];refine hP.imp_of_mem fun {a b} ha hb hab e=>hab ?_;have:=h0 a ha;have:=h0 b hb;omega)
 rw[List.flatMap_map] at h1;have h2:∀P:List Int,(P.flatMap (evP es role)).length=(P.flatMap fun v=>visL es role v.toNat).length:=by
  intro P
  induction P with
  | nil=>rfl
  | cons a P ih=>rw[List.flatMap_cons,List.flatMap_cons,Yh,Yh,ih];unfold evP;rw[Yc]
 rw[h2];exact h1
theorem FJ.len {g:Gl} {role s v:Int} {D:List Bool} {P T:List Int} {E:List Ev} {j:Nat} (h:FJ g role s v j D P T E):E.length<=2*g.es.length:=by
 rw[h.e,Yh];have h1:=ev_total (es:=g.es) (role:=role) (P:=P) (h.nd.sublist (List.sublist_append_left _ _)) fun v hv=>((h.cl.mem v).1 (by simp[hv])).1;have h2:(((outG g.es v).take j).filterMap (evIx g.es role)).length<=(outG g.es v).length:=Yys (List.length_filterMap_le _ _) (by rw[Yu];omega);have h3:=outG_len g.es v;omega
theorem FI.fin {g:Gl} {role s:Int} {D:List Bool} {P:List Int} {E:List Ev} (h:FI g role s D P [] E) (hV:ValidS g) (h0:0<=s) (h1:s<g.n):(∀v,v∈P ↔ Qr g.es role [s] v)/\sortE E=firstE g role s:=by
 have hc:=h.cl;rw[Yw] at hc;have hq:∀v,v∈P ↔ Qr g.es role [s] v:=hc.end_ (fun x hx=>by rw[Ye] at hx;subst hx;have:=h.s;rwa [Yw] at this) fun v hv b hb=>by have:=h.q v hv b hb;rwa [Yw] at this
 refine⟨hq,sorted_ext _ _ (sortE_sorted _) (sortE_sorted _) fun x=>?_⟩;unfold firstE evs;rw[sortE_mem,sortE_mem,h.e];unfold evL evP;rw[List.mem_flatMap,List.mem_flatMap];have hN:=hV.num.n;have hl:∀x∈[s],0<=x/\x<g.n:=fun x hx=>by rw[Ye] at hx;omega
 constructor
 .rintro⟨v,hv,hx⟩;have hb:=((hq v).1 hv).lt hV hl;refine⟨v.toNat,elems_mem.2 ⟨by omega,clo_iff.2 ?_⟩,hx⟩;rw[Int.toNat_of_nonneg hb.1];exact (hq v).1 hv
 .rintro⟨n,hn,hx⟩;exact⟨(n:Int),(hq _).2 (clo_iff.1 (elems_mem.1 hn).2),hx⟩
theorem app257:appB Pz 193 188 3 24=true:=by kernel_rfl
def fsL (fb ib:Nat) (td fs:Sl) (D:List Bool) (T:List Int) (E:List Ev) (bl:Bool) (R:List It):List It:=
 .sl td 3 1 (T.map inC) :: .blk fb [.slice fs.a fs.n fs.c,.bool bl] 195 :: .sl fs 188 3 (E.map Ev.cs) :: .blk ib (D.map Value.bool) 4::R
theorem firsts_in {b:Nat} {g:Gl} {role:Int} {ho:Sl} {os:Nat->Sl} {s v:Int} {h0 h16 h4 h1:Heap} {R:List It} {td fs:Sl} {bl:Bool} {D:List Bool} {P T:List Int} {E:List Ev} {m9:Nat} {I7:Sl->Heap->Nat->Prop}
  (hA:AnG h0 b g role ho os) (hV:ValidS g) (hv0:0<=v) (hv1:v<g.n) (htd:0<td.n) (htm:td.n<=4096)
  (hs:St h0 h16 (fsL h4.size h1.size ⟨subA td.a (Int.toNat 0) td.c 1,Int.toNat ((td.n-1:Nat):Int)-Int.toNat 0,td.c-Int.toNat 0⟩ fs D T E bl R)) (hJ:FJ g role s v 0 D P T E)
  (hfin:∀(td' fs':Sl) (D':List Bool) (T':List Int) (E':List Ev) (h':Heap),St h0 h' (fsL h4.size h1.size td' fs' D' T' E' bl R)->FJ g role s v (outG g.es v).length D' P T' E'->∃m,m<m9/\I7 td' h' m) :
  V107a h16 ⟨b,0,none⟩ v td h4 g.n h1 m9 I7:=by
 unfold V107a;have hE:=hV.num.e;have hN:=hV.num.n;have hM:=hV.num.m;rw[show IntKind.wrap .i64 ((td.n:Int)-1)=((td.n-1:Nat):Int) by rw[w64 (by omega) (by omega)];omega];have hvn:((v.toNat:Nat):Int)=v:=Int.toNat_of_nonneg hv0;refine⟨ho,(hA.ext hs.ext).at_.nth 9 rfl,?_⟩;refine (hA.ro.ext hs.ext).nbI (by omega) (by have:=hA.ro.ln;rw[Yyd] at this;omega) fun b18 o19 d gd t=>?_;obtain⟨rfl,_⟩:=rangeG gd;refine⟨os v.toNat,t.hd,?_⟩;have hrow:=hA.rs v.toNat (by omega);rw[hvn] at hrow;have hrn:=hrow.ln;rw[show (natI (outG g.es v)).length=(outG g.es v).length from Yc _] at hrn;have hol:=outG_len g.es v;refine⟨fun td' x h' m=>∃(j:Nat) (fs':Sl) (D':List Bool) (T':List Int) (E':List Ev),x=j/\m=(os v.toNat).n-j/\j<=(os v.toNat).n/\St h0 h' (fsL h4.size h1.size td' fs' D' T' E' bl R)/\FJ g role s v j D' P T' E',⟨_,0,fs,D,T,E,rfl,rfl,by omega,hs,hJ⟩,?_⟩;clear hs hJ;rintro-td' _ h26 m ⟨j,fs',D',T',E',rfl,rfl,hj,hs,hJ⟩;have hle:=hJ.cl.le;have hDl:=hJ.cl.len;have hEl:=hJ.len;have htl:=hs.len 0 (s:=td') (e:=3) (n:=1) (rows:=T'.map inC) rfl (by omega);have hfl:=hs.len 2 (s:=fs') (e:=188) (n:=3) (rows:=E'.map Ev.cs) rfl (by omega);rw[Yc] at htl hfl;rw[Yh,Yyj] at hle;refine sBi (fun c=>?_) (fun c=>?_)
 .refine (hrow.ext hs.ext).nbI (by omega) (by omega) fun b27 o28 d gd t=>?_;replace gd:(natI (outG g.es v))[j]?=some d:=gd;obtain⟨k,hk,rfl⟩:∃k:Nat,(outG g.es v)[j]?=some k/\d=(k:Int):=by
   unfold natI at gd;rw[Yd] at gd;obtain⟨k,hk,e⟩:=Yya.1 gd;exact⟨k,hk,e.symm⟩
  obtain⟨x0,hx0,hxf⟩:=outG_mem.1 (Yb hk);have hkl:=(Ya.1 hx0).1;refine⟨_,t.hd,g.he,(hA.ext hs.ext).at_.nth 6 rfl,?_⟩;have hen:=hA.gi.e.ln;refine (hA.gi.e.rw.ext hs.ext).nbI (by omega) (by omega) fun b31 o32 x gx t2=>?_;replace gx:g.es[k]?=some x:=gx;rw[hx0] at gx;cases gx;refine⟨x0.f,x0.a,x0.b,x0.l,x0.t,x0.ag,t2,?_⟩;have hxE:=hE x0 (Yb hx0);unfold EdS at hxE;refine hs.newput (vs:=x0.cs) rfl rfl fun h40 hs=>?_;refine⟨x0.f,x0.a,x0.b,x0.l,x0.t,x0.ag,hs.at 0 rfl (o:=0) (n:=6) rfl,?_⟩;refine (seenR160 ⟨b,0,none⟩ role x0 h40 ((hA.ext hs.ext).at_.nth 8 rfl)).mono ?_;rintro _ h52 ⟨E52,rfl⟩;replace hs:=hs.step E52;cases hvis:vis1 role x0 with
  | some e=>
   refine⟨e.send,e.peer,e.label,true,rfl,?_⟩;refine hs.newput (vs:=e.cs) rfl rfl fun h54 hs=>?_;refine sB_t rfl ?_;refine⟨fs',hs.rd 3 rfl (i:=0) rfl,e.send,e.peer,e.label,hs.at 0 rfl (o:=0) (n:=3) rfl,?_⟩;refine hs.app 4 rfl app257 (m:=1) [e.cs] rfl rfl (fun r hr=>by rw[Ye] at hr;rw[hr];rfl) rfl (by omega) (by simp only[maxLen];omega) fun s60 h61 n60 hs=>?_;refine hs.put 3 rfl (o:=0) (vs:=[.slice s60.a s60.n s60.c]) rfl (show 1<=2 by decide) fun h62 hs=>?_;refine⟨_,by omega,j+1,s60,D',T',E'++[e],by rw[w64 (by omega) (by omega)];omega,rfl,by omega,?_,hJ.vis hk hx0 hvis⟩;have hs:=hs.drop 2;unfold fsL;rw[Ym];exact hs
  | none=>
   refine⟨false,0,0,false,rfl,?_⟩;refine hs.newput (vs:=[.bool false,.int .i64 0,.int .i64 0]) rfl rfl fun h54 hs=>?_;refine sB_f rfl ?_;obtain⟨y,hy⟩:=get_some (l:=D') (i:=x0.t.toNat) (by omega);have e0:0+Int.toNat x0.t*1=x0.t.toNat:=by omega
   refine⟨x0.t,hs.rd 1 rfl (i:=4) rfl,⟨by omega,by omega⟩,?_⟩;rw[e0];refine⟨y,hs.rd 5 rfl (by rw[map_get,hy];rfl),?_⟩;refine sB_intro (fun c2=>?_) (fun c2=>?_)
   .have hyf:y=false:=bF c2;subst hyf;refine⟨x0.t,hs.rd 1 rfl (i:=4) rfl,⟨by omega,by omega⟩,?_⟩;rw[e0];refine hs.put 5 rfl (o:=x0.t.toNat) (vs:=[.bool true]) rfl (by rw[Yc,Yv];omega) fun h67 hs=>?_;refine⟨x0.t,hs.rd 1 rfl (i:=4) rfl,?_⟩;refine hs.app 2 rfl app42 (m:=1) [[.int .i64 x0.t]] rfl rfl (by simp) rfl (by omega) (by simp only[maxLen];omega) fun s70 h71 n70 hs=>?_;refine⟨_,by omega,j+1,fs',D'.set x0.t.toNat true,T'++[x0.t],E',by rw[w64 (by omega) (by omega)];omega,rfl,by omega,?_,hJ.new hk hx0 hvis (by omega) hy⟩;have hs:=hs.drop 2;unfold fsL;rw[Ym,<-map_splice _ (by omega)];exact hs
   .have hyt:y=true:=bT c2;subst hyt;refine⟨_,by omega,j+1,fs',D',T',E',by rw[w64 (by omega) (by omega)];omega,rfl,by omega,hs.drop 2,hJ.old hk hx0 hvis (by omega) hy⟩
 .refine hfin td' fs' D' T' E' h26 hs ?_;rw[show (outG g.es v).length=j by omega];exact hJ
theorem firstsR161 (b:Nat) (g:Gl) (role:Int) (ho:Sl) (os:Nat->Sl) (s:Nat) (h:Heap) (hA:AnG h b g role ho os) (hV:ValidS g) (hs1:(s:Int)<g.n) :
  Fn Pz 107 #[.pointer (some ⟨b,0,none⟩),.int .i64 (s:Nat)] h fun v h'=>∃r:Sl,v=.agg ⟨[.slice r.a r.n r.c,.bool (firstB g role s)]⟩/\St h h' [.sl r 188 3 ((firstE g role s).map Ev.cs)]:=by
 apply vc107 ⟨b,0,none⟩ (s:Nat);unfold W107;have hN:=hV.num.n;have hM:=hV.num.m;refine (St.refl h).newb fun h1 hs=>?_;refine⟨g.n,(hA.ext hs.ext).at_.nth 3 rfl,by omega,?_⟩;rw[made4];refine hs.newb fun h3 hs=>?_;have e0:0+Int.toNat ((s:Nat):Int)*1=s:=by omega
 refine⟨⟨by omega,by omega⟩,?_⟩;rw[e0];refine hs.put 0 rfl (o:=s) (vs:=[.bool true]) rfl (by rw[Yc,Yg,Yv];omega) fun h4 hs=>?_;refine hs.newb fun h5 hs=>?_;refine hs.newb fun h6 hs=>?_;have hsl:=hs.blkS 1 1 ([((s:Nat):Int)].map inC) rfl (inrows _) rfl (by decide);have hsl:=hsl.nil_ 188 3;have hcl:CL g.es role g.n.toNat [(s:Int)] ((List.replicate g.n.toNat false).set s true) ([]++[(s:Int)]):=
  (CL.start g.es role g.n.toNat [(s:Int)]).push (b:=(s:Int)) (by omega) (by rw[Ys,List.getElem?_replicate,if_pos (by omega)]) (.base (by simp))
 have hl:∀x∈[(s:Int)],0<=x/\x<g.n:=fun x hx=>by rw[Ye] at hx;omega
 refine⟨fun td h' m=>∃(fs:Sl) (D:List Bool) (P T:List Int) (E:List Ev),m=g.n.toNat-P.length/\St h h' (fsL h4.size h1.size td fs D T E (decide (g.e∈P)) [.blk h.size [.slice none 0 0,.bool false] 195])/\FI g role s D P T E,⟨_,⟨none,0,0⟩,(List.replicate g.n.toNat false).set s true,[],[(s:Int)],[],rfl,?_,⟨hcl,by simp,fun v hv=>(by cases hv),rfl,by simp⟩⟩,?_⟩
 .refine hsl.perm ?_;unfold fsL;rw[<-map_splice _ (by rw[Yg];omega)];exact (List.Perm.swap _ _ _).trans (List.Perm.cons _ (List.Perm.swap _ _ _))
 clear hs hsl hcl;rintro-td h11 m ⟨fs,D,P,T,E,rfl,hs,hI⟩;have hle:=hI.cl.le;rw[Yh] at hle;have htl:=hs.len 0 (s:=td) (e:=3) (n:=1) (rows:=T.map inC) rfl (by omega);rw[Yc] at htl;refine sBi (fun c=>?_) (fun c=>?_)
 .rw[show IntKind.wrap .i64 ((td.n:Int)-1)=((td.n-1:Nat):Int) by rw[w64 (by omega) (by omega)];omega];refine (hs.rows 0 rfl (by omega)).nbI (by omega) (by omega) fun b12 o13 v gv t=>?_;replace gv:T[td.n-1]?=some v:=gv;have hT:T=T.take (td.n-1)++[v]:=by rw[<-take_snoc gv,Yj (by omega)]
  refine⟨v,t.hd,⟨by omega,by omega,by omega⟩,?_⟩;have hJ:FJ g role s v 0 D P (T.take (td.n-1)) E:=by rw[hT] at hI;exact hI.pop
  have hvm:=(hJ.cl.mem v).1 (by simp);have hvl:v<g.n:=((hJ.cl.r v (by simp)).lt hV hl).2;refine⟨_,hs.rd 1 rfl (i:=1) rfl,?_⟩;have fin:∀(bl:Bool),bl=decide (g.e∈P++[v])->∀(td' fs':Sl) (D':List Bool) (T':List Int) (E':List Ev) (h':Heap),St h h' (fsL h4.size h1.size td' fs' D' T' E' bl [.blk h.size [.slice none 0 0,.bool false] 195])->FJ g role s v (outG g.es v).length D' P T' E' ->
    ∃m,m<g.n.toNat-P.length/\∃(fs:Sl) (D:List Bool) (P T:List Int) (E:List Ev),m=g.n.toNat-P.length/\St h h' (fsL h4.size h1.size td' fs D T E (decide (g.e∈P)) [.blk h.size [.slice none 0 0,.bool false] 195])/\FI g role s D P T E:=fun bl hbl td' fs' D' T' E' h' hs' hJ'=>by
   subst hbl;refine⟨_,?_,fs',D',P++[v],T',E',rfl,hs',hJ'.fin hvm.1 (Yyt _)⟩;rw[Yh,Yv];omega
  refine sB_intro (fun c2=>?_) (fun c2=>?_)
  .refine hs.put 1 rfl (o:=1) (vs:=[.bool true]) rfl (show 2<=2 by decide) fun h16 hs=>?_;refine firsts_in hA hV hvm.1 hvl (by omega) (by omega) (bl:=true) (fs:=fs) (D:=D) (P:=P) (T:=T.take (td.n-1)) (E:=E) ?_ hJ (fin true ?_)
   .have h9:=hs.cut 0 rfl (by omega) (td.n-1) (by omega);rw[<-List.map_take] at h9;rw[show subA td.a (Int.toNat 0) td.c 1=td.a from subA_zero _ _ _];exact h9
   .rw[decide_eq_true];exact List.mem_append_left _ (Yyn c2)
  .refine⟨g.e,(hA.ext hs.ext).at_.nth 5 rfl,?_⟩;refine hs.put 1 rfl (o:=1) (vs:=[.bool (v==g.e)]) rfl (show 2<=2 by decide) fun h16 hs=>?_;refine firsts_in hA hV hvm.1 hvl (by omega) (by omega) (bl:=v==g.e) (fs:=fs) (D:=D) (P:=P) (T:=T.take (td.n-1)) (E:=E) ?_ hJ (fin _ ?_)
   .have h9:=hs.cut 0 rfl (by omega) (td.n-1) (by omega);rw[<-List.map_take] at h9;rw[show subA td.a (Int.toNat 0) td.c 1=td.a from subA_zero _ _ _];exact h9
   .have h8:¬g.e∈P:=Yyo c2;rw[Bool.eq_iff_iff,decide_eq_true_eq,Yk,Ye,beq_iff_eq];exact⟨fun e=>.inr e.symm,fun h=>h.elim (fun h=>absurd h h8) Eq.symm⟩
 .have hT:T=[]:=List.length_eq_zero_iff.1 (by omega);subst hT;have hfl:=hs.len 2 (s:=fs) (e:=188) (n:=3) (rows:=E.map Ev.cs) rfl (by omega);have hEl:E.length<=g.es.length:=by
   rw[hI.e];exact ev_total (hI.nd.sublist (List.sublist_append_left _ _)) fun v hv=>((hI.cl.mem v).1 (by simp[hv])).1
  refine⟨fs,hs.rd 1 rfl (i:=0) rfl,?_⟩;refine (sort203 hs 2 rfl (by omega)).mono ?_;rintro _ h137 ⟨rfl,E',hp,hw,hs⟩;refine⟨rfl,fs,hs.rd 1 rfl (i:=0) rfl,?_⟩;refine (compact205 hs 2 rfl (by rw[hp.length_eq];omega)).mono ?_;rintro _ h141 ⟨r,rfl,hs⟩;refine⟨r,rfl,?_⟩;refine hs.put 1 rfl (o:=0) (vs:=[.slice r.a r.n r.c]) rfl (show 1<=2 by decide) fun h142 hs=>?_;refine⟨r,_,hs.at 1 rfl (o:=0) (n:=2) rfl,?_⟩;refine hs.put 4 rfl (o:=0) (vs:=[.slice r.a r.n r.c,.bool (decide (g.e∈P))]) rfl (show 2<=2 by decide) fun h145 hs=>?_;refine⟨r,_,hs.at 4 rfl (o:=0) (n:=2) rfl,r,?_,?_⟩
  .obtain⟨hq,_⟩:=hI.fin hV (by omega) hs1;have hb:decide (g.e∈P)=firstB g role s:=by
    unfold firstB;rw[Bool.eq_iff_iff,decide_eq_true_eq,clo_iff,hq,Int.toNat_of_nonneg (by omega)]
   rw[hb]
  .obtain⟨_,he⟩:=hI.fin hV (by omega) hs1;rw[compact_sortE hp hw,he] at hs;exact hs.sub (L':=[_]) (by
    refine List.Sublist.trans ?_ (List.drop_sublist 2 _);exact List.singleton_sublist.2 (by simp[fsL]))
end Go.VC
end

section
namespace Go.VC
open Go.Proofs Go.LexS Go.RowKit Go.Lib
theorem App_zeros {P:Program} {t u e:TypeId} {size bytes:Nat} {kn:IntKind} (hT:appB P t e size bytes=true) (hun:P.underlying u=some (.int kn)) {h:Heap} {n:Nat} {m:Int} (hm:m=n) (h0:0<n) (hbytes:n*bytes<=140737488355328) (h63:n<=maxLen)
  {K:Sl->Heap->Prop} (hK:∀(r:Sl) (h':Heap) (xs:List Value),r.n=n->Ext h h'->OwnS h' h.size e size r xs->K r h'):App P t u (.slice none 0 0) (.int .i64 m) h K:=by
 intro ty w hw;subst hw;subst hm;unfold appB at hT;simp only[Yt] at hT;obtain⟨⟨⟨⟨⟨⟨⟨hs,he⟩,ht⟩,hz⟩,hzl⟩,hsz⟩,hby⟩,hpos⟩:=hT;have hu:=sliceB_e hs;rw[beqT he] at hu;obtain⟨i,hi⟩:=isT_info ht;obtain⟨z,hz'⟩:=Option.isSome_iff_exists.1 hz;rw[hi] at hz';simp only[Option.bind_some] at hz';have e1:i.size=size:=by have:=beqT hsz;simpa [szOf,hi] using this
 have e2:i.bytes=bytes:=by have:=beqT hby;simpa [byOf,hi] using this
 have e3:z.cells.size=size:=by have:=beqT hzl;simpa [zeroC,hi,hz'] using this
 have hp:0<size:=by simpa using hpos
 have hmax:((0+n:Nat):Int)<=9223372036854775807:=by simp only[maxLen] at h63;omega
 have hr:=Lib.run_append_grow_zeros w t u ty e i z .i64 kn hu hun hi hz' none 0 0 [] (run_firstCells_none w.drew i.size 0 0 0) n h0 (by omega) (by omega) hmax
  (by rw[e2];omega) (growslice_fits (by omega) (by rw[Nat.zero_add,e2];exact hbytes))
 rw[Nat.zero_add] at hr;have hge:=grownCap_ge w n 0 e;have hle:=grownCap_le_maxLen w n 0 e h63;refine⟨_,_,hr,⟨⟨some ⟨w.heap.size,0,none⟩,n,grownCap w n 0 e⟩,rfl,hK _ _ _ rfl (Ext.push _ _) ⟨?_,.inr ⟨w.heap.size,_,rfl,Yyt _,Array.getElem?_push_size,hge,hle,?_,rfl⟩⟩⟩,rfl,rfl,rfl⟩
 .rw[Yu];have:(List.toArray ([]:List Value)++Builtin.zeroCells z.cells n++Builtin.zeroCells z.cells (grownCap w n 0 e-n)).toList.length=grownCap w n 0 e*size:=by
   simp only[Array.toList_append,Yh,zeroCells_len,e3];rw[List.length_nil,Nat.zero_add,<-Nat.add_mul];congr 1;omega
  rw[this];exact Nat.min_eq_left (Nat.mul_le_mul_right _ hge)
 .show (List.toArray ([]:List Value)++Builtin.zeroCells z.cells n++Builtin.zeroCells z.cells (grownCap w n 0 e-n)).toList.length=grownCap w n 0 e*size;simp only[Array.toList_append,Yh,zeroCells_len,e3];rw[List.length_nil,Nat.zero_add,<-Nat.add_mul];congr 1;omega
structure Pmv where
 x:Int
 y:Int
 s:Int
 t:Int
 deriving DecidableEq
def Pmv.cs (m:Pmv):List Value:=[.int .i64 m.x,.int .i64 m.y,.int .i64 m.s,.int .i64 m.t]
theorem pmrows (L:List Pmv):∀r∈L.map Pmv.cs,r.length=4:=fun r hr=>by obtain⟨x,_,rfl⟩:=Yp.1 hr;rfl
theorem app273:appB Pz 197 200 4 32=true:=by kernel_rfl
theorem und3:Pz.underlying 3=some (.int .i64):=by kernel_rfl
theorem grow250 (n:Nat) (h:Heap) (hn:n<=1048576):Fn Pz 232 #[.slice none 0 0,.int .i64 (n:Nat)] h fun v h'=>∃r:Sl,v=.slice r.a r.n r.c/\St h h' [.sl r 200 4 []]:=by
 apply vc232 ⟨none,0,0⟩ (n:Nat);unfold W232;refine⟨fun h'=>h'=h,sBi (fun c=>by omega) (fun _=>rfl),?_⟩;rintro-_ rfl;have e0:IntKind.wrap .i64 (((0:Nat):Int)-((0:Nat):Int))=0:=by rw[w64 (by omega) (by omega)];omega
 have e1:IntKind.wrap .i64 ((n:Int)-IntKind.wrap .i64 (((0:Nat):Int)-((0:Nat):Int)))=n:=by rw[e0,w64 (by omega) (by omega)];omega
 show sB (decide ((IntKind.wrap .i64 ((n:Int)-IntKind.wrap .i64 (((0:Nat):Int)-((0:Nat):Int))))>0)) _ _;refine sBi (fun c=>?_) (fun c=>⟨⟨none,0,0⟩,rfl,(St.refl _).nil_ 200 4⟩);rw[e1] at c;refine⟨⟨by omega,by show (0:Int)<=((0:Nat):Int);omega,by show ((0:Nat):Int)<=((0:Nat):Int);omega⟩,?_⟩;refine App_zeros app273 und3 (n:=n) e1 (by omega) (by omega) (by simp only[maxLen];omega) fun r h' xs hrn E ho=>?_;refine⟨⟨by omega,by show (0:Int)<=((0:Nat):Int);omega,by show ((0:Nat):Int)<=_;omega⟩,⟨subA r.a (Int.toNat 0) r.c 4,Int.toNat ((0:Nat):Int)-Int.toNat 0,r.c-Int.toNat 0⟩,rfl,?_⟩;have h0:(It.sl ⟨subA r.a (Int.toNat 0) r.c 4,Int.toNat ((0:Nat):Int)-Int.toNat 0,r.c-Int.toNat 0⟩ 200 4 []).ok h':=by
  rw[show subA r.a (Int.toNat 0) r.c 4=r.a from subA_zero _ _ _];refine⟨⟨rfl,?_⟩,fun r hr=>by cases hr⟩;rcases ho.2 with ⟨ha,hn0,hc0⟩ | ⟨g,cur,ha,_,hh,hnc,hcm,hcs,_⟩
  .exact .inl ⟨ha,rfl,hc0⟩
  .exact .inr ⟨g,cur,ha,Nat.zero_le _,hh,Nat.zero_le _,hcm,hcs,rfl⟩
 refine (St.refl _).more E h0 fun b hb=>?_;rw[show subA r.a (Int.toNat 0) r.c 4=r.a from subA_zero _ _ _] at hb;exact (own_at_zero ho hb).2.2
theorem sum_take {α:Type} {L:List (Sl × List α)} {i:Nat} {q:Sl × List α} (h:L[i]?=some q):((L.take (i+1)).map fun q=>q.2.length).sum=((L.take i).map fun q=>q.2.length).sum+q.2.length:=by
 rw[take_snoc h,Ym,List.sum_append];simp
theorem sum_take_le {α:Type} (L:List (Sl × List α)) (i:Nat):((L.take i).map fun q=>q.2.length).sum<=(L.map fun q=>q.2.length).sum:=by
 conv=>rhs;rw[<-List.take_append_drop i L,Ym,List.sum_append]
 omega
theorem concat211 (Ls:List (Sl × List Pmv)) (s:Sl) (h:Heap) (hr:Rw h 1 s (Ls.map fun q=>slC q.1)) (hL:∀q∈Ls,RL h 4 q.1 Pmv.cs q.2) (hn:Ls.length<=1048576) (hsm:(Ls.map fun q=>q.2.length).sum<=1048576) :
  Fn Pz 187 #[.slice s.a s.n s.c] h fun v h'=>∃r:Sl,v=.slice r.a r.n r.c/\St h h' [.sl r 200 4 ((Ls.flatMap Prod.snd).map Pmv.cs)]:=by
 apply vc187 s;unfold W187;have hsn:=hr.ln;refine⟨fun z x h' m=>∃i:Nat,x=i/\m=s.n-i/\i<=s.n/\h'=h/\z=(((Ls.take i).map fun q=>q.2.length).sum:Nat),⟨_,0,rfl,rfl,by omega,rfl,rfl⟩,?_⟩;rintro-_ _ h6 m ⟨i,rfl,rfl,hi,rfl,rfl⟩;refine sBi (fun c=>?_) (fun c=>?_)
 .refine hr.nbI (by omega) (by omega) fun b o q gq t=>?_;replace gq:Ls[i]?=some q:=gq;have hq:=hL q (Yb gq);have hqn:=hq.ln;have h1:=sum_take gq;have h2:=sum_take_le Ls (i+1);refine⟨q.1,t.hd,?_⟩;have e:IntKind.wrap .i64 (((((Ls.take i).map fun q=>q.2.length).sum:Nat):Int)+(q.1.n:Int))=(((Ls.take (i+1)).map fun q=>q.2.length).sum:Nat):=by rw[w64 (by omega) (by omega)];omega
  rw[e];refine sBi (fun c2=>by omega) (fun _=>⟨_,by omega,i+1,by rw[w64 (by omega) (by omega)];omega,rfl,by omega,rfl,rfl⟩)
 .have hfull:Ls.take i=Ls:=Yj (by omega);rw[hfull];refine (grow250 _ h6 hsm).mono ?_;rintro _ h13 ⟨r,rfl,hs⟩;refine⟨r,rfl,?_⟩;refine up_loopA (n:=s.n) hs (fun i rows=>rows=((Ls.take i).flatMap Prod.snd).map Pmv.cs) rfl ?_;clear hs;rintro-i2 ns h19 rows hi2 hs rfl;have hcap:=hs.len 0 (s:=ns) (e:=200) (n:=4) rfl (by omega);rw[Yc,List.length_flatMap] at hcap;refine sBi (fun c2=>?_) (fun c2=>?_)
  .refine (hr.ext hs.ext).nbI (by omega) (by omega) fun b o q gq t=>?_;replace gq:Ls[i2]?=some q:=gq;have hq:=hL q (Yb gq);have hqn:=hq.ln;have h1:=sum_take gq;have h2:=sum_take_le Ls (i2+1);refine⟨q.1,t.hd,?_⟩;refine hs.appRw 0 rfl app273 (hq.rw.ext hs.ext) (pmrows _) hq.nil (by
    rw[List.all_eq_true];intro v hv;obtain⟨r,hr,hv⟩:=List.mem_flatten.1 hv;obtain⟨x,_,rfl⟩:=Yp.1 hr;simp[Pmv.cs] at hv;rcases hv with rfl | rfl | rfl | rfl<;>rfl) (by omega) (by simp only[maxLen];omega) fun s23 h24 n23 hs=>?_
   refine UpA.next (by omega) (by omega) ⟨_,hs,?_⟩;rw[take_snoc gq,List.flatMap_append,Ym];simp
  .rw[Yj (by omega)] at hs;exact⟨ns,rfl,hs⟩
def eA (es:List Ed) (k:Nat):Ed:=es.getD k ⟨0,0,0,0,0,false⟩
theorem eA_get {es:List Ed} {k:Nat} {x:Ed} (h:es[k]?=some x):eA es k=x:=by unfold eA;rw[Yo,h];rfl
def qtB (es:List Ed) (role:Int) (k:Nat):Bool:=(vis1 role (eA es k)).isNone
def mqL (es:List Ed) (role:Int) (t:Nat) (l:List Nat):List Pmv:=(l.filter (qtB es role)).map fun i:Nat=>⟨(i:Int),-1,(eA es i).t,(t:Nat)⟩
def moL (es:List Ed) (role:Int) (s:Nat) (l:List Nat):List Pmv:=(l.filter (qtB es role)).map fun k:Nat=>⟨-1,(k:Int),(s:Nat),(eA es k).t⟩
def mb1 (es:List Ed) (role:Int) (i:Nat) (l:List Nat):List Pmv:=match vis1 role (eA es i) with
 | none=>[]
 | some a=>(l.filter fun k=>decide (vis1 role (eA es k)=some a)).map fun k:Nat=>⟨(i:Int),(k:Int),(eA es i).t,(eA es k).t⟩
def mbL (es:List Ed) (role:Int) (l m:List Nat):List Pmv:=l.flatMap fun i=>mb1 es role i m
def movL (es:List Ed) (role:Int) (s t:Nat):List Pmv:=mqL es role t (outG es (s:Nat))++moL es role s (outG es (t:Nat))++mbL es role (outG es (s:Nat)) (outG es (t:Nat))
theorem mqL_len {es:List Ed} {role:Int} {t:Nat} {l:List Nat}:(mqL es role t l).length<=l.length:=by unfold mqL;rw[Yc];exact List.length_filter_le _ _
theorem moL_len {es:List Ed} {role:Int} {t:Nat} {l:List Nat}:(moL es role t l).length<=l.length:=by unfold moL;rw[Yc];exact List.length_filter_le _ _
theorem mb1_len {es:List Ed} {role:Int} {i:Nat} {l:List Nat}:(mb1 es role i l).length<=l.length:=by
 unfold mb1;split
 .exact Nat.zero_le _
 .rw[Yc];exact List.length_filter_le _ _
theorem mbL_len {es:List Ed} {role:Int}:∀ {l m:List Nat},(mbL es role l m).length<=l.length*m.length
 | [],m=>by simp[mbL]
 | a::l,m=>by
  have h1:=mbL_len (es:=es) (role:=role) (l:=l) (m:=m);have h2:=mb1_len (es:=es) (role:=role) (i:=a) (l:=m);unfold mbL at h1 ⊢;rw[List.flatMap_cons,Yh,Yyj,Nat.succ_mul];omega
theorem vis_none {role:Int} {x:Ed}:vis1 role x=none ↔ x.a≠role/\x.b≠role:=by
 unfold vis1;by_cases h1:role=x.a
 .rw[if_pos h1];simp[h1.symm]
 .rw[if_neg h1];by_cases h2:role=x.b
  .rw[if_pos h2];simp[h2.symm]
  .rw[if_neg h2];simp;exact⟨fun e=>h1 e.symm,fun e=>h2 e.symm⟩
theorem RL.ofSt {α:Type} {h0 h:Heap} {L:List It} (hs:St h0 h L) (k:Nat) {s:Sl} {e:TypeId} {n:Nat} {cs:α->List Value} {l:List α} (hk:L[k]?=some (.sl s e n (l.map cs))) (hn:0<n) (hm:l.length<=1048576):RL h n s cs l:=
 ⟨hs.rw k hk hn,(hs.len k hk hn).2.1,(hs.len k hk hn).2.2,hm⟩
end Go.VC
end
