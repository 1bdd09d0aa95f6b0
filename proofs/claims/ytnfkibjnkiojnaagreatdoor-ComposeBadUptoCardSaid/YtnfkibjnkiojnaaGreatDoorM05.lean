/- LexSpec TkSpec TkMem TkA TkI0. -/
import Derived.Test.YtnfkibjnkiojnaaGreatDoorM04
import Derived.Test.YtnfkibjnkiojnaaGreatDoorM01
import Derived.Test.YtnfkibjnkiojnaaGreatDoorM03
import Derived.Lib.Split
set_option linter.unusedVariables false
set_option linter.unusedSimpArgs false
set_option maxRecDepth 100000

section
/- What lex computes, on lists of bytes. No program here. -/
namespace Go.LexS

def isLetter (n:Int):Bool:=decide (97<=n) && decide (n<=122) || decide (65<=n) && decide (n<=90)
def isDigit (n:Int):Bool:=decide (48<=n) && decide (n<=57)
def isInner (n:Int):Bool:=isLetter n || isDigit n || (n == 95)
def isSpace (n:Int):Bool:=n == 32 || n == 9 || n == 10 || n == 13
def lt (c:UInt8):Bool:=isLetter c.toNat
def dg (c:UInt8):Bool:=isDigit c.toNat
def inn (c:UInt8):Bool:=isInner c.toNat
def sp (c:UInt8):Bool:=isSpace c.toNat

structure T where
 kind:Nat
 text:List UInt8
 val:Nat
 deriving DecidableEq
end Go.LexS
end

section
/- Names and words, automata al lists; what the validity of an automaton asks. No program here. -/
namespace Go.LexS
def keywords:List (List UInt8):=[[97,103,97,105,110],[97,110,100],[97,115],[97,116],[99,97,108,108],[99,104,111,105,99,101],[101,108,115,101],[102,114,111,109],[105,102],[105,110,116],[108,101,110],[108,111,111,112],[109,101,115,115,97,103,101],[111,102],[111,102,102,101,114],[111,110],[111,114],[112,97,114],[112,108,97,121,115],[112,114,111,116,111,99,111,108],[115,101,114,118,105,99,101],[116,101,120,116],[116,105,109,101,115],[116,111],[118,97,114],[119,104,101,114,101],[119,104,105,108,101],[119,105,116,104,105,110]]
def isName (l:List UInt8):Bool:=match l with
 | []=>false
 | c::_=>decide (l.length<=16) && lt c && l.all inn
def isWord (l:List UInt8):Bool:=isName l && !decide (l ∈ keywords)
end Go.LexS
end

section
/- Automata in memory: the lists with the headers of the slices that hold them. -/
namespace Go.VC
open Go.LexS
abbrev Nm:=List UInt8
def i64 (n:Int):Value:=.int .i64 n
def slV (s:Sl):Value:=.slice s.a s.n s.c
structure Fld where
 nm:Nm
 k:Int
 lo:Int
 hi:Int
def Fld.cs (f:Fld):List Value:=[.string (bs f.nm),.int .i64 f.k,.int .i64 f.lo,.int .i64 f.hi]
structure Df where
 x:Int
 y:Int
 c:Int
def Df.cs (d:Df):List Value:=[.int .i64 d.x,.int .i64 d.y,.int .i64 d.c]
structure Eqs where
 x:Int
 y:Int
def Eqs.cs (d:Eqs):List Value:=[.int .i64 d.x,.int .i64 d.y]
structure Dc where
 nm:Nm
 hf:Sl
 first:Int
 hd:Sl
 he:Sl
 fs:List Fld
 ds:List Df
 es:List Eqs
def Dc.cs (d:Dc):List Value:=[.string (bs d.nm),.slice d.hf.a d.hf.n d.hf.c,.int .i64 d.first,.slice d.hd.a d.hd.n d.hd.c,.slice d.he.a d.he.n d.he.c]
structure Ed where
 f:Int
 a:Int
 b:Int
 l:Int
 t:Int
 ag:Bool
def Ed.cs (x:Ed):List Value:=[.int .i64 x.f,.int .i64 x.a,.int .i64 x.b,.int .i64 x.l,.int .i64 x.t,.bool x.ag]
structure To where
 s:Int
 k:Int
 e:Int
def To.cs (x:To):List Value:=[.int .i64 x.s,.int .i64 x.k,.int .i64 x.e]
structure Gl where
 nm:Nm
 hr:Sl
 hd:Sl
 n:Int
 s:Int
 e:Int
 he:Sl
 ht:Sl
 rs:List Nm
 ds:List Dc
 es:List Ed
 ts:List To
def Gl.cs (g:Gl):List Value:=[.string (bs g.nm),.slice g.hr.a g.hr.n g.hr.c,.slice g.hd.a g.hd.n g.hd.c,.int .i64 g.n,.int .i64 g.s,.int .i64 g.e,.slice g.he.a g.he.n g.he.c,.slice g.ht.a g.ht.n g.ht.c]
def Gl.v (g:Gl):Value:=.agg ⟨g.cs⟩
def nmC (x:Nm):List Value:=[.string (bs x)]
structure RL {α:Type} (h:Heap) (k:Nat) (s:Sl) (cs:α->List Value) (L:List α):Prop where
 rw:Rw h k s (L.map cs)
 cap:s.n<=s.c
 nil:s.a=none->s.n=0/\s.c=0
 sm:L.length<=1048576
theorem RL.ext {α:Type} {h h':Heap} {k:Nat} {s:Sl} {cs:α->List Value} {L:List α} (hr:RL h k s cs L) (E:Ext h h'):RL h' k s cs L:=⟨hr.rw.ext E,hr.cap,hr.nil,hr.sm⟩
theorem RL.ln {α:Type} {h:Heap} {k:Nat} {s:Sl} {cs:α->List Value} {L:List α} (hr:RL h k s cs L):s.n=L.length:=hr.rw.ln
structure DI (h:Heap) (d:Dc):Prop where
 pf:RL h 4 d.hf Fld.cs d.fs
 pd:RL h 3 d.hd Df.cs d.ds
 pe:RL h 2 d.he Eqs.cs d.es
theorem DI.ext {h h':Heap} {d:Dc} (hd:DI h d) (E:Ext h h'):DI h' d:=⟨hd.pf.ext E,hd.pd.ext E,hd.pe.ext E⟩
structure DL (h:Heap) (s:Sl) (L:List Dc):Prop where
 r:RL h 5 s Dc.cs L
 i:∀ d ∈ L,DI h d
theorem DL.ext {h h':Heap} {s:Sl} {L:List Dc} (hd:DL h s L) (E:Ext h h'):DL h' s L:=⟨hd.r.ext E,fun d hm=>(hd.i d hm).ext E⟩
structure GI (h:Heap) (g:Gl):Prop where
 r:RL h 1 g.hr nmC g.rs
 d:DL h g.hd g.ds
 e:RL h 6 g.he Ed.cs g.es
 t:RL h 3 g.ht To.cs g.ts
theorem GI.ext {h h':Heap} {g:Gl} (hg:GI h g) (E:Ext h h'):GI h' g:=⟨hg.r.ext E,hg.d.ext E,hg.e.ext E,hg.t.ext E⟩
theorem RL.take {α:Type} {h:Heap} {k:Nat} {s:Sl} {cs:α->List Value} {L:List α} (hr:RL h k s cs L) {i:Nat} (hi:i<=s.n):RL h k ⟨subA s.a (Int.toNat 0) s.c k,Int.toNat (i:Int) - Int.toNat 0,s.c - Int.toNat 0⟩ cs (L.take i):=by
 have h1:=hr.rw.1
 have e:subA s.a (Int.toNat 0) s.c k=s.a:=subA_zero _ _ _
 rw [e]
 refine ⟨⟨by rw [Yc,Yu]; simp only [Yc] at h1; show i - 0=_; omega,fun hp=>?_⟩,by have:=hr.cap; show i - 0<=s.c - 0; omega,fun ha=>?_,by have:=hr.sm; rw [Yu]; omega⟩
 ·
  rw [Yc,Yu] at hp
  obtain ⟨b,o,ha,hall⟩:=hr.rw.2 (by rw [Yc]; omega)
  refine ⟨b,o,ha,fun j row hj=>hall j row ?_⟩
  rw [List.map_take,Yyf] at hj
  split at hj
  ·
   exact hj
  ·
   cases hj
 ·
  have:=hr.nil ha
  exact ⟨by show i - 0=0; omega,by show s.c - 0=0; omega⟩
end Go.VC
end

section
/- Contracts: names, words, paths. -/
namespace Go.VC
open Go.Proofs Go.LexS

theorem letter221 (b:UInt8) (h:Heap):Fn Pz 249 #[.int .u8 b.toNat] h fun v h'=>v=.bool (lt b)/\h'=h:=by
 apply vc249; unfold W249
 unfold lt isLetter
 generalize (b.toNat:Int)=n
 repeat' first
  | refine sBi (fun _=>?_) (fun _=>?_)
 all_goals
  refine ⟨?_,rfl⟩
  congr 1
  rw [Bool.eq_iff_iff]
  simp only [Bool.or_eq_true,Yt,decide_eq_true_eq,Bool.false_eq_true,true_iff,false_iff]
  omega
theorem digit253 (b:UInt8) (h:Heap):Fn Pz 298 #[.int .u8 b.toNat] h fun v h'=>v=.bool (dg b)/\h'=h:=by
 apply vc298; unfold W298
 unfold dg isDigit
 refine sBi (fun c=>⟨?_,rfl⟩) (fun c=>⟨?_,rfl⟩)
 ·
  rw [decide_eq_true (p:=(48:Int)<=b.toNat) c,Bool.true_and]
 ·
  rw [decide_eq_false (p:=(48:Int)<=b.toNat) c,Bool.false_and]
theorem inner222 (b:UInt8) (h:Heap):Fn Pz 250 #[.int .u8 b.toNat] h fun v h'=>v=.bool (inn b)/\h'=h:=by
 apply vc250; unfold W250
 refine (letter221 b h).mono ?_
 rintro _ h3 ⟨rfl,rfl⟩
 refine ⟨_,rfl,sB_intro (fun c=>?_) (fun c=>?_)⟩
 ·
  exact ⟨by rw [show inn b=(lt b || dg b || ((b.toNat:Int) == 95)) from rfl,c]; rfl,rfl⟩
 ·
  refine (digit253 b _).mono ?_
  rintro _ h6 ⟨rfl,rfl⟩
  refine ⟨_,rfl,sB_intro (fun d=>?_) (fun d=>?_)⟩
  ·
   exact ⟨by rw [show inn b=(lt b || dg b || ((b.toNat:Int) == 95)) from rfl,c,d]; rfl,rfl⟩
  ·
   exact ⟨by rw [show inn b=(lt b || dg b || ((b.toNat:Int) == 95)) from rfl,c,d]; rfl,rfl⟩
theorem isname189 (s:ByteArray) (h:Heap):Fn Pz 203 #[.string s] h fun v h'=>v=.bool (isName s.data.toList)/\h'=h:=by
 apply vc203; unfold W203
 have hsz:=size_len s
 rw [strEq]
 generalize hL:s.data.toList=L at *
 refine sB_intro (fun he=>?_) (fun he=>?_)
 ·
  have:L=[]:=Yyn he
  subst this
  exact ⟨rfl,rfl⟩
 ·
  have hne:L ≠ []:=Yyo he
  have hpos:0<L.length:=List.length_pos_iff.2 hne
  obtain ⟨b,hb,hby⟩:=byte_get (s:=s) (i:=0) (by omega)
  rw [hL] at hb
  have hcons:L=b::L.drop 1:=by have:=drop_cons hb; rwa [List.drop_zero] at this
  have hdef:isName L=(decide (L.length<=16) && lt b && L.all inn):=by
   conv=>lhs; rw [hcons]
   rw [isName,<- hcons]
  rw [hdef]
  refine sB_intro (fun hgt=>?_) (fun hgt=>?_)
  ·
   refine ⟨?_,rfl⟩
   rw [decide_eq_false (by have:=Yyn hgt; omega)]; rfl
  ·
   have h16:L.length<=16:=by have:=Yyo hgt; omega
   rw [decide_eq_true h16]
   refine ⟨⟨by omega,by omega⟩,?_⟩
   rw [show Int.toNat 0=0 from rfl,hby]
   refine (letter221 _ _).mono ?_
   rintro v h3 ⟨rfl,rfl⟩
   refine ⟨_,rfl,sB_intro (fun hlet=>?_) (fun hlet=>?_)⟩
   ·
    refine ⟨?_,rfl⟩
    rw [show lt b=false from by rw [Bool.not_eq_true'] at hlet; exact hlet]; rfl
   ·
    rw [show lt b=true from by rw [Bool.not_eq_false'] at hlet; exact hlet]
    refine up_loop (n:=s.size) (fun i h'=>h'=h3/\∀ (j:Nat) (b:UInt8),j<i->L[j]?=some b->(!inn b)=false) ⟨rfl,fun j b hj=>by omega⟩ ?_
    rintro - i h8 hi ⟨rfl,hd⟩
    refine sB_intro (fun hlt=>?_) (fun hge=>?_)
    ·
     have hlt':=lt_t hlt
     obtain ⟨y,hy,hby2⟩:=byte_get hlt'
     rw [hL] at hy
     refine ⟨⟨by omega,by omega⟩,?_⟩
     rw [show Int.toNat (i:Int)=i from rfl,hby2]
     refine (inner222 _ _).mono ?_
     rintro v h11 ⟨rfl,rfl⟩
     refine ⟨_,rfl,sB_intro (fun hp=>?_) (fun hp=>?_)⟩
     ·
      refine ⟨?_,rfl⟩
      have:L.all inn=false:=by
       rw [<- Bool.not_eq_true,all_split]
       intro hh
       have:=hh y i hy
       rw [Bool.not_eq_true'] at hp
       rw [show inn y=false from hp] at this; cases this
      rw [this]; rfl
     ·
      exact Up.next hlt' (by omega) ⟨rfl,scan_next (p:=fun b=>!inn b) hy hp hd⟩
    ·
     have hge':=lt_f hge
     refine ⟨?_,rfl⟩
     rw [(all_split inn L).2 fun b j hb=>by simpa using hd j b (by have:=(Ya.1 hb).1; omega) hb]; rfl
theorem index190 (L:List Nm) (x:ByteArray) (s:Sl) (h:Heap) (hr:RL h 1 s nmC L) :
  Fn Pz 204 #[.slice s.a s.n s.c,.string x] h fun v h'=>(∃ k:Int,v=.int .i64 k/\decide (k >= 0)=decide (x.data.toList ∈ L))/\h'=h:=by
 apply vc204; unfold W204
 have hn:=hr.ln
 have hm:=hr.sm
 refine up_loop (n:=s.n) (fun i h'=>h'=h/\∀ (j:Nat) (y:Nm),j<i->L[j]?=some y->decide (x.data.toList=y)=false) ⟨rfl,fun j y hj=>by omega⟩ ?_
 rintro - i h5 hi ⟨rfl,hd⟩
 refine sB_intro (fun l=>?_) (fun l=>?_)
 ·
  replace l:=lt_t l
  refine hr.rw.nbI (by omega) (by omega) fun b o d g t=>?_
  replace g:L[i]?=some d:=g
  refine ⟨_,t.hd,?_⟩
  rw [strEq,bs_list]
  refine sB_intro (fun he=>?_) (fun hne=>?_)
  ·
   have:=Yyn he
   exact ⟨⟨_,rfl,by rw [decide_eq_true (show (i:Int) >= 0 by omega),decide_eq_true (by rw [this]; exact Yb g)]⟩,rfl⟩
  ·
   exact Up.next l (by omega) ⟨rfl,scan_next (p:=fun y=>decide (x.data.toList=y)) g hne hd⟩
 ·
  replace l:=lt_f l
  refine ⟨⟨_,rfl,?_⟩,rfl⟩
  rw [decide_eq_false (show ¬ ((-1:Int) >= 0) by omega),decide_eq_false]
  intro hm
  obtain ⟨j,hj⟩:=Yf.1 hm
  exact Yyo (hd j _ (by have:=(Ya.1 hj).1; omega) hj) rfl
theorem has133 (L:List Nm) (x:ByteArray) (s:Sl) (h:Heap) (hr:RL h 1 s nmC L) :
  Fn Pz 149 #[.slice s.a s.n s.c,.string x] h fun v h'=>v=.bool (decide (x.data.toList ∈ L))/\h'=h:=by
 apply vc149; unfold W149
 refine (index190 L x s h hr).mono ?_
 rintro v h3 ⟨⟨k,rfl,hk⟩,rfl⟩
 exact ⟨_,rfl,by rw [hk],rfl⟩
theorem own_rl {α:Type} {h:Heap} {b:Nat} {e:TypeId} {k:Nat} {cs:α->List Value} {L:List α} {xs:List Value} (hx:xs=(L.map cs).flatten) (ho:Own h b xs e) (hk:∀ x,(cs x).length=k) (hl:L.length<=1048576) {n c:Nat} (hn:n=L.length) (hc:n<=c):RL h k ⟨some ⟨b,0,none⟩,n,c⟩ cs L:=by
 subst hx
 refine ⟨⟨by rw [Yc]; exact hn,fun _=>⟨b,0,rfl,fun i row hi j v hj=>?_⟩⟩,hc,fun e=>by (cases e),hl⟩
 have hr:∀ r ∈ L.map cs,r.length=k:=fun r hr=>by obtain ⟨x,_,rfl⟩:=Yp.1 hr; exact hk x
 have hjl:=(Ya.1 hj).1
 rw [hr row (Yb hi)] at hjl
 rw [addk_at,Nat.zero_add,ho.hc,getElem?_flatten _ i j row hr hi hjl]; exact hj
theorem isword132 (s:ByteArray) (h:Heap):Fn Pz 148 #[.string s] h fun v h'=>v=.bool (isWord s.data.toList)/\Ext h h':=by
 apply vc148; unfold W148
 refine newput (vs:=(keywords.map nmC).flatten) rfl fun h2 E o=>?_
 refine (isname189 s h2).mono ?_
 rintro _ h5 ⟨rfl,rfl⟩
 refine ⟨_,rfl,sB_intro (fun c=>?_) (fun c=>?_)⟩
 ·
  refine ⟨by decide,?_⟩
  refine (has133 keywords s ⟨subA (some ⟨h.size,0,none⟩) (Int.toNat 0) 28 1,Int.toNat (28:Nat) - Int.toNat 0,28 - Int.toNat 0⟩ h5 (own_rl rfl o (fun _=>rfl) (by decide) rfl (by decide))).mono ?_
  rintro _ h8 ⟨rfl,rfl⟩
  exact ⟨_,rfl,by rw [show isWord s.data.toList=(isName s.data.toList && !decide (s.data.toList ∈ keywords)) from rfl,c]; rfl,E⟩
 ·
  exact ⟨by rw [show isWord s.data.toList=(isName s.data.toList && !decide (s.data.toList ∈ keywords)) from rfl,c]; rfl,E⟩
end Go.VC
end

section
/- Words of bits: what the operations of Go on uint64 are on numbers. -/
namespace Go.VC

theorem wu64 {n:Int} (h0:0<=n) (h1:n<=18446744073709551615):IntKind.wrap .u64 n=n:=by
 simp [IntKind.wrap,IntKind.signed,IntKind.bits]; omega
def inC (n:Int):List Value:=[.int .i64 n]
def wC (w:Nat):List Value:=[.int .u64 w]
def memB (ws:List Nat) (k:Nat):Bool:=(ws.getD (k / 64) 0).testBit (k % 64)
theorem shr_nat {w k:Nat} (hk:k<64):shrI .u64 (w:Int) (k:Int)=((w / 2 ^ k:Nat):Int):=by
 unfold shrI
 have e:min (Int.toNat (k:Int)) (IntKind.bits .u64)=k:=by simp [IntKind.bits]; omega
 rw [e]
 show Int.fdiv (w:Int) ((2:Int) ^ k)=_
 rw [show ((2:Int) ^ k)=((2 ^ k:Nat):Int) by simp,Int.fdiv_eq_ediv_of_nonneg _ (Int.natCast_nonneg _)]
 rfl
theorem and_one {w:Nat} (hw:w<2 ^ 64):andI .u64 (w:Int) 1=((w % 2:Nat):Int):=by
 unfold andI
 have e:(BitVec.ofInt (IntKind.bits .u64) (w:Int) &&& BitVec.ofInt (IntKind.bits .u64) 1).toNat=w % 2:=by
  show (BitVec.ofInt 64 (w:Int) &&& BitVec.ofInt 64 ((1:Nat):Int)).toNat=w % 2
  rw [BitVec.ofInt_natCast,BitVec.ofInt_natCast,BitVec.toNat_and,BitVec.toNat_ofNat,BitVec.toNat_ofNat,Nat.mod_eq_of_lt hw]
  exact Nat.and_one_is_mod w
 rw [e]
 exact wu64 (by omega) (by omega)
theorem bit_has {w k:Nat} (hw:w<2 ^ 64) (hk:k<64):(andI .u64 (shrI .u64 (w:Int) (k:Int)) 1 == 1)=w.testBit k:=by
 rw [shr_nat hk,and_one (Nat.lt_of_le_of_lt (Nat.div_le_self _ _) hw),Nat.testBit_eq_decide_div_mod_eq]
 by_cases h:w / 2 ^ k % 2=1
 ·
  rw [h,decide_eq_true rfl]; rfl
 ·
  rw [decide_eq_false h]
  exact beq_eq_false_iff_ne.2 (by omega)
theorem shl_one {k:Nat} (hk:k<64):shlI .u64 1 (k:Int)=((2 ^ k:Nat):Int):=by
 unfold shlI
 have e:min (Int.toNat (k:Int)) (IntKind.bits .u64)=k:=by simp [IntKind.bits]; omega
 rw [e,Int.one_mul]
 have h2:2 ^ k<2 ^ 64:=Nat.pow_lt_pow_right (by omega) hk
 rw [show ((2:Int) ^ k)=((2 ^ k:Nat):Int) by simp]
 generalize 2 ^ k=m at *
 exact wu64 (by omega) (by omega)
theorem or_nat {a b:Nat} (ha:a<2 ^ 64) (hb:b<2 ^ 64):orI .u64 (a:Int) (b:Int)=((a ||| b:Nat):Int):=by
 unfold orI
 have e:(BitVec.ofInt (IntKind.bits .u64) (a:Int) ||| BitVec.ofInt (IntKind.bits .u64) (b:Int)).toNat=a ||| b:=by
  show (BitVec.ofInt 64 (a:Int) ||| BitVec.ofInt 64 (b:Int)).toNat=_
  rw [BitVec.ofInt_natCast,BitVec.ofInt_natCast,BitVec.toNat_or,BitVec.toNat_ofNat,BitVec.toNat_ofNat,Nat.mod_eq_of_lt ha,Nat.mod_eq_of_lt hb]
 rw [e]
 have:=Nat.or_lt_two_pow ha hb
 exact wu64 (by omega) (by omega)
theorem clr_zero {a b:Nat} (ha:a<2 ^ 64) (hb:b<2 ^ 64):clrI .u64 (a:Int) (b:Int)=0 ↔ ∀ k,k<64->a.testBit k=true->b.testBit k=true:=by
 have hlt:(BitVec.ofNat 64 a &&& ~~~BitVec.ofNat 64 b).toNat<18446744073709551616:=(BitVec.ofNat 64 a &&& ~~~BitVec.ofNat 64 b).isLt
 have key:clrI .u64 (a:Int) (b:Int)=((BitVec.ofNat 64 a &&& ~~~BitVec.ofNat 64 b).toNat:Int):=by
  unfold clrI
  show IntKind.wrap .u64 ((BitVec.ofInt 64 (a:Int) &&& ~~~BitVec.ofInt 64 (b:Int)).toNat:Int)=_
  rw [BitVec.ofInt_natCast,BitVec.ofInt_natCast]
  exact wu64 (by omega) (by omega)
 rw [key]
 have bitx:∀ k,k<64->(BitVec.ofNat 64 a &&& ~~~BitVec.ofNat 64 b).getLsbD k=(a.testBit k && !b.testBit k):=fun k hk=>by
  rw [BitVec.getLsbD_and,BitVec.getLsbD_not,BitVec.getLsbD_ofNat,BitVec.getLsbD_ofNat]
  simp [hk]
 constructor
 ·
  intro h k hk hak
  have h0:(BitVec.ofNat 64 a &&& ~~~BitVec.ofNat 64 b)=0#64:=BitVec.eq_of_toNat_eq (by rw [show (BitVec.ofNat 64 a &&& ~~~BitVec.ofNat 64 b).toNat=0 by omega]; rfl)
  have:=bitx k hk
  rw [h0,BitVec.getLsbD_zero,hak] at this
  cases hbk:b.testBit k
  ·
   rw [hbk] at this; cases this
  ·
   rfl
 ·
  intro h
  have h0:(BitVec.ofNat 64 a &&& ~~~BitVec.ofNat 64 b)=0#64:=by
   apply BitVec.eq_of_getLsbD_eq
   intro k hk
   rw [bitx k hk,BitVec.getLsbD_zero]
   cases hak:a.testBit k
   ·
    rfl
   ·
    rw [h k hk hak]; rfl
  rw [h0]; rfl
theorem memB_set {ws:List Nat} {n k:Nat} (hn:n / 64<ws.length):memB (ws.set (n / 64) (ws.getD (n / 64) 0 ||| 2 ^ (n % 64))) k=(decide (k=n) || memB ws k):=by
 unfold memB
 by_cases h:k / 64=n / 64
 ·
  rw [h,Yo,Yq hn]
  show Nat.testBit (ws.getD (n / 64) 0 ||| 2 ^ (n % 64)) (k % 64)=_
  rw [Nat.testBit_or,Nat.testBit_two_pow,Bool.or_comm]
  congr 1
  by_cases h2:k=n
  ·
   subst h2; simp
  ·
   rw [decide_eq_false h2]; simp only [decide_eq_false_iff_not]; omega
 ·
  rw [Yo,Yy (fun e=>h e.symm),<- Yo]
  have:k ≠ n:=fun e=>h (by rw [e])
  simp [this]
theorem memB_zero (n k:Nat):memB (List.replicate n 0) k=false:=by
 unfold memB
 rw [Yo,List.getElem?_replicate]
 split <;> simp
theorem memB_take {ws:List Nat} {n:Nat} (h:∀ i w,n<=i->ws[i]?=some w->w=0) (k:Nat):memB (ws.take n) k=memB ws k:=by
 unfold memB
 rw [Yo,Yo,Yyf]
 split
 ·
  rfl
 ·
  rename_i hn
  cases hw:ws[k / 64]? with
  | none=>rfl
  | some w=>rw [h _ w (by omega) hw]; simp
structure SetV (h:Heap) (s:Sl) (p:Nat->Bool):Prop where
 ex:∃ ws:List Nat,Rw h 1 s (ws.map wC)/\ws.length<=64/\(∀ w ∈ ws,w<2 ^ 64)/\∀ k,memB ws k=p k
theorem SetV.ext {h h':Heap} {s:Sl} {p:Nat->Bool} (hs:SetV h s p) (E:Ext h h'):SetV h' s p:=by
 obtain ⟨ws,h1,h2⟩:=hs.ex
 exact ⟨ws,h1.ext E,h2⟩
end Go.VC
end
