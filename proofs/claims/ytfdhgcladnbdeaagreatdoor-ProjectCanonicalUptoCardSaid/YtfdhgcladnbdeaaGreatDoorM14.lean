/- Texts of this claim, joined: PjRa, PjRb, PjRc, PjRd, PjRe0, PjRe. -/
import Derived.Test.YtfdhgcladnbdeaaGreatDoorM13
import Derived.Test.YtfdhgcladnbdeaaGreatDoorM07
import Derived.Test.YtfdhgcladnbdeaaGreatDoorM05
import Derived.Test.YtfdhgcladnbdeaaGreatDoorM12
import Derived.Test.YtfdhgcladnbdeaaGreatDoorM08
import Derived.Test.YtfdhgcladnbdeaaGreatDoorM06
set_option linter.unusedVariables false
set_option linter.unusedSimpArgs false

section
/- Contracts: the reference of validity: words, sorts, numbers of variables; each answers exactly. -/
namespace Go.VC
open Go.Proofs Go.LexS
set_option maxRecDepth 100000
/-- a bool, and nothing that lay has turned -/
def RBo (h : Heap) (v : Value) (h' : Heap) : Prop := (∃ b : Bool, v = .bool b) ∧ Ext h h'
theorem RBo.mk {h h' : Heap} {b : Bool} (E : Ext h h') : RBo h (.bool b) h' := ⟨⟨b, rfl⟩, E⟩
theorem Ext.rfl' {h : Heap} : Ext h h := ⟨Nat.le_refl _, fun _ _ => rfl⟩
/-- a bool that says p, and nothing that lay has turned -/
def RP (p : Prop) (h : Heap) (v : Value) (h' : Heap) : Prop := (∃ b : Bool, v = .bool b ∧ (b = true ↔ p)) ∧ Ext h h'
theorem RP.t {p : Prop} {h h' : Heap} (hp : p) (E : Ext h h') : RP p h (.bool true) h' := ⟨⟨true, rfl, iff_of_true rfl hp⟩, E⟩
theorem RP.f {p : Prop} {h h' : Heap} (hp : ¬ p) (E : Ext h h') : RP p h (.bool false) h' := ⟨⟨false, rfl, iff_of_false (by decide) hp⟩, E⟩
theorem RP.e {p : Prop} {h h' : Heap} {b : Bool} (hb : b = true ↔ p) (E : Ext h h') : RP p h (.bool b) h' := ⟨⟨b, rfl, hb⟩, E⟩
theorem iff_f {p : Prop} {b : Bool} (hp : b = true ↔ p) (c : b = false) : ¬ p := fun hq => by
  rw [hp.2 hq] at c; cases c
theorem letter199 (b : UInt8) (h : Heap) : Fn Tryz.prog 199 #[.int .u8 b.toNat] h fun v h' => v = .bool (lt b) ∧ h' = h := by
  apply vc199; unfold W199
  unfold lt isLetter
  generalize (b.toNat : Int) = n
  repeat' first
    | refine sBi (fun _ => ?_) (fun _ => ?_)
  all_goals
    refine ⟨?_, rfl⟩
    congr 1
    rw [Bool.eq_iff_iff]
    simp only [Bool.or_eq_true, Bool.and_eq_true, decide_eq_true_eq, Bool.false_eq_true, true_iff, false_iff]
    omega
theorem digit240 (b : UInt8) (h : Heap) : Fn Tryz.prog 240 #[.int .u8 b.toNat] h fun v h' => v = .bool (dg b) ∧ h' = h := by
  apply vc240; unfold W240
  unfold dg isDigit
  refine sBi (fun c => ⟨?_, rfl⟩) (fun c => ⟨?_, rfl⟩)
  · rw [decide_eq_true (p := (48 : Int) ≤ b.toNat) c, Bool.true_and]
  · rw [decide_eq_false (p := (48 : Int) ≤ b.toNat) c, Bool.false_and]
theorem inner200 (b : UInt8) (h : Heap) : Fn Tryz.prog 200 #[.int .u8 b.toNat] h fun v h' => v = .bool (inn b) ∧ h' = h := by
  apply vc200; unfold W200
  refine (letter199 b h).mono ?_
  rintro _ h3 ⟨rfl, rfl⟩
  refine ⟨_, rfl, sB_intro (fun c => ?_) (fun c => ?_)⟩
  · exact ⟨by rw [show inn b = (lt b || dg b || ((b.toNat : Int) == 95)) from rfl, c]; rfl, rfl⟩
  · refine (digit240 b _).mono ?_
    rintro _ h6 ⟨rfl, rfl⟩
    refine ⟨_, rfl, sB_intro (fun d => ?_) (fun d => ?_)⟩
    · exact ⟨by rw [show inn b = (lt b || dg b || ((b.toNat : Int) == 95)) from rfl, c, d]; rfl, rfl⟩
    · exact ⟨by rw [show inn b = (lt b || dg b || ((b.toNat : Int) == 95)) from rfl, c, d]; rfl, rfl⟩
theorem isName152 (s : ByteArray) (h : Heap) : Fn Tryz.prog 152 #[.string s] h fun v h' => v = .bool (isName s.data.toList) ∧ h' = h := by
  apply vc152; unfold W152
  have hsz := size_len s
  rw [strEq]
  generalize hL : s.data.toList = L at *
  refine sB_intro (fun he => ?_) (fun he => ?_)
  · have : L = [] := of_decide_eq_true he
    subst this
    exact ⟨rfl, rfl⟩
  · have hne : L ≠ [] := of_decide_eq_false he
    have hpos : 0 < L.length := List.length_pos_iff.2 hne
    obtain ⟨b, hb, hby⟩ := byte_get (s := s) (i := 0) (by omega)
    rw [hL] at hb
    have hcons : L = b :: L.drop 1 := by have := drop_cons hb; rwa [List.drop_zero] at this
    have hdef : isName L = (decide (L.length ≤ 16) && lt b && L.all inn) := by
      conv => lhs; rw [hcons]
      rw [isName, ← hcons]
    rw [hdef]
    refine ⟨⟨by omega, by omega⟩, ?_⟩
    rw [show Int.toNat 0 = 0 from rfl, hby]
    refine (letter199 _ _).mono ?_
    rintro v h3 ⟨rfl, rfl⟩
    refine ⟨_, rfl, sB_intro (fun hlet => ?_) (fun hlet => ?_)⟩
    · refine ⟨?_, rfl⟩
      rw [show lt b = false from by rw [Bool.not_eq_true'] at hlet; exact hlet, Bool.and_false]; rfl
    rw [show lt b = true from by rw [Bool.not_eq_false'] at hlet; exact hlet]
    refine sB_intro (fun hgt => ?_) (fun hgt => ?_)
    · refine ⟨?_, rfl⟩
      rw [decide_eq_false (by have := of_decide_eq_true hgt; omega)]; rfl
    · have h16 : L.length ≤ 16 := by have := of_decide_eq_false hgt; omega
      rw [decide_eq_true h16]
      refine up_loop (n := s.size) (fun i h' => h' = h3 ∧ ∀ (j : Nat) (b : UInt8), j < i → L[j]? = some b → (!inn b) = false) ⟨rfl, fun j b hj => by omega⟩ ?_
      rintro - i h8 hi ⟨rfl, hd⟩
      refine sB_intro (fun hlt => ?_) (fun hge => ?_)
      · have hlt' := lt_t hlt
        obtain ⟨y, hy, hby2⟩ := byte_get hlt'
        rw [hL] at hy
        refine ⟨⟨by omega, by omega⟩, ?_⟩
        rw [show Int.toNat (i : Int) = i from rfl, hby2]
        refine (inner200 _ _).mono ?_
        rintro v h11 ⟨rfl, rfl⟩
        refine ⟨_, rfl, sB_intro (fun hp => ?_) (fun hp => ?_)⟩
        · refine ⟨?_, rfl⟩
          have : L.all inn = false := by
            rw [← Bool.not_eq_true, all_split]
            intro hh
            have := hh y i hy
            rw [Bool.not_eq_true'] at hp
            rw [show inn y = false from hp] at this; cases this
          rw [this]; rfl
        · exact Up.next hlt' (by omega) ⟨rfl, scan_next (p := fun b => !inn b) hy hp hd⟩
      · have hge' := lt_f hge
        refine ⟨?_, rfl⟩
        rw [(all_split inn L).2 fun b j hb => by simpa using hd j b (by have := (List.getElem?_eq_some_iff.1 hb).1; omega) hb]; rfl
theorem in153 (l : List Nm) (s : Sl) (x : ByteArray) (h : Heap) (hr : Rw h 1 s (l.map nmC)) (hm : l.length ≤ 1048576) : Fn Tryz.prog 153 #[.slice s.a s.n s.c, .string x] h fun v h' => v = .bool (decide (x.data.toList ∈ l)) ∧ h' = h := by
  apply vc153; unfold W153
  have hn := hr.ln
  refine up_loop (n := s.n) (fun i h' => h' = h ∧ x.data.toList ∉ l.take i) ⟨rfl, fun e => by simp at e⟩ ?_
  rintro - i h8 hi ⟨rfl, hd⟩
  refine sB_intro (fun c => ?_) (fun c => ?_)
  · replace c := lt_t c
    refine hr.nbI (by omega) (by omega) fun b o d g t => ?_
    replace g : l[i]? = some d := g
    refine ⟨_, t.hd, ?_⟩
    rw [strEq, bs_list]
    refine sB_intro (fun he => ?_) (fun hne => ?_)
    · replace he := of_decide_eq_true he
      exact ⟨by rw [decide_eq_true (by first | (rw [he]; exact List.mem_of_getElem? g) | (rw [← he]; exact List.mem_of_getElem? g))], rfl⟩
    · replace hne := of_decide_eq_false hne
      refine Up.next c (by omega) ⟨rfl, fun hm2 => ?_⟩
      rw [List.take_add_one, g] at hm2
      rcases List.mem_append.1 hm2 with hm2 | hm2
      · exact hd hm2
      · first | exact hne (List.mem_singleton.1 hm2) | exact hne (List.mem_singleton.1 hm2).symm
  · replace c := lt_f c
    refine ⟨?_, rfl⟩
    rw [List.take_of_length_le (by omega)] at hd
    rw [decide_eq_false hd]
theorem index112 (l : List Nm) (s : Sl) (x : ByteArray) (h : Heap) (hr : Rw h 1 s (l.map nmC)) (hm : l.length ≤ 1048576) : Fn Tryz.prog 112 #[.slice s.a s.n s.c, .string x] h fun v h' => (∃ k : Int, v = .int .i64 k ∧ (∀ i : Nat, i < l.length → (k < (i : Int) ↔ x.data.toList ∈ l.take i ∨ x.data.toList ∉ l))) ∧ h' = h := by
  apply vc112; unfold W112
  have hn := hr.ln
  refine up_loop (n := s.n) (fun i h' => h' = h ∧ x.data.toList ∉ l.take i) ⟨rfl, fun e => by simp at e⟩ ?_
  rintro - i h8 hi ⟨rfl, hd⟩
  refine sB_intro (fun c => ?_) (fun c => ?_)
  · replace c := lt_t c
    refine hr.nbI (by omega) (by omega) fun b o d g t => ?_
    replace g : l[i]? = some d := g
    refine ⟨_, t.hd, ?_⟩
    rw [strEq, bs_list]
    refine sB_intro (fun he => ?_) (fun hne => ?_)
    · replace he := of_decide_eq_true he
      have he2 : x.data.toList = d := by first | exact he | exact he.symm
      have hmem : x.data.toList ∈ l := by rw [he2]; exact List.mem_of_getElem? g
      refine ⟨⟨_, rfl, fun k hk => ⟨fun hik => .inl ?_, fun hor => ?_⟩⟩, rfl⟩
      · have : l[i]? = some x.data.toList := by rw [he2]; exact g
        exact List.mem_of_getElem? (i := i) (by rw [List.getElem?_take, if_pos (by omega)]; exact this)
      · rcases hor with hor | hor
        · apply Classical.byContradiction
          intro hki
          have : l.take k = (l.take i).take k := by rw [List.take_take, Nat.min_eq_left (by omega)]
          rw [this] at hor
          exact hd (List.mem_of_mem_take hor)
        · exact absurd hmem hor
    · replace hne := of_decide_eq_false hne
      refine Up.next c (by omega) ⟨rfl, fun hm2 => ?_⟩
      rw [List.take_add_one, g] at hm2
      rcases List.mem_append.1 hm2 with hm2 | hm2
      · exact hd hm2
      · first | exact hne (List.mem_singleton.1 hm2) | exact hne (List.mem_singleton.1 hm2).symm
  · replace c := lt_f c
    rw [List.take_of_length_le (by omega)] at hd
    exact ⟨⟨_, rfl, fun k hk => ⟨fun _ => .inr hd, fun _ => by omega⟩⟩, rfl⟩
def kwB : List ByteArray := [⟨#[97, 103, 97, 105, 110]⟩, ⟨#[97, 110, 100]⟩, ⟨#[97, 115]⟩, ⟨#[97, 116]⟩, ⟨#[99, 97, 108, 108]⟩, ⟨#[99, 104, 111, 105, 99, 101]⟩, ⟨#[101, 108, 115, 101]⟩, ⟨#[102, 114, 111, 109]⟩, ⟨#[105, 102]⟩, ⟨#[105, 110, 116]⟩, ⟨#[108, 101, 110]⟩, ⟨#[108, 111, 111, 112]⟩, ⟨#[109, 101, 115, 115, 97, 103, 101]⟩, ⟨#[111, 102]⟩, ⟨#[111, 102, 102, 101, 114]⟩, ⟨#[111, 110]⟩, ⟨#[111, 114]⟩, ⟨#[112, 97, 114]⟩, ⟨#[112, 108, 97, 121, 115]⟩, ⟨#[112, 114, 111, 116, 111, 99, 111, 108]⟩, ⟨#[115, 101, 114, 118, 105, 99, 101]⟩, ⟨#[116, 101, 120, 116]⟩, ⟨#[116, 105, 109, 101, 115]⟩, ⟨#[116, 111]⟩, ⟨#[118, 97, 114]⟩, ⟨#[119, 104, 101, 114, 101]⟩, ⟨#[119, 104, 105, 108, 101]⟩, ⟨#[119, 105, 116, 104, 105, 110]⟩]
theorem kwB_eq : (kwB.map fun b => b.data.toList) = keywords := rfl
theorem keywords154 (h : Heap) : Fn Tryz.prog 154 #[] h fun v h' => Ext h h' ∧ ∃ s : Sl, v = .slice s.a s.n s.c ∧ Rw h' 1 s (keywords.map nmC) := by
  apply vc154; unfold W154
  intro h1 e
  have ho : Own h1 h.size (kwB.map Value.string) 9 := by rw [e]; exact Own.push
  have hl : kwB.length = 28 := rfl
  rw [← kwB_eq]
  refine ⟨by rw [e]; exact Ext.push _ _, ⟨some ⟨h.size, 0, none⟩, 28, 28⟩, rfl, by rw [List.length_map, List.length_map, hl], fun _ => ⟨h.size, 0, rfl, fun i row hi => ?_⟩⟩
  rw [List.map_map, List.getElem?_map] at hi
  obtain ⟨x, hx1, hx2⟩ := Option.map_eq_some_iff.1 hi
  subst hx2
  refine ho.atC fun j v hj => ?_
  match j, hj with
  | 0, hj => cases hj; rw [show 0 + i * 1 + 0 = i by omega, List.getElem?_map, hx1]; rfl
theorem isWord111 (s : ByteArray) (h : Heap) : Fn Tryz.prog 111 #[.string s] h fun v h' => v = .bool (isWord s.data.toList) ∧ Ext h h' := by
  apply vc111; unfold W111
  refine (isName152 s h).mono ?_
  rintro _ h3 ⟨rfl, rfl⟩
  refine ⟨_, rfl, sB_intro (fun c => ?_) (fun c => ?_)⟩
  · refine (keywords154 h3).mono ?_
    rintro _ h6 ⟨E2, k, rfl, hk⟩
    refine ⟨_, rfl, ?_⟩
    refine (in153 _ k s h6 hk (by decide)).mono ?_
    rintro _ h9 ⟨rfl, rfl⟩
    exact ⟨_, rfl, by rw [isWord, c]; rfl, E2⟩
  · exact ⟨by rw [isWord, c]; rfl, .rfl'⟩
theorem word201 (s : ByteArray) (h : Heap) : Fn Tryz.prog 201 #[.string s] h fun v h' => v = .bool (isWord s.data.toList) ∧ Ext h h' := by
  apply vc201; unfold W201
  refine (isWord111 s h).mono ?_
  rintro _ h3 ⟨rfl, E⟩
  exact ⟨_, rfl, rfl, E⟩
theorem ix_one {l : Nm} : Lib.index l [46] = Lib.indexByte l 46 := Lib.index_one l 46
theorem pieces_none {l : Nm} (hn : ∀ k : Nat, l[k]? ≠ some 46) : pieces l = [l] := by
  have h1 : Lib.index l [46] = -1 := by
    have h0 := Lib.index_ge l [46]
    apply Classical.byContradiction
    intro h2
    obtain ⟨o, ho⟩ : ∃ o : Nat, Lib.index l [46] = o := ⟨(Lib.index l [46]).toNat, by omega⟩
    rw [ix_one] at ho
    exact hn o (Lib.indexByte_some ho).1
  unfold pieces Lib.split
  rw [Lib.count_miss h1]; rfl
theorem pieces_hit {l : Nm} {i : Nat} (hi : l[i]? = some 46) (hn : ∀ k : Nat, k < i → l[k]? ≠ some 46) : pieces l = l.take i :: pieces (l.drop (i + 1)) := by
  have h1 : Lib.index l [46] = (i : Int) := by
    have h0 := Lib.index_ge l [46]
    have h2 : Lib.index l [46] ≠ -1 := fun h2 => by rw [ix_one] at h2; exact Lib.indexByte_none h2 i hi
    obtain ⟨o, ho⟩ : ∃ o : Nat, Lib.index l [46] = o := ⟨(Lib.index l [46]).toNat, by omega⟩
    have h3 := Lib.indexByte_some (ix_one (l := l) ▸ ho)
    have : o = i := by
      rcases Nat.lt_trichotomy o i with h | h | h
      · exact absurd h3.1 (hn o h)
      · exact h
      · exact absurd hi (h3.2 i h)
    rw [ho, this]
  unfold pieces Lib.split
  rw [Lib.count_hit (i := i) (by decide) h1, Nat.add_comm 1, Lib.splitK, if_neg (by rw [h1]; intro e; have := eq_of_beq e; omega), h1]
  rfl
theorem isPath157 (s : ByteArray) (h : Heap) (hs : s.size ≤ 1048576) : Fn Tryz.prog 157 #[.string s] h fun v h' => v = .bool (isPath s.data.toList) ∧ Ext h h' := by
  apply vc157; unfold W157
  have hsz := size_len s
  generalize hL : s.data.toList = L at *
  refine ⟨fun f i h' m => ∃ a b : Nat, f = a ∧ i = b ∧ a ≤ b ∧ b ≤ s.size + 1 ∧ m = s.size + 1 - b ∧ Ext h h' ∧ (b ≤ s.size → (∀ k : Nat, a ≤ k → k < b → L[k]? ≠ some 46) ∧ (pieces L).all isWord = (pieces (L.drop a)).all isWord) ∧ (s.size < b → (pieces L).all isWord = true), ⟨_, 0, 0, rfl, rfl, Nat.le_refl _, by omega, rfl, .rfl', fun _ => ⟨fun k _ hk => by omega, rfl⟩, fun hb => by omega⟩, ?_⟩
  rintro - _ _ h6 m ⟨a, b, rfl, rfl, hab, hb, rfl, E, hq, hz⟩
  refine sB_intro (fun c => ?_) (fun c => ?_)
  · replace c := of_decide_eq_true c
    have hbs : b ≤ s.size := by omega
    obtain ⟨q1, q2⟩ := hq hbs
    have hw : IntKind.wrap .i64 ((b : Int) + 1) = ((b + 1 : Nat) : Int) := by rw [w64 (by omega) (by omega)]; omega
    have hsl : (s.extract (Int.toNat (a : Int)) (Int.toNat (b : Int))).data.toList = (L.drop a).take (b - a) := by
      rw [show Int.toNat (a : Int) = a from rfl, show Int.toNat (b : Int) = b from rfl, ext_data, hL]
    refine sB_intro (fun c2 => ?_) (fun c2 => ?_)
    · have hbe : b = s.size := by
        have : (b : Int) = s.size := by simpa using c2
        omega
      have hp : pieces (L.drop a) = [L.drop a] := pieces_none fun k hk => by
        rw [List.getElem?_drop] at hk
        exact q1 (a + k) (by omega) (by have := (List.getElem?_eq_some_iff.1 hk).1; omega) hk
      have hta : (L.drop a).take (b - a) = L.drop a := List.take_of_length_le (by rw [List.length_drop]; omega)
      refine ⟨⟨by omega, by omega, by omega⟩, ?_⟩
      refine (word201 _ h6).mono ?_
      rintro _ h9 ⟨rfl, E2⟩
      rw [hsl, hta]
      rw [hp, List.all_cons, List.all_nil, Bool.and_true] at q2
      refine ⟨_, rfl, sB_intro (fun c3 => ?_) (fun c3 => ⟨_, by omega, b + 1, b + 1, hw, hw, by omega, by omega, rfl, E.trans E2, fun hb2 => by omega, fun _ => ?_⟩)⟩
      · refine ⟨?_, E.trans E2⟩
        rw [isPath, q2, bF c3, Bool.and_false]
      · rw [q2, bT c3]
    · have hne : (b : Int) ≠ s.size := by simpa using c2
      obtain ⟨y, hy, hby⟩ := byte_get (s := s) (i := b) (by omega)
      rw [hL] at hy
      refine ⟨⟨by omega, by omega⟩, ?_⟩
      rw [show Int.toNat (b : Int) = b from rfl] at *
      rw [hby]
      refine sB_intro (fun c3 => ?_) (fun c3 => ⟨_, by omega, a, b + 1, rfl, hw, by omega, by omega, rfl, E, fun _ => ⟨fun k hk1 hk2 => ?_, q2⟩, fun hb2 => by omega⟩)
      · have hy46 : y = 46 := by
          have h4 : (y.toNat : Int) = 46 := by simpa using c3
          exact UInt8.toNat_inj.1 (by rw [show (46 : UInt8).toNat = 46 from rfl]; omega)
        subst hy46
        have hp : pieces (L.drop a) = (L.drop a).take (b - a) :: pieces ((L.drop a).drop (b - a + 1)) := pieces_hit (by rw [List.getElem?_drop, show a + (b - a) = b by omega]; exact hy) fun k hk => by
          rw [List.getElem?_drop]; exact q1 (a + k) (by omega) (by omega)
        rw [List.drop_drop, show a + (b - a + 1) = b + 1 by omega] at hp
        rw [hp, List.all_cons] at q2
        refine ⟨⟨by omega, by omega, by omega⟩, ?_⟩
        refine (word201 _ h6).mono ?_
        rintro _ h9 ⟨rfl, E2⟩
        rw [hsl]
        refine ⟨_, rfl, sB_intro (fun c4 => ?_) (fun c4 => ⟨_, by omega, b + 1, b + 1, hw, hw, by omega, by omega, rfl, E.trans E2, fun hb2 => ⟨fun k _ _ => by omega, ?_⟩, fun hb2 => by omega⟩)⟩
        · refine ⟨?_, E.trans E2⟩
          rw [isPath, q2, bF c4, Bool.false_and, Bool.and_false]
        · rw [q2, bT c4, Bool.true_and]
      · by_cases hkb : k = b
        · subst hkb
          rw [hy]
          intro e
          cases e
          simp at c3
        · exact q1 k hk1 (by omega)
  · replace c := of_decide_eq_false c
    refine ⟨?_, E⟩
    rw [isPath, hz (by omega), Bool.and_true]
    first | rfl | (congr 1; rw [decide_eq_decide]; omega)
theorem vars155 (ds : List Dc) (s : Sl) (h : Heap) (hd : DL h s ds) : Fn Tryz.prog 155 #[.slice s.a s.n s.c] h fun v h' => v = .int .i64 ((allF ds).length : Nat) ∧ (allF ds).length ≤ 1099511627776 ∧ h' = h := by
  apply vc155; unfold W155
  have hn := hd.r.ln
  have hm := hd.r.sm
  have hle : ∀ i, i ≤ ds.length → (allF (ds.take i)).length ≤ i * 1048576 := fun i hi => by
    have := allF_le (ds.take i) fun d hd2 => (hd.i d (List.mem_of_mem_take hd2)).pf.sm
    rw [List.length_take, Nat.min_eq_left hi] at this; exact this
  have hmx : ∀ i, i ≤ ds.length → (allF (ds.take i)).length ≤ 1099511627776 := fun i hi => by
    have := hle i hi
    have : i * 1048576 ≤ 1048576 * 1048576 := Nat.mul_le_mul_right _ (by omega)
    omega
  refine ⟨fun q i h' m => ∃ b : Nat, i = b ∧ b ≤ s.n ∧ m = s.n - b ∧ h' = h ∧ q = ((allF (ds.take b)).length : Nat), ⟨_, 0, rfl, by omega, rfl, rfl, rfl⟩, ?_⟩
  rintro - nn _ h6 m ⟨b, rfl, hb, rfl, rfl, rfl⟩
  refine sB_intro (fun c => ?_) (fun c => ?_)
  · replace c := lt_t c
    refine hd.r.rw.nbI (by omega) (by omega) fun b7 o8 d g t => ?_
    replace g : ds[b]? = some d := g
    have hfn := (hd.i d (List.mem_of_getElem? g)).pf.ln
    refine ⟨_, t.nth 1 rfl, _, ?_, b + 1, by rw [w64 (by omega) (by omega)]; omega, by omega, rfl, rfl, ?_⟩
    · omega
    · have h1 := hmx (b + 1) (by omega)
      rw [List.take_add_one, g, Option.toList_some, allF_snoc, List.length_append] at h1 ⊢
      rw [w64 (by omega) (by omega)]; omega
  · replace c := lt_f c
    have h1 := hmx ds.length (Nat.le_refl _)
    rw [List.take_length] at h1
    rw [List.take_of_length_le (by omega)]
    exact ⟨rfl, h1, rfl⟩
theorem goodSort156 (a b c : Int) (h : Heap) : Fn Tryz.prog 156 #[.agg ⟨[.int .i64 a, .int .i64 b, .int .i64 c]⟩] h (RP (SortS a b c) h) := by
  apply vc156; unfold W156
  refine (St.refl h).newb fun h4 hs => ?_
  refine ⟨fun l m h' => h' = h4 ∧ ((a = 2 ∧ l = 0 ∧ m = 40) ∨ (a ≠ 2 ∧ l = -1000 ∧ m = 1000)), ⟨_, hs.rd 0 rfl rfl, sBi (fun c => ⟨rfl, .inl ⟨by simpa using c, rfl, rfl⟩⟩) (fun c => ⟨rfl, .inr ⟨by simpa using c, rfl, rfl⟩⟩)⟩, ?_⟩
  rintro - l m _ ⟨rfl, hlm⟩
  repeat' (first
    | (refine ⟨_, hs.rd 0 rfl rfl, ?_⟩)
    | (refine sBi (fun _ => ?_) (fun _ => ?_)))
  all_goals
    refine RP.e ?_ hs.ext
    unfold SortS
    simp only [Bool.false_eq_true, decide_eq_true_eq, beq_iff_eq, false_iff, true_iff] at *
    omega
end Go.VC
end

section
/- Contracts: the reference of validity: guards and declarations; each answers exactly. -/
namespace Go.VC
open Go.Proofs Go.LexS
set_option maxRecDepth 100000
theorem field241 (ds : List Dc) (s : Sl) (p : Int) (h : Heap) (hd : DL h s ds) (h0 : 0 ≤ p) (h1 : p < (allF ds).length) (h2 : (allF ds).length ≤ 1099511627776) :
    Fn Tryz.prog 241 #[.slice s.a s.n s.c, .int .i64 p] h fun v h' => (∃ f, (allF ds)[p.toNat]? = some f ∧ v = .agg ⟨f.cs⟩) ∧ Ext h h' := by
  apply vc241; unfold W241
  have hn := hd.r.ln
  have hm := hd.r.sm
  refine (St.refl h).newb fun h1' hs => ?_
  refine ⟨fun x i h' m => ∃ b : Nat, i = b ∧ b ≤ s.n ∧ m = s.n - b ∧ h' = h1' ∧ 0 ≤ x ∧ x + ((allF (ds.take b)).length : Nat) = p, ⟨_, 0, rfl, by omega, rfl, rfl, h0, by show p + ((0 : Nat) : Int) = p; omega⟩, ?_⟩
  rintro - x _ h7 m ⟨b, rfl, hb, rfl, rfl, hx0, hx1⟩
  refine sB_intro (fun c => ?_) (fun c => ?_)
  · replace c := lt_t c
    have hrw := hd.r.rw.ext hs.ext
    refine hrw.nbI (by omega) (by omega) fun b8 o9 d g t => ?_
    replace g : ds[b]? = some d := g
    have hdi := hd.i d (List.mem_of_getElem? g)
    have hfn := hdi.pf.ln
    have hfm := hdi.pf.sm
    have hsp : allF ds = allF (ds.take b) ++ (d.fs ++ allF (ds.drop (b + 1))) := by
      have e : ds = ds.take b ++ d :: ds.drop (b + 1) := by
        have h3 := (List.take_append_drop b ds).symm
        have hl := (List.getElem?_eq_some_iff.1 g).1
        rw [List.drop_eq_getElem_cons hl, (List.getElem?_eq_some_iff.1 g).2] at h3; exact h3
      conv => lhs; rw [e]
      unfold allF
      rw [List.flatMap_append, List.flatMap_cons]
    refine ⟨_, t.nth 1 rfl, sB_intro (fun c2 => ?_) (fun c2 => ?_)⟩
    · replace c2 := of_decide_eq_true c2
      refine hrw.nbI (by omega) (by omega) fun b11 o12 d2 g2 t2 => ?_
      replace g2 : ds[b]? = some d2 := g2
      rw [g] at g2; cases g2
      refine ⟨_, t2.nth 1 rfl, ?_⟩
      refine (hdi.pf.rw.ext hs.ext).nbI hx0 c2 fun b14 o15 f g3 t3 => ?_
      refine ⟨_, _, _, _, t3, ?_⟩
      refine hs.put 0 rfl (o := 0) (vs := f.cs) rfl (show 4 ≤ 4 by decide) fun h20 hs => ?_
      refine ⟨_, _, _, _, hs.at 0 rfl (o := 0) (n := 4) rfl, ⟨f, ?_, rfl⟩, hs.ext⟩
      have hxl := (List.getElem?_eq_some_iff.1 g3).1
      rw [hsp, List.getElem?_append_right (by omega), List.getElem?_append_left (by omega), ← g3]
      congr 1; omega
    · replace c2 := of_decide_eq_false c2
      refine hrw.nbI (by omega) (by omega) fun b11 o12 d2 g2 t2 => ?_
      replace g2 : ds[b]? = some d2 := g2
      rw [g] at g2; cases g2
      refine ⟨_, t2.nth 1 rfl, s.n - (b + 1), by omega, b + 1, by rw [w64 (by omega) (by omega)]; omega, by omega, rfl, rfl, ?_⟩
      rw [w64 (by omega) (by omega)]
      refine ⟨by omega, ?_⟩
      rw [List.take_add_one, g, Option.toList_some, allF_snoc, List.length_append]; omega
  · replace c := lt_f c
    rw [List.take_of_length_le (by omega)] at hx1
    omega
theorem text202 (ds : List Dc) (s : Sl) (p : Int) (h : Heap) (hd : DL h s ds) : Fn Tryz.prog 202 #[.slice s.a s.n s.c, .int .i64 p] h (RP (TextS (allF ds) p) h) := by
  apply vc202; unfold W202
  refine sB_intro (fun c => ?_) (fun c => ?_)
  · replace c := of_decide_eq_true c
    refine (vars155 ds s h hd).mono ?_
    rintro _ h3 ⟨rfl, hk, rfl⟩
    refine ⟨_, rfl, sB_intro (fun c2 => ?_) (fun c2 => ?_)⟩
    · replace c2 := of_decide_eq_true c2
      refine (field241 ds s p _ hd (by omega) (by omega) hk).mono ?_
      rintro _ h9 ⟨⟨f, hf, rfl⟩, E⟩
      refine ⟨_, _, _, _, rfl, RP.e ⟨fun hb => ⟨by omega, f, hf, by simpa using hb⟩, ?_⟩ E⟩
      rintro ⟨_, f2, hf2, hk2⟩
      rw [hf] at hf2; cases hf2
      simpa using hk2
    · replace c2 := of_decide_eq_false c2
      refine RP.f ?_ .rfl'
      rintro ⟨_, f2, hf2, _⟩
      have := (List.getElem?_eq_some_iff.1 hf2).1
      omega
  · replace c := of_decide_eq_false c
    exact RP.f (fun hT => by have := hT.1; omega) .rfl'
theorem goodGuard158 (ds : List Dc) (s : Sl) (d : Dc) (h : Heap) (hd : DL h s ds) (hi : DI h d) :
    Fn Tryz.prog 158 #[.slice s.a s.n s.c, .agg ⟨[.slice d.hd.a d.hd.n d.hd.c, .slice d.he.a d.he.n d.he.c]⟩] h (RP (GuardS (allF ds) d.ds d.es) h) := by
  apply vc158 s d.hd d.he; unfold W158
  have hdn := hi.pd.ln
  have hdm := hi.pd.sm
  have hen := hi.pe.ln
  have hem := hi.pe.sm
  refine (St.refl h).newb fun h3 hs => ?_
  refine (vars155 ds s h3 (hd.ext hs.ext)).mono ?_
  rintro _ h6 ⟨rfl, hk, rfl⟩
  refine ⟨_, rfl, ?_⟩
  refine up_loopS (n := d.hd.n) hs (fun i => ∀ (j : Nat) (x : Df), j < i → d.ds[j]? = some x → -1 ≤ min x.x x.y ∧ max x.x x.y < (allF ds).length ∧ -20000 ≤ x.c ∧ x.c ≤ 20000) (fun j x hj => by omega) ?_
  rintro - i h11 hin ⟨hs, hq⟩
  refine ⟨_, hs.rd 0 rfl rfl, sB_intro (fun c => ?_) (fun c => ?_)⟩
  · replace c := lt_t c
    refine ⟨_, hs.rd 0 rfl rfl, ?_⟩
    refine (hi.pd.rw.ext hs.ext).nbI (by omega) (by omega) fun b o x g t => ?_
    replace g : d.ds[i]? = some x := g
    refine ⟨_, _, _, t, ?_⟩
    refine hs.newput (vs := x.cs) rfl rfl fun h20 hs => ?_
    repeat' (first
        | (refine ⟨_, hs.rd 0 rfl rfl, ?_⟩)
        | (refine ⟨_, hs.rd 1 rfl rfl, ?_⟩)
        | (refine sBi (fun _ => ?_) (fun _ => ?_))
        | (refine sBe (fun _ => ?_) (fun _ => ?_))
        | (refine sBn (fun _ => ?_) (fun _ => ?_)))
    all_goals first
      | exact RP.f (fun hG => by have := hG.d x (List.mem_of_getElem? g); omega) hs.ext
      | (refine Up.next c (by omega) ⟨hs.drop 1, fun j y hj hy => ?_⟩
         by_cases e : j = i
         · subst e; rw [g] at hy; cases hy; omega
         · exact hq j y (by omega) hy)
  · replace c := lt_f c
    have hqd : ∀ x ∈ d.ds, -1 ≤ min x.x x.y ∧ max x.x x.y < (allF ds).length ∧ -20000 ≤ x.c ∧ x.c ≤ 20000 := fun x hx => by
      obtain ⟨j, hj⟩ := List.mem_iff_getElem?.1 hx
      exact hq j x (by have := (List.getElem?_eq_some_iff.1 hj).1; omega) hj
    clear hq
    refine up_loopS (n := d.he.n) hs (fun i => ∀ (j : Nat) (x : Eqs), j < i → d.es[j]? = some x → TextS (allF ds) x.x ∧ TextS (allF ds) x.y) (fun j x hj => by omega) ?_
    rintro - i h32 hin ⟨hs, hq⟩
    refine ⟨_, hs.rd 0 rfl rfl, sB_intro (fun c => ?_) (fun c => ?_)⟩
    · replace c := lt_t c
      refine ⟨_, hs.rd 0 rfl rfl, ?_⟩
      refine (hi.pe.rw.ext hs.ext).nbI (by omega) (by omega) fun b o x g t => ?_
      replace g : d.es[i]? = some x := g
      refine ⟨⟨by omega, by omega⟩, _, t.nth 0 rfl, ?_⟩
      refine (text202 ds s _ h32 (hd.ext hs.ext)).mono ?_
      rintro _ h40 ⟨⟨b1, rfl, hb1⟩, E⟩
      have hs := hs.step E
      refine ⟨_, rfl, sB_intro (fun c1 => RP.f (fun hG => iff_f hb1 (bF c1) (hG.e x (List.mem_of_getElem? g)).1) hs.ext) (fun c1 => ?_)⟩
      refine ⟨_, hs.rd 0 rfl rfl, ?_⟩
      refine (hi.pe.rw.ext hs.ext).nbI (by omega) (by omega) fun b o x' g' t => ?_
      replace g' : d.es[i]? = some x' := g'
      rw [g] at g'; cases g'
      refine ⟨⟨by omega, by omega⟩, _, t.nth 1 rfl, ?_⟩
      refine (text202 ds s _ h40 (hd.ext hs.ext)).mono ?_
      rintro _ h47 ⟨⟨b2, rfl, hb2⟩, E⟩
      have hs := hs.step E
      refine ⟨_, rfl, sB_intro (fun c2 => RP.f (fun hG => iff_f hb2 (bF c2) (hG.e x (List.mem_of_getElem? g)).2) hs.ext) (fun c2 => Up.next c (by omega) ⟨hs, fun j y hj hy => ?_⟩)⟩
      by_cases e : j = i
      · subst e; rw [g] at hy; cases hy; exact ⟨hb1.1 (bT c1), hb2.1 (bT c2)⟩
      · exact hq j y (by omega) hy
    · replace c := lt_f c
      have hqe : ∀ x ∈ d.es, TextS (allF ds) x.x ∧ TextS (allF ds) x.y := fun x hx => by
        obtain ⟨j, hj⟩ := List.mem_iff_getElem?.1 hx
        exact hq j x (by have := (List.getElem?_eq_some_iff.1 hj).1; omega) hj
      refine ⟨_, hs.rd 0 rfl rfl, sB_intro (fun c1 => ⟨_, hs.rd 0 rfl rfl, ?_⟩) (fun c1 => ?_)⟩
      · replace c1 := of_decide_eq_true c1
        refine RP.e ⟨fun hb => ⟨by omega, by have := of_decide_eq_true hb; omega, hqd, hqe⟩, fun hG => ?_⟩ hs.ext
        have := hG.ne
        exact decide_eq_true (by omega)
      · replace c1 := of_decide_eq_false c1
        exact RP.f (fun hG => by have := hG.nd; omega) hs.ext
/-- no name of a declaration is great -/
def GNm (ds : List Dc) : Prop := ∀ d ∈ ds, d.nm.length ≤ 1048576
theorem dup_iff {α : Type} {l : List α} {p : α → Bool} : (l.any p) = false ↔ ∀ (j : Nat) (y : α), l[j]? = some y → p y = false := by
  rw [List.any_eq_false]
  refine ⟨fun h j y hj => ?_, fun h y hy => ?_⟩
  · have := h y (List.mem_of_getElem? hj); cases hp : p y <;> simp_all
  · obtain ⟨j, hj⟩ := List.mem_iff_getElem?.1 hy; rw [h j y hj]; decide
set_option maxHeartbeats 1600000 in
theorem refValid113 (ds : List Dc) (s : Sl) (h : Heap) (hd : DL h s ds) (hN : GNm ds) : Fn Tryz.prog 113 #[.slice s.a s.n s.c] h (RP (DeclS ds) h) := by
  apply vc113; unfold W113
  have hn := hd.r.ln
  have hm := hd.r.sm
  refine sB_intro (fun c0 => RP.f (fun hG => by have := hG.pn; have := of_decide_eq_true c0; omega) .rfl') (fun c0 => ?_)
  replace c0 := of_decide_eq_false c0
  refine (vars155 ds s h hd).mono ?_
  rintro _ h3 ⟨rfl, hk, rfl⟩
  refine ⟨_, rfl, sB_intro (fun c00 => RP.f (fun hG => by have := hG.pv; have := of_decide_eq_true c00; omega) .rfl') (fun c00 => ?_)⟩
  replace c00 := of_decide_eq_false c00
  refine ⟨fun f i h' m => ∃ b : Nat, i = b ∧ b ≤ s.n ∧ m = s.n - b ∧ St h3 h' [] ∧ f = ((allF (ds.take b)).length : Nat) ∧ ∀ (j : Nat) (y : Dc), j < b → ds[j]? = some y → DcS ds j y, ⟨_, 0, rfl, by omega, rfl, St.refl _, rfl, fun j y hj => by omega⟩, ?_⟩
  rintro - _ _ h9 m ⟨b, rfl, hb, rfl, hs, rfl, hq⟩
  refine sB_intro (fun c => ?_) (fun c => RP.t ⟨by omega, by omega, fun j y hy => hq j y (by have := lt_f c; have := (List.getElem?_eq_some_iff.1 hy).1; omega) hy⟩ hs.ext)
  replace c := lt_t c
  refine (hd.r.rw.ext hs.ext).nbI (by omega) (by omega) fun b10 o11 d g t => ?_
  replace g : ds[b]? = some d := g
  have hdm := List.mem_of_getElem? g
  have hdi := hd.i d hdm
  have hfn := hdi.pf.ln
  have hfm := hdi.pf.sm
  refine ⟨_, _, _, _, _, t, ?_⟩
  refine hs.newput (vs := d.cs) rfl rfl fun h18 hs => ?_
  refine up_loopS (n := b) hs (fun i => ∀ (j : Nat) (y : Dc), j < i → ds[j]? = some y → y.nm ≠ d.nm) (fun j y hj => by omega) ?_
  rintro - k1 h23 hk1 ⟨hs, hq1⟩
  refine sB_intro (fun c1 => ?_) (fun c1 => ?_)
  · replace c1 := lt_t c1
    refine (hd.r.rw.ext hs.ext).nbI (by omega) (by omega) fun b24 o25 d2 g2 t2 => ?_
    replace g2 : ds[k1]? = some d2 := g2
    refine ⟨_, t2.nth 0 rfl, _, hs.rd 0 rfl rfl, sBs (fun e => ?_) (fun e => Up.next c1 (by omega) ⟨hs, fun j y hj hy => ?_⟩)⟩
    · refine RP.f (fun hG => ?_) hs.ext
      have := dup_iff.1 (hG.pd b d g).pd k1 d2 (by rw [List.getElem?_take, if_pos c1]; exact g2)
      exact of_decide_eq_false this e
    · by_cases e2 : j = k1
      · subst e2; rw [g2] at hy; cases hy; exact e
      · exact hq1 j y (by omega) hy
  replace c1 := lt_f c1
  have hdup : ((ds.take b).any fun x => decide (x.nm = d.nm)) = false := dup_iff.2 fun j y hy => by
    rw [List.getElem?_take] at hy
    split at hy
    · exact decide_eq_false (hq1 j y (by omega) hy)
    · cases hy
  clear hq1
  refine up_loopS (n := d.hf.n) hs (fun i => ∀ (j : Nat) (y : Fld), j < i → d.fs[j]? = some y → FldS d.fs j y) (fun j y hj => by omega) ?_
  rintro - k2 h33 hk2 ⟨hs, hq2⟩
  refine ⟨_, hs.rd 0 rfl rfl, sB_intro (fun c2 => ?_) (fun c2 => ?_)⟩
  · replace c2 := lt_t c2
    refine ⟨_, hs.rd 0 rfl rfl, ?_⟩
    refine (hdi.pf.rw.ext hs.ext).nbI (by omega) (by omega) fun b36 o37 f g3 t3 => ?_
    replace g3 : d.fs[k2]? = some f := g3
    refine ⟨_, _, _, t3.sub 1 3 rfl, ?_⟩
    refine (goodSort156 _ _ _ h33).mono ?_
    rintro _ h43 ⟨⟨b1, rfl, hb1⟩, E⟩
    have hs := hs.step E
    refine ⟨_, rfl, sB_intro (fun c3 => RP.f (fun hG => iff_f hb1 (bF c3) ((hG.pd b d g).pfs k2 f g3).ps) hs.ext) (fun c3 => ?_)⟩
    refine ⟨_, hs.rd 0 rfl rfl, ?_⟩
    refine (hdi.pf.rw.ext hs.ext).nbI (by omega) (by omega) fun b45 o46 f2 g4 t4 => ?_
    replace g4 : d.fs[k2]? = some f2 := g4
    rw [g3] at g4; cases g4
    refine ⟨_, t4.nth 0 rfl, ?_⟩
    refine (isWord111 (bs f.nm) h43).mono ?_
    rintro _ h50 ⟨rfl, E⟩
    have hs := hs.step E
    refine ⟨_, rfl, sB_intro (fun c4 => RP.f (fun hG => ?_) hs.ext) (fun c4 => ?_)⟩
    · have := ((hG.pd b d g).pfs k2 f g3).pw
      rw [bs_list, this] at c4; cases c4
    refine up_loopS (n := k2) hs (fun i => ∀ (j : Nat) (y : Fld), j < i → d.fs[j]? = some y → y.nm ≠ f.nm) (fun j y hj => by omega) ?_
    rintro - j1 h55 hj1 ⟨hs, hq3⟩
    refine sB_intro (fun c5 => ?_) (fun c5 => ?_)
    · replace c5 := lt_t c5
      refine ⟨_, hs.rd 0 rfl rfl, ?_⟩
      refine (hdi.pf.rw.ext hs.ext).nbI (by omega) (by omega) fun b57 o58 f3 g5 t5 => ?_
      replace g5 : d.fs[j1]? = some f3 := g5
      refine ⟨_, t5.nth 0 rfl, _, hs.rd 0 rfl rfl, ?_⟩
      refine (hdi.pf.rw.ext hs.ext).nbI (by omega) (by omega) fun b61 o62 f4 g6 t6 => ?_
      replace g6 : d.fs[k2]? = some f4 := g6
      rw [g3] at g6; cases g6
      refine ⟨_, t6.nth 0 rfl, sBs (fun e => ?_) (fun e => Up.next c5 (by omega) ⟨hs, fun j y hj hy => ?_⟩)⟩
      · refine RP.f (fun hG => ?_) hs.ext
        have := dup_iff.1 ((hG.pd b d g).pfs k2 f g3).pd j1 f3 (by rw [List.getElem?_take, if_pos c5]; exact g5)
        exact of_decide_eq_false this e
      · by_cases e2 : j = j1
        · subst e2; rw [g5] at hy; cases hy; exact e
        · exact hq3 j y (by omega) hy
    · replace c5 := lt_f c5
      refine Up.next c2 (by omega) ⟨hs, fun j y hj hy => ?_⟩
      by_cases e2 : j = k2
      · subst e2; rw [g3] at hy; cases hy
        refine ⟨?_, hb1.1 (bT c3), dup_iff.2 fun j' y' hy' => ?_⟩
        · have := bT c4; rw [bs_list] at this; exact this
        · rw [List.getElem?_take] at hy'
          split at hy'
          · exact decide_eq_false (hq3 j' y' (by omega) hy')
          · cases hy'
      · exact hq2 j y (by omega) hy
  · replace c2 : d.hf.n ≤ k2 := by have := of_decide_eq_false c2; omega
    have hfl : ∀ k f, d.fs[k]? = some f → FldS d.fs k f := fun k f hf => hq2 k f (by have := (List.getElem?_eq_some_iff.1 hf).1; omega) hf
    refine ⟨_, hs.rd 0 rfl rfl, ?_⟩
    refine (isPath157 (bs d.nm) h33 (hN d hdm)).mono ?_
    rintro _ h69 ⟨rfl, E⟩
    have hs := hs.step E
    refine ⟨_, rfl, sB_intro (fun c3 => RP.f (fun hG => ?_) hs.ext) (fun c3 => ?_)⟩
    · have := (hG.pd b d g).pp
      rw [bs_list, this] at c3; cases c3
    have hpp : isPath d.nm = true := by have := bT c3; rw [bs_list] at this; exact this
    refine ⟨_, hs.rd 0 rfl rfl, sB_intro (fun c4 => RP.f (fun hG => by have := (hG.pd b d g).pn; have := of_decide_eq_true c4; omega) hs.ext) (fun c4 => ?_)⟩
    replace c4 := of_decide_eq_false c4
    refine ⟨_, hs.rd 0 rfl rfl, sBn (fun c5 => RP.f (fun hG => by have := (hG.pd b d g).pf; omega) hs.ext) (fun c5 => ?_)⟩
    refine ⟨_, _, hs.at 0 rfl (o := 3) (n := 2) rfl, ?_⟩
    refine (goodGuard158 ds s d h69 (hd.ext hs.ext) (hdi.ext hs.ext)).mono ?_
    rintro _ h76 ⟨⟨b2, rfl, hb2⟩, E⟩
    have hs := hs.step E
    refine ⟨_, rfl, sB_intro (fun c6 => RP.f (fun hG => iff_f hb2 (bF c6) (hG.pd b d g).pg) hs.ext) (fun c6 => ?_)⟩
    refine ⟨_, hs.rd 0 rfl rfl, s.n - (b + 1), by omega, b + 1, by rw [w64 (by omega) (by omega)]; omega, by omega, rfl, hs.drop 1, ?_, fun j y hj hy => ?_⟩
    · have h1 : (allF (ds.take (b + 1))).length ≤ (allF ds).length := allF_take ds (b + 1)
      rw [List.take_add_one, g, Option.toList_some, allF_snoc, List.length_append] at h1 ⊢
      rw [w64 (by omega) (by omega)]; omega
    · by_cases e2 : j = b
      · subst e2; rw [g] at hy; cases hy
        exact ⟨hpp, by omega, by omega, hdup, hfl, hb2.1 (bT c6)⟩
      · exact hq j y (by omega) hy
end Go.VC
end

section
/- Contracts: the reference of validity: numbers, edges, time limits; each answers exactly. -/
namespace Go.VC
open Go.Proofs Go.LexS
set_option maxRecDepth 100000
theorem St.cut {h0 h : Heap} {L : List It} (hs : St h0 h L) (k : Nat) {s : Sl} {e : TypeId} {n : Nat} {rows : List (List Value)} (hk : L[k]? = some (.sl s e n rows)) (hn : 0 < n) (i : Nat) (hi : i ≤ s.n) :
    St h0 h (L.set k (.sl ⟨s.a, i, s.c⟩ e n (rows.take i))) := by
  have hget := hs.get hk
  have hln := (hs.rw k hk hn).1
  refine hs.turn hk (Nat.le_refl _) (j := .sl ⟨s.a, i, s.c⟩ e n (rows.take i)) ?_ (fun b hb => .inr hb) (fun _ _ _ => rfl)
  have hrl : ∀ r ∈ rows.take i, r.length = n := fun r hr => hget.2 r (List.mem_of_mem_take hr)
  have hfl : (rows.take i).flatten = rows.flatten.take (i * n) := by
    have h5 : rows = rows.take i ++ rows.drop i := (List.take_append_drop i rows).symm
    rw [congrArg List.flatten h5, List.flatten_append, List.take_append_of_le_length (by rw [flatten_len _ hrl, List.length_take, Nat.min_eq_left (by omega)]; exact Nat.le_refl _)]
    rw [List.take_of_length_le (l := (rows.take i).flatten) (by rw [flatten_len _ hrl, List.length_take, Nat.min_eq_left (by omega)]; exact Nat.le_refl _)]
  have hin : i * n ≤ s.n * n := Nat.mul_le_mul_right _ hi
  refine ⟨⟨by rw [flatten_len _ hrl, List.length_take]; show min i rows.length * n = i * n; rw [Nat.min_eq_left (by omega)], ?_⟩, hrl⟩
  rcases hget.1.2 with ⟨ha, h2, h3⟩ | ⟨g, cur, ha, hb0, hh, hnc, hcm, hsz, htk⟩
  · exact .inl ⟨ha, by show i = 0; omega, h3⟩
  · refine .inr ⟨g, cur, ha, hb0, hh, by show i ≤ s.c; omega, hcm, hsz, ?_⟩
    show cur.toList.take (i * n) = _
    rw [hfl, ← htk, List.take_take, Nat.min_eq_left hin]
theorem splice_set {xs : List Value} {i : Nat} {v : Value} (h : i < xs.length) : splice xs i [v] = xs.set i v := by
  unfold splice
  rw [List.set_eq_take_append_cons_drop, if_pos h]
  simp
theorem state114 (g : Gl) (p : Int) (h : Heap) : Fn Tryz.prog 114 #[g.v, .int .i64 p] h (RP (0 ≤ p ∧ p < g.n) h) := by
  apply vc114 (bs g.nm) g.hr g.hd g.n g.s g.e g.he g.ht; unfold W114
  refine (St.refl h).newb fun h9 hs => ?_
  refine sB_intro (fun c => ?_) (fun c => ?_)
  · refine ⟨_, hs.rd 0 rfl rfl, RP.e ?_ hs.ext⟩
    have := of_decide_eq_true c
    rw [decide_eq_true_eq]; omega
  · exact RP.f (by have := of_decide_eq_false c; omega) hs.ext
/-- the numbers of an automaton are right -/
structure NumR (g : Gl) : Prop where
  n : 1 ≤ g.n ∧ g.n ≤ 200
  s : 0 ≤ g.s ∧ g.s < g.n
  e : 0 ≤ g.e ∧ g.e < g.n
  es : ∀ x ∈ g.es, 0 ≤ x.f ∧ x.f < g.n ∧ 0 ≤ x.t ∧ x.t < g.n
theorem NumS.R {g : Gl} (h : NumS g) : NumR g := ⟨⟨h.n.1, h.n.2.1⟩, ⟨h.n.2.2.1, h.n.2.2.2.2.1⟩, ⟨h.n.2.2.2.1, h.n.2.2.2.2.2⟩, fun x hx => by
  have := h.e x hx
  unfold EdS at this
  omega⟩
theorem numbers65 (g : Gl) (h : Heap) (hg : GI h g) : Fn Tryz.prog 65 #[g.v] h (RP (NumS g) h) := by
  apply vc65 (bs g.nm) g.hr g.hd g.n g.s g.e g.he g.ht; unfold W65
  have hen := hg.e.ln
  have hem := hg.e.sm
  have hrn := hg.r.ln
  have hdn := hg.d.r.ln
  refine (St.refl h).newb fun h9 hs => ?_
  refine up_loopS (n := g.he.n) hs (fun i => ∀ j x, j < i → g.es[j]? = some x → EdS g x) (fun j x hj => by omega) ?_
  rintro - i h14 hi ⟨hs, hq⟩
  refine ⟨_, hs.rd 0 rfl rfl, sB_intro (fun c => ?_) (fun c => ?_)⟩
  · replace c := lt_t c
    refine ⟨_, hs.rd 0 rfl rfl, ?_⟩
    refine (hg.e.rw.ext hs.ext).nbI (by omega) (by omega) fun b o x gx t => ?_
    replace gx : g.es[i]? = some x := gx
    refine ⟨_, _, _, _, _, _, t, ?_⟩
    refine hs.newput (vs := x.cs) rfl rfl fun h26 hs => ?_
    refine ⟨_, _, _, _, _, _, _, _, hs.at 1 rfl (o := 0) (n := 8) rfl, _, hs.rd 0 rfl rfl, ?_⟩
    refine (state114 g x.f h26).mono ?_
    rintro _ h38 ⟨⟨b1, rfl, hb1⟩, E⟩
    have hs := hs.step E
    refine ⟨_, rfl, sB_intro (fun c1 => RP.f (fun hG => by have := iff_f hb1 (bF c1); have := hG.e x (List.mem_of_getElem? gx); unfold EdS at this; omega) hs.ext) (fun c1 => ?_)⟩
    refine ⟨_, _, _, _, _, _, _, _, hs.at 1 rfl (o := 0) (n := 8) rfl, _, hs.rd 0 rfl rfl, ?_⟩
    refine (state114 g x.t h38).mono ?_
    rintro _ h50 ⟨⟨b2, rfl, hb2⟩, E⟩
    have hs := hs.step E
    refine ⟨_, rfl, sB_intro (fun c2 => RP.f (fun hG => by have := iff_f hb2 (bF c2); have := hG.e x (List.mem_of_getElem? gx); unfold EdS at this; omega) hs.ext) (fun c2 => ?_)⟩
    have f1 := hb1.1 (bT c1)
    have f2 := hb2.1 (bT c2)
    repeat' (first
          | (refine ⟨_, hs.rd 0 rfl rfl, ?_⟩)
          | (refine ⟨_, hs.rd 1 rfl rfl, ?_⟩)
          | (refine ⟨_, hs.rd 2 rfl rfl, ?_⟩)
          | (refine ⟨_, _, _, hs.at 0 rfl (o := 1) (n := 3) rfl, ?_⟩)
          | (refine ⟨_, _, _, hs.at 1 rfl (o := 1) (n := 3) rfl, ?_⟩)
          | (refine sBi (fun _ => ?_) (fun _ => ?_))
          | (refine sBe (fun _ => ?_) (fun _ => ?_))
          | (refine sBn (fun _ => ?_) (fun _ => ?_))
          | (refine sB_intro (fun _ => ?_) (fun _ => ?_)))
    all_goals first
      | exact RP.f (fun hG => by have := hG.e x (List.mem_of_getElem? gx); unfold EdS at this; omega) hs.ext
      | (refine Up.next c (by omega) ⟨hs.drop 1, fun j y hj hy => ?_⟩
         by_cases e : j = i
         · subst e; rw [gx] at hy; cases hy; unfold EdS; omega
         · exact hq j y (by omega) hy)
  · replace c := lt_f c
    refine ⟨_, hs.rd 0 rfl rfl, sB_intro (fun c1 => ?_) (fun c1 => RP.f (fun hG => by have := of_decide_eq_false c1; have := hG.n; omega) hs.ext)⟩
    refine ⟨_, hs.rd 0 rfl rfl, sB_intro (fun c2 => ?_) (fun c2 => RP.f (fun hG => by have := of_decide_eq_false c2; have := hG.n; omega) hs.ext)⟩
    refine ⟨_, _, _, _, _, _, _, _, hs.at 0 rfl (o := 0) (n := 8) rfl, _, hs.rd 0 rfl rfl, ?_⟩
    refine (state114 g g.s h14).mono ?_
    rintro _ h76 ⟨⟨b3, rfl, hb3⟩, E⟩
    have hs := hs.step E
    refine ⟨_, rfl, sB_intro (fun c3 => ?_) (fun c3 => RP.f (fun hG => by have := iff_f hb3 c3; have := hG.n; omega) hs.ext)⟩
    refine ⟨_, _, _, _, _, _, _, _, hs.at 0 rfl (o := 0) (n := 8) rfl, _, hs.rd 0 rfl rfl, ?_⟩
    refine (state114 g g.e h76).mono ?_
    rintro _ h88 ⟨⟨b4, rfl, hb4⟩, E⟩
    have hs := hs.step E
    refine ⟨_, rfl, sB_intro (fun c4 => ?_) (fun c4 => RP.f (fun hG => by have := iff_f hb4 c4; have := hG.n; omega) hs.ext)⟩
    have f1 := of_decide_eq_true c1
    have f2 := of_decide_eq_true c2
    have f3 := hb3.1 c3
    have f4 := hb4.1 c4
    refine ⟨_, hs.rd 0 rfl rfl, RP.e ⟨fun hb => ⟨by omega, by have := of_decide_eq_true hb; omega, fun x hx => ?_⟩, fun hG => decide_eq_true (by have := hG.m; omega)⟩ hs.ext⟩
    obtain ⟨j, hj⟩ := List.mem_iff_getElem?.1 hx
    exact hq j x (by have := (List.getElem?_eq_some_iff.1 hj).1; omega) hj
/-- what stands beside an edge is right -/
structure ApS (g : Gl) : Prop where
  s : ∀ x ∈ g.es, x.ag = true → x.f ≠ g.s
  p : ∀ i x, g.es[i]? = some x → ∀ k y, g.es[k]? = some y → ¬ PairBad i k x y
set_option maxHeartbeats 1600000 in
theorem apart66 (g : Gl) (h : Heap) (hg : GI h g) : Fn Tryz.prog 66 #[g.v] h (RP (ApS g) h) := by
  apply vc66 (bs g.nm) g.hr g.hd g.n g.s g.e g.he g.ht; unfold W66
  have hen := hg.e.ln
  have hem := hg.e.sm
  refine (St.refl h).newb fun h9 hs => ?_
  refine up_loopS (n := g.he.n) hs (fun i => ∀ (j : Nat) (x : Ed), j < i → g.es[j]? = some x → (x.ag = true → x.f ≠ g.s) ∧ ∀ k y, g.es[k]? = some y → ¬ PairBad j k x y) (fun j y hj => by omega) ?_
  rintro - i h14 hi ⟨hs, hq⟩
  refine ⟨_, hs.rd 0 rfl rfl, sB_intro (fun c => ?_) (fun c => RP.t ⟨fun x hx => ?_, fun j x hx => ?_⟩ hs.ext)⟩
  · replace c := lt_t c
    refine ⟨_, hs.rd 0 rfl rfl, ?_⟩
    refine (hg.e.rw.ext hs.ext).nbI (by omega) (by omega) fun b o x gx t => ?_
    replace gx : g.es[i]? = some x := gx
    refine ⟨_, _, _, _, _, _, t, ?_⟩
    refine hs.newput (vs := x.cs) rfl rfl fun h26 hs => ?_
    refine ⟨_, hs.rd 0 rfl rfl, sB_intro (fun cg => ?_) (fun cg => ?_)⟩
    · refine ⟨_, hs.rd 0 rfl rfl, _, hs.rd 1 rfl rfl, sBe (fun cs => RP.f (fun hG => hG.s x (List.mem_of_getElem? gx) cg cs) hs.ext) (fun cs => ?_)⟩
      refine up_loopS (n := g.he.n) hs (fun k => ∀ (j : Nat) (y : Ed), j < k → g.es[j]? = some y → ¬ PairBad i j x y) (fun j y hj => by omega) ?_
      rintro - k h34 hk ⟨hs, hq2⟩
      refine ⟨_, hs.rd 1 rfl rfl, sB_intro (fun c2 => ?_) (fun c2 => ?_)⟩
      · replace c2 := lt_t c2
        refine ⟨_, hs.rd 1 rfl rfl, ?_⟩
        refine (hg.e.rw.ext hs.ext).nbI (by omega) (by omega) fun b o y gy ty => ?_
        replace gy : g.es[k]? = some y := gy
        refine ⟨_, _, _, _, _, _, ty, ?_⟩
        refine hs.newput (vs := y.cs) rfl rfl fun h46 hs => ?_
        repeat' (first
              | (refine ⟨_, hs.rd 0 rfl rfl, ?_⟩)
              | (refine ⟨_, hs.rd 1 rfl rfl, ?_⟩)
              | (refine ⟨_, hs.rd 2 rfl rfl, ?_⟩)
              | (refine ⟨_, _, _, hs.at 0 rfl (o := 1) (n := 3) rfl, ?_⟩)
              | (refine ⟨_, _, _, hs.at 1 rfl (o := 1) (n := 3) rfl, ?_⟩)
              | (refine sBi (fun _ => ?_) (fun _ => ?_))
              | (refine sBe (fun _ => ?_) (fun _ => ?_))
              | (refine sBn (fun _ => ?_) (fun _ => ?_))
              | (refine sB_intro (fun _ => ?_) (fun _ => ?_)))
        all_goals first
          | (refine RP.f (fun hG => hG.p i x gx k y gy ?_) hs.ext; clear hq hq2 hs hg t ty; unfold PairBad; grind)
          | (refine Up.next c2 (by omega) ⟨hs.drop 1, fun j z hj hz => ?_⟩
             by_cases e : j = k
             · subst e; rw [gy] at hz; cases hz; clear hq hq2 hs hg t ty; unfold PairBad; grind
             · exact hq2 j z (by omega) hz)
      · replace c2 : g.he.n ≤ k := by have := of_decide_eq_false c2; omega
        refine Up.next c (by omega) ⟨hs.drop 1, fun j z hj hz => ?_⟩
        by_cases e : j = i
        · subst e; rw [gx] at hz; cases hz
          exact ⟨by grind, fun k' y' hy' => hq2 k' y' (by have := (List.getElem?_eq_some_iff.1 hy').1; omega) hy'⟩
        · exact hq j z (by omega) hz
    · refine up_loopS (n := g.he.n) hs (fun k => ∀ (j : Nat) (y : Ed), j < k → g.es[j]? = some y → ¬ PairBad i j x y) (fun j y hj => by omega) ?_
      rintro - k h34 hk ⟨hs, hq2⟩
      refine ⟨_, hs.rd 1 rfl rfl, sB_intro (fun c2 => ?_) (fun c2 => ?_)⟩
      · replace c2 := lt_t c2
        refine ⟨_, hs.rd 1 rfl rfl, ?_⟩
        refine (hg.e.rw.ext hs.ext).nbI (by omega) (by omega) fun b o y gy ty => ?_
        replace gy : g.es[k]? = some y := gy
        refine ⟨_, _, _, _, _, _, ty, ?_⟩
        refine hs.newput (vs := y.cs) rfl rfl fun h46 hs => ?_
        repeat' (first
              | (refine ⟨_, hs.rd 0 rfl rfl, ?_⟩)
              | (refine ⟨_, hs.rd 1 rfl rfl, ?_⟩)
              | (refine ⟨_, hs.rd 2 rfl rfl, ?_⟩)
              | (refine ⟨_, _, _, hs.at 0 rfl (o := 1) (n := 3) rfl, ?_⟩)
              | (refine ⟨_, _, _, hs.at 1 rfl (o := 1) (n := 3) rfl, ?_⟩)
              | (refine sBi (fun _ => ?_) (fun _ => ?_))
              | (refine sBe (fun _ => ?_) (fun _ => ?_))
              | (refine sBn (fun _ => ?_) (fun _ => ?_))
              | (refine sB_intro (fun _ => ?_) (fun _ => ?_)))
        all_goals first
          | (refine RP.f (fun hG => hG.p i x gx k y gy ?_) hs.ext; clear hq hq2 hs hg t ty; unfold PairBad; grind)
          | (refine Up.next c2 (by omega) ⟨hs.drop 1, fun j z hj hz => ?_⟩
             by_cases e : j = k
             · subst e; rw [gy] at hz; cases hz; clear hq hq2 hs hg t ty; unfold PairBad; grind
             · exact hq2 j z (by omega) hz)
      · replace c2 : g.he.n ≤ k := by have := of_decide_eq_false c2; omega
        refine Up.next c (by omega) ⟨hs.drop 1, fun j z hj hz => ?_⟩
        by_cases e : j = i
        · subst e; rw [gx] at hz; cases hz
          exact ⟨by grind, fun k' y' hy' => hq2 k' y' (by have := (List.getElem?_eq_some_iff.1 hy').1; omega) hy'⟩
        · exact hq j z (by omega) hz
  · obtain ⟨j, hj⟩ := List.mem_iff_getElem?.1 hx
    exact (hq j x (by have := lt_f c; have := (List.getElem?_eq_some_iff.1 hj).1; omega) hj).1
  · exact (hq j x (by have := lt_f c; have := (List.getElem?_eq_some_iff.1 hx).1; omega) hx).2
theorem timed68 (g : Gl) (h : Heap) (hg : GI h g) (hN : NumS g) : Fn Tryz.prog 68 #[g.v] h (RP (TimS g) h) := by
  apply vc68 (bs g.nm) g.hr g.hd g.n g.s g.e g.he g.ht; unfold W68
  have hen := hg.e.ln
  have hem := hg.e.sm
  have htn := hg.t.ln
  have htm := hg.t.sm
  refine (St.refl h).newb fun h9 hs => ?_
  refine up_loopS (n := g.ht.n) hs (fun i => ∀ (j : Nat) (x : To), j < i → g.ts[j]? = some x → TmS g j x) (fun j y hj => by omega) ?_
  rintro - i h14 hi ⟨hs, hq⟩
  refine ⟨_, hs.rd 0 rfl rfl, sB_intro (fun c => ?_) (fun c => RP.t (fun j x hx => hq j x (by have := lt_f c; have := (List.getElem?_eq_some_iff.1 hx).1; omega) hx) hs.ext)⟩
  replace c := lt_t c
  refine ⟨_, hs.rd 0 rfl rfl, ?_⟩
  refine (hg.t.rw.ext hs.ext).nbI (by omega) (by omega) fun b o x gx t => ?_
  replace gx : g.ts[i]? = some x := gx
  have no : ∀ {q : Prop}, (TmS g i x → q) → TimS g → q := fun f hT => f (hT i x gx)
  refine ⟨_, _, _, t, ?_⟩
  refine hs.newput (vs := x.cs) rfl rfl fun h23 hs => ?_
  refine ⟨_, _, _, _, _, _, _, _, hs.at 1 rfl (o := 0) (n := 8) rfl, _, hs.rd 0 rfl rfl, ?_⟩
  refine (state114 g x.s h23).mono ?_
  rintro _ h35 ⟨⟨b1, rfl, hb1⟩, E⟩
  have hs := hs.step E
  refine ⟨_, rfl, sB_intro (fun c1 => RP.f (no fun hT => ?_) hs.ext) (fun c1 => ?_)⟩
  · obtain ⟨_, y, hy, hf, _⟩ := hT.e
    have := iff_f hb1 (bF c1)
    have := hN.R.es y (List.mem_of_getElem? hy)
    omega
  have f1 := hb1.1 (bT c1)
  refine sBi (fun c2 => ?_) (fun c2 => ?_)
  · have hw : IntKind.wrap .i64 ((i : Int) - 1) = ((i - 1 : Nat) : Int) := by rw [w64 (by omega) (by omega)]; omega
    refine ⟨_, hs.rd 0 rfl rfl, _, hs.rd 1 rfl rfl, ?_⟩
    rw [hw]
    refine (hg.t.rw.ext hs.ext).nbI (by omega) (by omega) fun b o z gz tz => ?_
    replace gz : g.ts[i - 1]? = some z := gz
    have hl : lastS g.ts i = z.s := by unfold lastS; rw [if_neg (by omega), gz]
    refine ⟨_, tz.nth 0 rfl, sBi (fun d0 => RP.f (no fun hT => by have := hT.o; omega) hs.ext) (fun d0 => ?_)⟩
    have ho : lastS g.ts i < x.s := by omega
    refine ⟨_, hs.rd 0 rfl rfl, sBi (fun d1 => RP.f (no fun hT => by have := hT.k; omega) hs.ext) (fun d1 => ?_)⟩
    refine ⟨_, hs.rd 0 rfl rfl, sBi (fun d2 => RP.f (no fun hT => by have := hT.k; omega) hs.ext) (fun d2 => ?_)⟩
    refine ⟨_, hs.rd 0 rfl rfl, sBi (fun d3 => RP.f (no fun hT => by have := hT.e.1; omega) hs.ext) (fun d3 => ?_)⟩
    refine ⟨_, hs.rd 0 rfl rfl, _, hs.rd 1 rfl rfl, sBi (fun d4 => RP.f (no fun hT => by obtain ⟨_, y, hy, _⟩ := hT.e; have := (List.getElem?_eq_some_iff.1 hy).1; omega) hs.ext) (fun d4 => ?_)⟩
    refine ⟨_, hs.rd 1 rfl rfl, _, hs.rd 0 rfl rfl, ?_⟩
    refine (hg.e.rw.ext hs.ext).nbI (by omega) (by omega) fun b o y gy ty => ?_
    refine ⟨_, ty.nth 0 rfl, _, hs.rd 0 rfl rfl, sBn (fun d5 => RP.f (no fun hT => by obtain ⟨_, z, hz, hf, _⟩ := hT.e; rw [gy] at hz; cases hz; omega) hs.ext) (fun d5 => ⟨_, hs.rd 1 rfl rfl, _, hs.rd 0 rfl rfl, ?_⟩)⟩
    refine (hg.e.rw.ext hs.ext).nbI (by omega) (by omega) fun b o y2 gy2 ty => ?_
    rw [gy] at gy2; cases gy2
    refine ⟨_, ty.nth 5 rfl, sB_intro (fun d6 => RP.f (no fun hT => by obtain ⟨_, z, hz, _, hf⟩ := hT.e; rw [gy] at hz; cases hz; rw [hf] at d6; cases d6) hs.ext) (fun d6 => ?_)⟩
    refine Up.next c (by omega) ⟨hs.drop 1, fun j z hj hz => ?_⟩
    by_cases e : j = i
    · subst e; rw [gx] at hz; cases hz
      exact ⟨ho, by omega, by omega, y, gy, by omega, d6⟩
    · exact hq j z (by omega) hz
  · have ho : lastS g.ts i < x.s := by unfold lastS; rw [if_pos (by omega)]; omega
    refine ⟨_, hs.rd 0 rfl rfl, sBi (fun d1 => RP.f (no fun hT => by have := hT.k; omega) hs.ext) (fun d1 => ?_)⟩
    refine ⟨_, hs.rd 0 rfl rfl, sBi (fun d2 => RP.f (no fun hT => by have := hT.k; omega) hs.ext) (fun d2 => ?_)⟩
    refine ⟨_, hs.rd 0 rfl rfl, sBi (fun d3 => RP.f (no fun hT => by have := hT.e.1; omega) hs.ext) (fun d3 => ?_)⟩
    refine ⟨_, hs.rd 0 rfl rfl, _, hs.rd 1 rfl rfl, sBi (fun d4 => RP.f (no fun hT => by obtain ⟨_, y, hy, _⟩ := hT.e; have := (List.getElem?_eq_some_iff.1 hy).1; omega) hs.ext) (fun d4 => ?_)⟩
    refine ⟨_, hs.rd 1 rfl rfl, _, hs.rd 0 rfl rfl, ?_⟩
    refine (hg.e.rw.ext hs.ext).nbI (by omega) (by omega) fun b o y gy ty => ?_
    refine ⟨_, ty.nth 0 rfl, _, hs.rd 0 rfl rfl, sBn (fun d5 => RP.f (no fun hT => by obtain ⟨_, z, hz, hf, _⟩ := hT.e; rw [gy] at hz; cases hz; omega) hs.ext) (fun d5 => ⟨_, hs.rd 1 rfl rfl, _, hs.rd 0 rfl rfl, ?_⟩)⟩
    refine (hg.e.rw.ext hs.ext).nbI (by omega) (by omega) fun b o y2 gy2 ty => ?_
    rw [gy] at gy2; cases gy2
    refine ⟨_, ty.nth 5 rfl, sB_intro (fun d6 => RP.f (no fun hT => by obtain ⟨_, z, hz, _, hf⟩ := hT.e; rw [gy] at hz; cases hz; rw [hf] at d6; cases d6) hs.ext) (fun d6 => ?_)⟩
    refine Up.next c (by omega) ⟨hs.drop 1, fun j z hj hz => ?_⟩
    by_cases e : j = i
    · subst e; rw [gx] at hz; cases hz
      exact ⟨ho, by omega, by omega, y, gy, by omega, d6⟩
    · exact hq j z (by omega) hz
end Go.VC
end

section
/- Contracts: the reference of validity: edges of a state, distances, reach, names; Valid, Good, small. -/
namespace Go.VC
open Go.Proofs Go.LexS
set_option maxRecDepth 100000
theorem smx {al : List Addr} {h h' : Heap} (E : Ext h h') : Sm al h h' := fun _ _ _ _ hv => hc_ext E hv
theorem Sm_but {al : List Addr} {h h' : Heap} {b : Nat} (hB : But b h h') (hn : ∀ a ∈ al, a.block ≠ b) : Sm al h h' := fun a ha k v hv => by
  rw [hc_of_block (hB.2 _ (by rw [addk_block']; exact hn a ha))]; exact hv
theorem before159 (g : Gl) (p q : Int) (h : Heap) (hg : GI h g) (hp0 : 0 ≤ p) (hp1 : p < g.es.length) (hq0 : 0 ≤ q) (hq1 : q < g.es.length) : Fn Tryz.prog 159 #[g.v, .int .i64 p, .int .i64 q] h (RBo h) := by
  apply vc159 (bs g.nm) g.hr g.hd g.n g.s g.e g.he g.ht; unfold W159
  have hen := hg.e.ln
  refine (St.refl h).newb fun h9 hs => ?_
  have hrw := hg.e.rw.ext hs.ext
  have hsz : h.size < h9.size := hc_blk (hs.rd 0 rfl (i := 0) rfl)
  refine ⟨_, hs.rd 0 rfl rfl, ?_⟩
  refine hrw.nbI (by omega) (by omega) fun b1 o1 x _ t1 => ?_
  refine ⟨_, _, _, t1.sub 1 3 rfl, _, hs.rd 0 rfl rfl, ?_⟩
  refine hrw.nbI (by omega) (by omega) fun b2 o2 y _ t2 => ?_
  have hb2 : b2 < h9.size := hc_blk t2.hd
  refine ⟨_, _, _, t2.sub 1 3 rfl, ?_, ?_⟩
  · intro h22 e22
    have E22 : Ext h9 h22 := by rw [e22]; exact Ext.push _ _
    refine ⟨smx E22, ?_⟩
    have hs : St h h22 [.blk h9.size [.int .i64 0, .int .i64 0, .int .i64 0] 53, .blk h.size g.cs 27] := hs.newb (K := fun h22 => St h h22 [.blk h9.size [.int .i64 0, .int .i64 0, .int .i64 0] 53, .blk h.size g.cs 27]) (fun _ hs => hs) h22 e22
    intro h23 e23
    have E23 : Ext h22 h23 := by rw [e23]; exact Ext.push _ _
    refine ⟨smx E23, ?_⟩
    have hs : St h h23 [.blk h22.size [.int .i64 0, .int .i64 0, .int .i64 0] 53, .blk h9.size [.int .i64 0, .int .i64 0, .int .i64 0] 53, .blk h.size g.cs 27] := hs.newb (K := fun h23 => St h h23 [.blk h22.size [.int .i64 0, .int .i64 0, .int .i64 0] 53, .blk h9.size [.int .i64 0, .int .i64 0, .int .i64 0] 53, .blk h.size g.cs 27]) (fun _ hs => hs) h23 e23
    obtain ⟨k1, k2⟩ := hs.put (K := fun h' => St h h' [.blk h22.size [.int .i64 0, .int .i64 0, .int .i64 0] 53, .blk h9.size [.int .i64 x.a, .int .i64 x.b, .int .i64 x.l] 53, .blk h.size g.cs 27]) 1 rfl (o := 0) (vs := [.int .i64 x.a, .int .i64 x.b, .int .i64 x.l]) (n := 3) rfl (show 3 ≤ 3 by decide) (fun h' hs => hs)
    refine ⟨k1, fun h24 e24 => ?_⟩
    have hs := k2 h24 e24
    have hB : But h9.size h23 h24 := by rw [e24]; exact But.hputs (a := ⟨h9.size, 0, none⟩) _ _ _
    refine ⟨Sm_but hB (fun a ha => ?_), ?_⟩
    · simp only [List.mem_cons, List.not_mem_nil, or_false] at ha
      rcases ha with rfl | rfl
      · show b2 ≠ h9.size; omega
      · show h.size ≠ h9.size; omega
    refine hs.put 0 rfl (o := 0) (vs := [.int .i64 y.a, .int .i64 y.b, .int .i64 y.l]) rfl (show 3 ≤ 3 by decide) fun h25 hs => ?_
    repeat' (first
        | exact .mk hs.ext
        | (refine sB_intro (fun _ => ?_) (fun _ => ?_))
        | (refine ⟨_, hs.rd 0 rfl rfl, ?_⟩)
        | (refine ⟨_, hs.rd 1 rfl rfl, ?_⟩))
  · intro h34 e34
    have E34 : Ext h9 h34 := by rw [e34]; exact Ext.push _ _
    refine ⟨smx E34, ?_⟩
    have hs : St h h34 [.blk h9.size [.int .i64 0, .int .i64 0, .int .i64 0] 53, .blk h.size g.cs 27] := hs.newb (K := fun h34 => St h h34 [.blk h9.size [.int .i64 0, .int .i64 0, .int .i64 0] 53, .blk h.size g.cs 27]) (fun _ hs => hs) h34 e34
    intro h35 e35
    have E35 : Ext h34 h35 := by rw [e35]; exact Ext.push _ _
    refine ⟨smx E35, ?_⟩
    have hsz34 : h9.size < h34.size := by rw [e34]; simp
    have hs : St h h35 [.blk h34.size [.int .i64 0, .int .i64 0, .int .i64 0] 53, .blk h9.size [.int .i64 0, .int .i64 0, .int .i64 0] 53, .blk h.size g.cs 27] := hs.newb (K := fun h35 => St h h35 [.blk h34.size [.int .i64 0, .int .i64 0, .int .i64 0] 53, .blk h9.size [.int .i64 0, .int .i64 0, .int .i64 0] 53, .blk h.size g.cs 27]) (fun _ hs => hs) h35 e35
    obtain ⟨k1, k2⟩ := hs.put (K := fun h' => St h h' [.blk h34.size [.int .i64 x.a, .int .i64 x.b, .int .i64 x.l] 53, .blk h9.size [.int .i64 0, .int .i64 0, .int .i64 0] 53, .blk h.size g.cs 27]) 0 rfl (o := 0) (vs := [.int .i64 x.a, .int .i64 x.b, .int .i64 x.l]) (n := 3) rfl (show 3 ≤ 3 by decide) (fun h' hs => hs)
    refine ⟨k1, fun h36 e36 => ?_⟩
    have hs := k2 h36 e36
    have hB : But h34.size h35 h36 := by rw [e36]; exact But.hputs (a := ⟨h34.size, 0, none⟩) _ _ _
    refine ⟨Sm_but hB (fun a ha => ?_), ?_⟩
    · simp only [List.mem_cons, List.not_mem_nil, or_false] at ha
      rcases ha with rfl | rfl
      · show b2 ≠ h34.size; omega
      · show h.size ≠ h34.size; omega
    refine hs.put 1 rfl (o := 0) (vs := [.int .i64 y.a, .int .i64 y.b, .int .i64 y.l]) rfl (show 3 ≤ 3 by decide) fun h37 hs => ?_
    repeat' (first
        | exact .mk hs.ext
        | (refine sB_intro (fun _ => ?_) (fun _ => ?_))
        | (refine ⟨_, hs.rd 0 rfl rfl, ?_⟩)
        | (refine ⟨_, hs.rd 1 rfl rfl, ?_⟩))
theorem intrw {h : Heap} {s : Sl} {L : List Int} (hr : Rw h 1 s (L.map inC)) (hc : s.n ≤ s.c) {i : Nat} (hi : i ≤ s.n) : Rw h 1 ⟨subA s.a i s.c 1, s.n - i, s.c - i⟩ ((L.drop i).map inC) := by
  have hn := hr.ln
  rw [List.map_drop]
  by_cases h0 : i = s.n
  · rw [List.drop_eq_nil_of_le (by rw [List.length_map]; omega)]
    exact Rw.empty (by show s.n - i = 0; omega)
  · exact hr.from hc (by omega)
theorem subA_nil {s : Sl} {i : Nat} (hna : s.a = none → s.n = 0 ∧ s.c = 0) (h : subA s.a i s.c 1 = none) : s.n - i = 0 ∧ s.c - i = 0 := by
  unfold subA at h
  split at h
  · have := hna h; omega
  · cases ha : s.a with
    | none => have := hna ha; omega
    | some a => rw [ha] at h; cases h
/-- the list of the edges of a state, up to edge i -/
def LOk (g : Gl) (p : Int) (i : Nat) (L : List Int) : Prop := (∀ y ∈ L, 0 ≤ y ∧ y < g.es.length) ∧ (L = [] ↔ ∀ (j : Nat) (x : Ed), j < i → g.es[j]? = some x → x.f ≠ p)
theorem edges116 (g : Gl) (p : Int) (h : Heap) (hg : GI h g) : Fn Tryz.prog 116 #[g.v, .int .i64 p] h fun v h' => (∃ s : Sl, v = .slice s.a s.n s.c ∧ (s.n = 0 ↔ ∀ x ∈ g.es, x.f ≠ p)) ∧ Ext h h' := by
  apply vc116 (bs g.nm) g.hr g.hd g.n g.s g.e g.he g.ht; unfold W116
  have hen := hg.e.ln
  have hem := hg.e.sm
  refine (St.refl h).newb fun h9 hs => ?_
  have hs := hs.nil_ 3 1
  refine ⟨fun out x h' m => ∃ (i : Nat) (L : List Int), x = i ∧ i ≤ g.he.n ∧ m = g.he.n - i ∧ L.length ≤ i ∧ LOk g p i L ∧ St h h' [.sl out 3 1 (L.map inC), .blk h.size g.cs 27],
    ⟨_, 0, [], rfl, by omega, rfl, Nat.le_refl _, ⟨(fun y hy => by cases hy), iff_of_true rfl fun j x hj => by omega⟩, hs⟩, ?_⟩
  rintro - out _ h15 m ⟨i, L, rfl, hi, rfl, hLl, hL, hs⟩
  refine ⟨_, hs.rd 1 rfl rfl, sB_intro (fun c => ?_) (fun c => ⟨⟨_, rfl, ?_⟩, hs.ext⟩)⟩
  rotate_left
  · replace c := lt_f c
    have hol := hs.len 0 rfl (by omega)
    rw [List.length_map] at hol
    have hLe : out.n = 0 ↔ L = [] := by rw [← List.length_eq_zero_iff]; omega
    rw [hLe, hL.2]
    exact ⟨fun hq x hx => by obtain ⟨j, hj⟩ := List.mem_iff_getElem?.1 hx; exact hq j x (by have := (List.getElem?_eq_some_iff.1 hj).1; omega) hj, fun hq j x _ hj => hq x (List.mem_of_getElem? hj)⟩
  replace c := lt_t c
  refine ⟨_, hs.rd 1 rfl rfl, ?_⟩
  refine (hg.e.rw.ext hs.ext).nbI (by omega) (by omega) fun b18 o19 x gx t => ?_
  replace gx : g.es[i]? = some x := gx
  refine ⟨_, t.nth 0 rfl, sBn (fun cf => ?_) (fun cf => ?_)⟩
  · refine ⟨_, by omega, i + 1, L, by rw [w64 (by omega) (by omega)]; omega, by omega, rfl, by omega, ⟨hL.1, hL.2.trans ⟨fun hq j y hj hy => ?_, fun hq j y hj hy => hq j y (by omega) hy⟩⟩, hs⟩
    by_cases e : j = i
    · subst e; rw [gx] at hy; cases hy; exact cf
    · exact hq j y (by omega) hy
  have hol := hs.len 0 rfl (by omega)
  rw [List.length_map] at hol
  -- the new list, put together
  have ins : ∀ (a : Nat) (h40 : Heap), a ≤ out.n → St h h40 [.sl out 3 1 (L.map inC), .blk h.size g.cs 27] → ∀ h42 : Heap, h42 = h40.push (.cells ⟨[.int .i64 i]⟩ 3) →
      App Tryz.prog 42 42 (.slice (some ⟨h40.size, 0, none⟩) 1 1) (.slice (subA out.a a out.c 1) (out.n - a) (out.c - a)) h42 fun s43 h44 =>
        App Tryz.prog 42 42 (.slice out.a a out.c) (.slice s43.a s43.n s43.c) h44 fun s45 h46 => ∃ m47, m47 < g.he.n - i ∧ (∃ (i' : Nat) (L : List Int), IntKind.wrap .i64 ((i : Int) + 1) = i' ∧ i' ≤ g.he.n ∧ m47 = g.he.n - i' ∧ L.length ≤ i' ∧ LOk g p i' L ∧ St h h46 [.sl s45 3 1 (L.map inC), .blk h.size g.cs 27]) := by
    intro a h40 ha hs
    refine hs.newb fun h42 hs => ?_
    have hs2 := hs.blkS 1 1 ([(i : Int)].map inC) rfl (inrows _) rfl (by decide)
    refine hs2.appRw 0 rfl app42 (y := ⟨subA out.a a out.c 1, out.n - a, out.c - a⟩) (intrw (hs2.rows 1 rfl (by omega)) hol.2.1 ha) (inrows _) (fun hn => subA_nil hol.2.2 hn) (by rw [List.all_eq_true]; intro v hv; obtain ⟨r, hr, hv2⟩ := List.mem_flatten.1 hv; obtain ⟨z, _, rfl⟩ := List.mem_map.1 hr; rw [List.mem_singleton.1 hv2]; rfl) (by show (1 + (out.n - a)) * 8 ≤ _; omega) (by show 1 + (out.n - a) ≤ 9223372036854775807; omega) fun s43 h44 hn43 hs => ?_
    replace hs : St h h44 [.sl s43 3 1 (((i : Int) :: L.drop a).map inC), .sl out 3 1 (L.map inC), .blk h.size g.cs 27] := hs
    have hcut := hs.cut 1 rfl (by omega) a ha
    rw [← List.map_take] at hcut
    replace hcut : St h h44 [.sl s43 3 1 (((i : Int) :: L.drop a).map inC), .sl ⟨out.a, a, out.c⟩ 3 1 ((L.take a).map inC), .blk h.size g.cs 27] := hcut
    have h43 := hcut.len 0 rfl (by omega)
    refine hcut.appRw 1 rfl app42 (hcut.rows 0 rfl (by omega)) (inrows _) h43.2.2 (by rw [List.all_eq_true]; intro v hv; obtain ⟨r, hr, hv2⟩ := List.mem_flatten.1 hv; obtain ⟨z, _, rfl⟩ := List.mem_map.1 hr; rw [List.mem_singleton.1 hv2]; rfl) (by show (a + s43.n) * 8 ≤ _; rw [hn43]; show (a + (1 + (out.n - a))) * 8 ≤ _; omega) (by show a + s43.n ≤ 9223372036854775807; rw [hn43]; show a + (1 + (out.n - a)) ≤ _; omega) fun s45 h46 hn45 hs => ?_
    replace hs : St h h46 [.sl s43 3 1 (((i : Int) :: L.drop a).map inC), .sl s45 3 1 ((L.take a).map inC ++ ((i : Int) :: L.drop a).map inC), .blk h.size g.cs 27] := hs
    rw [← List.map_append] at hs
    refine ⟨g.he.n - (i + 1), by omega, i + 1, L.take a ++ ((i : Int) :: L.drop a), by rw [w64 (by omega) (by omega)]; omega, by omega, rfl, ?_, ⟨fun y hy => ?_, iff_of_false (by simp) fun hq => hq i x (by omega) gx cf⟩, hs.drop 1⟩
    · rw [List.length_append, List.length_cons, List.length_take, List.length_drop]; omega
    · rcases List.mem_append.1 hy with hy | hy
      · exact hL.1 y (List.mem_of_mem_take hy)
      · rcases List.mem_cons.1 hy with rfl | hy
        · omega
        · exact hL.1 y (List.mem_of_mem_drop hy)
  refine up_loopS (n := out.n) hs (fun _ => True) trivial ?_
  rintro - a h26 ha ⟨hs, -⟩
  have ht1 : Int.toNat ((a : Nat) : Int) = a := by simp
  have ht2 : Int.toNat ((out.n : Nat) : Int) = out.n := by simp
  refine sB_intro (fun c1 => ?_) (fun c1 => ?_)
  · replace c1 := lt_t c1
    refine ⟨_, _, _, _, _, _, _, _, hs.at 1 rfl (o := 0) (n := 8) rfl, ?_⟩
    refine (hs.rows 0 rfl (by omega)).nbI (by omega) (by omega) fun b35 o36 y gy ty => ?_
    have hy := hL.1 y (List.mem_of_getElem? gy)
    refine ⟨_, ty.nth 0 rfl, ?_⟩
    refine (before159 g y i h26 (hg.ext hs.ext) hy.1 hy.2 (by omega) (by omega)).mono ?_
    rintro _ h40 ⟨⟨bb, rfl⟩, E⟩
    have hs := hs.step E
    refine ⟨_, rfl, sB_intro (fun _ => Up.next c1 (by omega) ⟨hs, trivial⟩) (fun _ => ?_)⟩
    refine ⟨⟨by omega, by omega, by omega⟩, ⟨by omega, by omega, by omega⟩, ?_⟩
    rw [ht1, ht2, show Int.toNat 0 = 0 from rfl, subA_zero, Nat.sub_zero, Nat.sub_zero]
    exact ins a h40 (by omega) hs
  · replace c1 := lt_f c1
    refine ⟨⟨by omega, by omega, by omega⟩, ⟨by omega, by omega, by omega⟩, ?_⟩
    rw [ht1, ht2, show Int.toNat 0 = 0 from rfl, subA_zero, Nat.sub_zero, Nat.sub_zero]
    exact ins a h26 (by omega) hs
end Go.VC
end

section
/- Distances and reach by rounds, on lists. No program here. -/
namespace Go.VC
/-- distances to a state, up to level n -/
structure EN (es : List Ed) (e : Int) (N n : Nat) (D : List Int) : Prop where
  len : D.length = N
  src : Vis D e
  r : ∀ v, Vis D v → Rch es true e v
  b : ∀ d ∈ D, -1 ≤ d ∧ d + D.count (-1) ≤ (N : Int) - 1
  c : ∀ x ∈ es, ∀ d, 0 ≤ x.t → D[x.t.toNat]? = some d → 0 ≤ d → d < n → Vis D x.f
/-- within level n: the first k edges are done -/
def ENk (es : List Ed) (n k : Nat) (D : List Int) : Prop := ∀ (j : Nat) (y : Ed), j < k → es[j]? = some y → 0 ≤ y.t → D[y.t.toNat]? = some (n : Int) → Vis D y.f
theorem count_rep (N : Nat) : (List.replicate N (-1 : Int)).count (-1) = N := by rw [List.count_replicate, if_pos (by simp)]
theorem EN.start {es : List Ed} {e : Int} {N : Nat} (h0 : 0 ≤ e) (h1 : e < N) : EN es e N 0 ((List.replicate N (-1 : Int)).set e.toNat 0) := by
  have hl : e < (List.replicate N (-1 : Int)).length := by rw [List.length_replicate]; exact h1
  have hv : ∀ v, Vis ((List.replicate N (-1 : Int)).set e.toNat 0) v ↔ v = e := fun v => by
    rw [vis_set h0 hl (by omega)]
    refine ⟨fun h => h.elim id fun h => ?_, .inl⟩
    obtain ⟨_, d, hd, h2⟩ := h
    have := List.eq_of_mem_replicate (List.mem_of_getElem? hd)
    omega
  have hc : ((List.replicate N (-1 : Int)).set e.toNat 0).count (-1) + 1 = N := by
    rw [List.count_set (by rw [List.length_replicate]; omega), count_rep, List.getElem_replicate]
    simp; omega
  refine ⟨by rw [List.length_set, List.length_replicate], (hv e).2 rfl, fun v h => ?_, fun d hd => ?_, fun x _ d _ _ hd0 hd1 => by omega⟩
  · rw [(hv v).1 h]; exact .refl
  · rcases List.mem_or_eq_of_mem_set hd with hd | rfl
    · rw [List.eq_of_mem_replicate hd]; omega
    · omega
theorem EN.set {es : List Ed} {e : Int} {N n k : Nat} {D : List Int} (h : EN es e N n D) (hk : ENk es n k D) {x : Ed} (hx : es[k]? = some x) {d : Int} (ht0 : 0 ≤ x.t) (ht : D[x.t.toNat]? = some (n : Int)) (hf0 : 0 ≤ x.f) (hf : D[x.f.toNat]? = some d) (hd : d < 0) :
    EN es e N n (D.set x.f.toNat (n + 1)) ∧ ENk es n (k + 1) (D.set x.f.toNat (n + 1)) := by
  have hfl := (List.getElem?_eq_some_iff.1 hf).1
  have hfe := (List.getElem?_eq_some_iff.1 hf).2
  have hd1 : d = -1 := by have := (h.b d (List.mem_of_getElem? hf)).1; omega
  subst hd1
  have hvs : ∀ v, Vis (D.set x.f.toNat (n + 1)) v ↔ v = x.f ∨ Vis D v := fun v => vis_set hf0 (by omega) (by omega)
  have hpos : 0 < D.count (-1) := List.count_pos_iff.2 (List.mem_of_getElem? hf)
  have hcnt : (D.set x.f.toNat ((n : Int) + 1)).count (-1) + 1 = D.count (-1) := by
    rw [List.count_set hfl, hfe]
    have : (((n : Int) + 1) == (-1 : Int)) = false := by simp; omega
    rw [this]
    simp; omega
  have hub := (h.b n (List.mem_of_getElem? ht)).2
  have hne : ∀ {y : Int} {d : Int}, 0 ≤ y → (D.set x.f.toNat ((n : Int) + 1))[y.toNat]? = some d → d ≤ n → D[y.toNat]? = some d := fun {y d} hy hg hle => by
    by_cases e : y.toNat = x.f.toNat
    · rw [e, List.getElem?_set_self hfl] at hg; cases hg; omega
    · rwa [List.getElem?_set_ne (by omega)] at hg
  refine ⟨⟨by rw [List.length_set]; exact h.len, (hvs e).2 (.inr h.src), fun v hv => ?_, fun d hd => ?_, fun y hy d h0 hg hd0 hd1 => ?_⟩, fun j y hj hy h0 hg => ?_⟩
  · rcases (hvs v).1 hv with rfl | hv
    · exact (h.r x.t ⟨ht0, _, ht, by omega⟩).step ⟨x, List.mem_of_getElem? hx, rfl, rfl⟩
    · exact h.r v hv
  · rcases List.mem_or_eq_of_mem_set hd with hd | rfl
    · have := h.b d hd; omega
    · omega
  · exact (hvs y.f).2 (.inr (h.c y hy d h0 (hne h0 hg (by omega)) hd0 hd1))
  · by_cases e : j = k
    · subst e; rw [hx] at hy; cases hy; exact (hvs x.f).2 (.inl rfl)
    · exact (hvs y.f).2 (.inr (hk j y (by omega) hy h0 (hne h0 hg (by omega))))
theorem ENk.skip {es : List Ed} {n k : Nat} {D : List Int} (hk : ENk es n k D) {x : Ed} (hx : es[k]? = some x) (h : 0 ≤ x.t → D[x.t.toNat]? = some (n : Int) → Vis D x.f) : ENk es n (k + 1) D := fun j y hj hy h0 hg => by
  by_cases e : j = k
  · subst e; rw [hx] at hy; cases hy; exact h h0 hg
  · exact hk j y (by omega) hy h0 hg
theorem EN.next {es : List Ed} {e : Int} {N n k : Nat} {D : List Int} (h : EN es e N n D) (hk : ENk es n k D) (hl : es.length ≤ k) : EN es e N (n + 1) D :=
  ⟨h.len, h.src, h.r, h.b, fun x hx d h0 hg hd0 hd1 => by
    obtain ⟨j, hj⟩ := List.mem_iff_getElem?.1 hx
    by_cases hd : d = n
    · subst hd; exact hk j x (by have := (List.getElem?_eq_some_iff.1 hj).1; omega) hj h0 hg
    · exact h.c x hx d h0 hg hd0 (by omega)⟩
theorem EN.end_ {es : List Ed} {e : Int} {N : Nat} {D : List Int} (h : EN es e N N D) (v : Int) : Vis D v ↔ Rch es true e v := by
  refine ⟨h.r v, fun hr => ?_⟩
  induction hr with
  | refl => exact h.src
  | step _ hbc ih =>
    obtain ⟨x, hx, h1, h2⟩ := hbc
    obtain ⟨h0, d, hd, hd0⟩ := ih
    have hb := (h.b d (List.mem_of_getElem? hd)).2
    have h1' : x.t = _ := h1
    have h2' : x.f = _ := h2
    rw [← h2']
    rw [← h1'] at hd h0
    exact h.c x hx d h0 hd hd0 (by omega)
/-- reach by rounds -/
def VB (R : List Bool) (v : Int) : Prop := 0 ≤ v ∧ R[v.toNat]? = some true
def ClB (es : List Ed) (k : Nat) (R : List Bool) : Prop := ∀ (j : Nat) (y : Ed), j < k → es[j]? = some y → VB R y.f → VB R y.t
structure RE (es : List Ed) (s : Int) (N : Nat) (R : List Bool) : Prop where
  len : R.length = N
  src : VB R s
  r : ∀ v, VB R v → Rch es false s v
/-- round n, edge k -/
def RN (es : List Ed) (n k : Nat) (R : List Bool) : Prop := ClB es es.length R ∨ (n + 1 ≤ R.count true ∧ (ClB es k R ∨ n + 2 ≤ R.count true))
theorem vb_set {R : List Bool} {b v : Int} (hb0 : 0 ≤ b) (hb : b.toNat < R.length) : VB (R.set b.toNat true) v ↔ v = b ∨ VB R v := by
  unfold VB
  constructor
  · rintro ⟨h0, h1⟩
    by_cases e : v = b
    · exact .inl e
    · rw [List.getElem?_set_ne (by omega)] at h1; exact .inr ⟨h0, h1⟩
  · rintro (rfl | ⟨h0, h1⟩)
    · exact ⟨hb0, by rw [List.getElem?_set_self hb]⟩
    · by_cases e : v = b
      · subst e; exact ⟨hb0, by rw [List.getElem?_set_self hb]⟩
      · exact ⟨h0, by rw [List.getElem?_set_ne (by omega)]; exact h1⟩
theorem RE.start {es : List Ed} {s : Int} {N : Nat} (h0 : 0 ≤ s) (h1 : s < N) : RE es s N ((List.replicate N false).set s.toNat true) ∧ RN es 0 0 ((List.replicate N false).set s.toNat true) := by
  have hv : ∀ v, VB ((List.replicate N false).set s.toNat true) v ↔ v = s := fun v => by
    rw [vb_set h0 (by rw [List.length_replicate]; omega)]
    refine ⟨fun h => h.elim id fun h => ?_, .inl⟩
    have := List.eq_of_mem_replicate (List.mem_of_getElem? h.2)
    cases this
  refine ⟨⟨by rw [List.length_set, List.length_replicate], (hv s).2 rfl, fun v h => by rw [(hv v).1 h]; exact .refl⟩, .inr ⟨?_, .inl fun j y hj => by omega⟩⟩
  exact List.count_pos_iff.2 (List.mem_of_getElem? (i := s.toNat) (by rw [List.getElem?_set_self (by rw [List.length_replicate]; omega)]))
theorem RE.set {es : List Ed} {s : Int} {N n k : Nat} {R : List Bool} (h : RE es s N R) (hn : RN es n k R) {x : Ed} (hx : es[k]? = some x) (ht0 : 0 ≤ x.t) (ht : R[x.t.toNat]? = some false) (hf0 : 0 ≤ x.f) (hf : R[x.f.toNat]? = some true) :
    RE es s N (R.set x.t.toNat true) ∧ RN es n (k + 1) (R.set x.t.toNat true) := by
  have htl := (List.getElem?_eq_some_iff.1 ht).1
  have hte := (List.getElem?_eq_some_iff.1 ht).2
  have hvs : ∀ v, VB (R.set x.t.toNat true) v ↔ v = x.t ∨ VB R v := fun v => vb_set ht0 htl
  have hcnt : (R.set x.t.toNat true).count true = R.count true + 1 := by
    rw [List.count_set htl, hte]; simp
  refine ⟨⟨by rw [List.length_set]; exact h.len, (hvs s).2 (.inr h.src), fun v hv => ?_⟩, ?_⟩
  · rcases (hvs v).1 hv with rfl | hv
    · exact (h.r x.f ⟨hf0, hf⟩).step ⟨x, List.mem_of_getElem? hx, rfl, rfl⟩
    · exact h.r v hv
  · rcases hn with hn | ⟨h1, _⟩
    · have := hn k x (List.getElem?_eq_some_iff.1 hx).1 hx ⟨hf0, hf⟩
      rw [this.2] at ht; cases ht
    · exact .inr ⟨by omega, .inr (by omega)⟩
theorem RN.skip {es : List Ed} {n k : Nat} {R : List Bool} (hn : RN es n k R) {x : Ed} (hx : es[k]? = some x) (h : VB R x.f → VB R x.t) : RN es n (k + 1) R := by
  rcases hn with hn | ⟨h1, h2⟩
  · exact .inl hn
  · refine .inr ⟨h1, h2.imp_left fun hc j y hj hy hv => ?_⟩
    by_cases e : j = k
    · subst e; rw [hx] at hy; cases hy; exact h hv
    · exact hc j y (by omega) hy hv
theorem RN.next {es : List Ed} {n k : Nat} {R : List Bool} (hn : RN es n k R) (hl : es.length ≤ k) : RN es (n + 1) 0 R := by
  rcases hn with hn | ⟨h1, h2 | h2⟩
  · exact .inl hn
  · exact .inl fun j y hj hy => h2 j y (by omega) hy
  · exact .inr ⟨by omega, .inl fun j y hj => by omega⟩
theorem RE.end_ {es : List Ed} {s : Int} {N : Nat} {R : List Bool} (h : RE es s N R) (hn : RN es N 0 R) (v : Int) : VB R v ↔ Rch es false s v := by
  refine ⟨h.r v, fun hr => ?_⟩
  have hc : ClB es es.length R := by
    rcases hn with hn | ⟨h1, _⟩
    · exact hn
    · have := h.len
      have : R.count true ≤ R.length := List.count_le_length
      omega
  induction hr with
  | refl => exact h.src
  | step _ hbc ih =>
    obtain ⟨x, hx, h1, h2⟩ := hbc
    obtain ⟨j, hj⟩ := List.mem_iff_getElem?.1 hx
    have h1' : x.f = _ := h1
    have h2' : x.t = _ := h2
    rw [← h2']
    exact hc j x (List.getElem?_eq_some_iff.1 hj).1 hj (by rw [h1']; exact ih)
end Go.VC
end

section
/- Contracts: the reference of validity: distances, reach, names; Valid, Good, small. -/
namespace Go.VC
open Go.Proofs Go.LexS
set_option maxRecDepth 100000
theorem ints_set {L : List Int} {i : Nat} (h : i < L.length) (y : Int) : splice (L.map (Value.int .i64)) i [.int .i64 y] = (L.set i y).map (Value.int .i64) := by
  rw [splice_set (by rw [List.length_map]; exact h), List.map_set]
theorem bools_set {L : List Bool} {i : Nat} (h : i < L.length) (y : Bool) : splice (L.map Value.bool) i [.bool y] = (L.set i y).map Value.bool := by
  rw [splice_set (by rw [List.length_map]; exact h), List.map_set]
theorem ints_flat : ∀ L : List Int, L.map (Value.int .i64) = (L.map inC).flatten
  | [] => rfl
  | a :: L => by rw [List.map_cons, List.map_cons, List.flatten_cons, ints_flat L]; rfl
theorem made3I (n : Nat) : madeL Tryz.prog 3 n = (List.replicate n (0 : Int)).map (Value.int .i64) := by rw [made3, List.map_replicate]
theorem at_ints {L : List Int} {i : Nat} (h : i < L.length) : ∃ y, (L.map (Value.int .i64))[i]? = some (.int .i64 y) ∧ L[i]? = some y := ⟨L[i], by rw [List.getElem?_map, List.getElem?_eq_getElem h]; rfl, List.getElem?_eq_getElem h⟩
theorem at_bools {L : List Bool} {i : Nat} (h : i < L.length) : ∃ y, (L.map Value.bool)[i]? = some (.bool y) ∧ L[i]? = some y := ⟨L[i], by rw [List.getElem?_map, List.getElem?_eq_getElem h]; rfl, List.getElem?_eq_getElem h⟩
theorem ends115 (g : Gl) (h : Heap) (hg : GI h g) (hN : NumR g) : Fn Tryz.prog 115 #[g.v] h fun v h' => Ext h h' ∧ ∃ (s : Sl) (L : List Int), v = .slice s.a s.n s.c ∧ Rw h' 1 s (L.map inC) ∧ L.length = g.n.toNat ∧ ∀ v, Vis L v ↔ Rch g.es true g.e v := by
  apply vc115 (bs g.nm) g.hr g.hd g.n g.s g.e g.he g.ht; unfold W115
  have hen := hg.e.ln
  have hem := hg.e.sm
  obtain ⟨N, hNn⟩ : ∃ N : Nat, g.n = N := ⟨g.n.toNat, by have := hN.n; omega⟩
  have hn1 := hN.n
  have hE := hN.e
  have htN : g.n.toNat = N := by omega
  refine (St.refl h).newb fun h9 hs => ?_
  refine ⟨_, hs.rd 0 rfl rfl, ⟨by omega, by omega, by omega⟩, ?_⟩
  rw [made3I]
  refine hs.newb fun h11 hs => ?_
  refine ⟨fun x h' m => ∃ (i : Nat) (L : List Int), x = i ∧ i ≤ N ∧ m = N - i ∧ (L.length = N ∧ ∀ (j : Nat), j < i → L[j]? = some (-1)) ∧ St h h' [.blk h9.size (L.map (Value.int .i64)) 3, .blk h.size g.cs 27], ⟨_, 0, _, rfl, by omega, rfl, ⟨by rw [List.length_replicate]; exact htN, fun j hj => by omega⟩, hs⟩, ?_⟩
  rintro - _ h16 m ⟨i, L, rfl, hi, rfl, ⟨hL, hLv⟩, hs⟩
  refine ⟨_, hs.rd 1 rfl rfl, sB_intro (fun c => ?_) (fun c0 => ?_)⟩
  · replace c := of_decide_eq_true c
    refine ⟨⟨by omega, by omega⟩, ?_⟩
    rw [show 0 + Int.toNat (i : Int) * 1 = i by simp]
    refine hs.put 0 rfl (o := i) (vs := [.int .i64 (-1)]) rfl (by rw [List.length_map]; show i + 1 ≤ _; omega) fun h18 hs => ?_
    rw [ints_set (by omega)] at hs
    refine ⟨_, by omega, i + 1, L.set i (-1), by rw [w64 (by omega) (by omega)]; omega, by omega, rfl, ⟨by rw [List.length_set]; exact hL, fun j hj => ?_⟩, hs⟩
    by_cases e : j = i
    · subst e; rw [List.getElem?_set_self (by omega)]
    · rw [List.getElem?_set_ne (by omega)]; exact hLv j (by omega)
  replace c0 := of_decide_eq_false c0
  have hLr : L = List.replicate N (-1) := List.ext_getElem? fun j => by
    by_cases hj : j < N
    · rw [hLv j (by omega), List.getElem?_replicate, if_pos hj]
    · rw [List.getElem?_eq_none (by omega), List.getElem?_replicate, if_neg hj]
  subst hLr
  refine ⟨_, hs.rd 1 rfl rfl, ⟨by omega, by omega⟩, ?_⟩
  obtain ⟨e, he⟩ : ∃ e : Nat, g.e = e := ⟨g.e.toNat, by omega⟩
  rw [he, show 0 + Int.toNat (e : Int) * 1 = e by simp]
  refine hs.put 0 rfl (o := e) (vs := [.int .i64 0]) rfl (by rw [List.length_map]; show e + 1 ≤ _; omega) fun h21 hs => ?_
  rw [ints_set (by omega)] at hs
  refine ⟨fun x h' m => ∃ (i : Nat) (L : List Int), x = i ∧ i ≤ N ∧ m = N - i ∧ EN g.es g.e N i L ∧ St h h' [.blk h9.size (L.map (Value.int .i64)) 3, .blk h.size g.cs 27], ⟨_, 0, _, rfl, by omega, rfl, ?_, hs⟩, ?_⟩
  · have := EN.start (es := g.es) (e := g.e) (N := N) (by omega) (by omega)
    rw [he] at this ⊢; exact this
  rintro - _ h26 m ⟨n, L2, rfl, hn, rfl, en2, hs⟩
  have hL2 := en2.len
  refine ⟨_, hs.rd 1 rfl rfl, sB_intro (fun c => ?_) (fun cE => ?_)⟩
  · replace c := of_decide_eq_true c
    refine ⟨fun x h' m => ∃ (i : Nat) (L : List Int), x = i ∧ i ≤ g.he.n ∧ m = g.he.n - i ∧ (EN g.es g.e N n L ∧ ENk g.es n i L) ∧ St h h' [.blk h9.size (L.map (Value.int .i64)) 3, .blk h.size g.cs 27], ⟨_, 0, L2, rfl, by omega, rfl, ⟨en2, fun j y hj => by omega⟩, hs⟩, ?_⟩
    rintro - _ h32 m ⟨k, L3, rfl, hk, rfl, ⟨en3, ek⟩, hs⟩
    have hL3 := en3.len
    refine ⟨_, hs.rd 1 rfl rfl, sB_intro (fun c2 => ?_) (fun c2 => ⟨_, by omega, n + 1, L3, by rw [w64 (by omega) (by omega)]; omega, by omega, rfl, en3.next ek (by have := lt_f c2; omega), hs⟩)⟩
    replace c2 := lt_t c2
    refine ⟨_, hs.rd 1 rfl rfl, ?_⟩
    refine (hg.e.rw.ext hs.ext).nbI (by omega) (by omega) fun b o x gx t => ?_
    replace gx : g.es[k]? = some x := gx
    have hx := hN.es x (List.mem_of_getElem? gx)
    obtain ⟨xt, hxt⟩ : ∃ a : Nat, x.t = a := ⟨x.t.toNat, by omega⟩
    obtain ⟨xf, hxf⟩ : ∃ a : Nat, x.f = a := ⟨x.f.toNat, by omega⟩
    refine ⟨_, _, _, _, _, _, t, ?_⟩
    refine hs.newput (vs := x.cs) rfl rfl fun h44 hs => ?_
    obtain ⟨y1, hy1, hz1⟩ := at_ints (L := L3) (i := xt) (by omega)
    obtain ⟨y2, hy2, hz2⟩ := at_ints (L := L3) (i := xf) (by omega)
    have htt : x.t.toNat = xt := by omega
    have htf : x.f.toNat = xf := by omega
    have nxt : ∀ {h' : Heap} {L4 : List Int}, (EN g.es g.e N n L4 ∧ ENk g.es n (k + 1) L4) → St h h' [.blk h9.size (L4.map (Value.int .i64)) 3, .blk h.size g.cs 27] → ∃ m53, m53 < g.he.n - k ∧ ∃ (i : Nat) (L : List Int), IntKind.wrap .i64 ((k : Int) + 1) = i ∧ i ≤ g.he.n ∧ m53 = g.he.n - i ∧ (EN g.es g.e N n L ∧ ENk g.es n i L) ∧ St h h' [.blk h9.size (L.map (Value.int .i64)) 3, .blk h.size g.cs 27] := fun h4 hs =>
      ⟨_, by omega, k + 1, _, by rw [w64 (by omega) (by omega)]; omega, by omega, rfl, h4, hs⟩
    refine ⟨x.t, hs.rd 0 rfl rfl, ⟨by omega, by omega⟩, ?_⟩
    rw [hxt, show 0 + Int.toNat (xt : Int) * 1 = xt by simp]
    refine ⟨y1, hs.rd 1 rfl hy1, sBe (fun e1 => ?_) (fun e1 => nxt ⟨en3, ek.skip gx fun _ hg1 => by rw [htt, hz1] at hg1; cases hg1; exact absurd rfl e1⟩ (hs.drop 1))⟩
    refine ⟨x.f, hs.rd 0 rfl rfl, ⟨by omega, by omega⟩, ?_⟩
    rw [hxf, show 0 + Int.toNat (xf : Int) * 1 = xf by simp]
    refine ⟨y2, hs.rd 1 rfl hy2, sBi (fun e2 => ?_) (fun e2 => nxt ⟨en3, ek.skip gx fun _ _ => ⟨by omega, y2, by rw [htf]; exact hz2, by omega⟩⟩ (hs.drop 1))⟩
    refine ⟨x.f, hs.rd 0 rfl rfl, ⟨by omega, by omega⟩, ?_⟩
    rw [hxf, show 0 + Int.toNat (xf : Int) * 1 = xf by simp]
    refine hs.put 1 rfl (o := xf) (vs := [.int .i64 (IntKind.wrap .i64 ((n : Int) + 1))]) rfl (by rw [List.length_map]; show xf + 1 ≤ _; omega) fun h50 hs => ?_
    rw [ints_set (by omega)] at hs
    rw [show IntKind.wrap .i64 ((n : Int) + 1) = (n : Int) + 1 from w64 (by omega) (by omega)] at hs
    refine nxt ?_ (hs.drop 1)
    have := en3.set ek gx (by omega) (by rw [htt, hz1, e1]) (by omega) (by rw [htf]; exact hz2) e2
    rw [htf] at this; exact this
  · have hfl := ints_flat L2
    rw [htN]
    have hs2 := hs.blkS N 1 (L2.map inC) hfl (inrows _) (by rw [List.length_map]; exact hL2) (by show N ≤ 9223372036854775807; omega)
    have hnN : n = N := by have := of_decide_eq_false cE; omega
    have en3 : EN g.es g.e N N L2 := by rw [hnN] at en2; exact en2
    exact ⟨hs.ext, ⟨some ⟨h9.size, 0, none⟩, N, N⟩, L2, rfl, hs2.rows 0 rfl (by omega), hL2, fun v => by rw [← he]; exact en3.end_ v⟩
theorem made4l (n : Nat) : madeL Tryz.prog 4 n = (List.replicate n false).map Value.bool := made4 n
/-- all is reached, from both sides -/
structure ConS (g : Gl) : Prop where
  f : ∀ v : Int, 0 ≤ v → v < g.n → Rch g.es false g.s v
  b : ∀ v : Int, 0 ≤ v → v < g.n → Rch g.es true g.e v
  e : ∀ x ∈ g.es, x.f ≠ g.e
theorem connected67 (g : Gl) (h : Heap) (hg : GI h g) (hN : NumR g) : Fn Tryz.prog 67 #[g.v] h (RP (ConS g) h) := by
  apply vc67 (bs g.nm) g.hr g.hd g.n g.s g.e g.he g.ht; unfold W67
  have hen := hg.e.ln
  have hem := hg.e.sm
  obtain ⟨N, hNn⟩ : ∃ N : Nat, g.n = N := ⟨g.n.toNat, by have := hN.n; omega⟩
  have hn1 := hN.n
  have hS := hN.s
  have htN : g.n.toNat = N := by omega
  refine (St.refl h).newb fun h9 hs => ?_
  refine ⟨_, hs.rd 0 rfl rfl, ⟨by omega, by omega, by omega⟩, ?_⟩
  rw [made4l]
  refine hs.newb fun h11 hs => ?_
  refine ⟨_, hs.rd 1 rfl rfl, ⟨by omega, by omega⟩, ?_⟩
  obtain ⟨s0, hs0⟩ : ∃ e : Nat, g.s = e := ⟨g.s.toNat, by omega⟩
  rw [hs0, show 0 + Int.toNat (s0 : Int) * 1 = s0 by simp]
  refine hs.put 0 rfl (o := s0) (vs := [.bool true]) rfl (by rw [List.length_map, List.length_replicate]; show s0 + 1 ≤ _; omega) fun h13 hs => ?_
  rw [bools_set (by rw [List.length_replicate]; omega)] at hs
  refine ⟨fun x h' m => ∃ (i : Nat) (L : List Bool), x = i ∧ i ≤ N ∧ m = N - i ∧ (RE g.es g.s N L ∧ RN g.es i 0 L) ∧ St h h' [.blk h9.size (L.map Value.bool) 4, .blk h.size g.cs 27], ⟨_, 0, _, rfl, by omega, rfl, ?_, hs⟩, ?_⟩
  · have := RE.start (es := g.es) (s := g.s) (N := N) (by omega) (by omega)
    rw [htN]
    rw [hs0] at this ⊢; exact this
  rintro - _ h18 m ⟨n, L, rfl, hn, rfl, ⟨re1, rn1⟩, hs⟩
  have hL := re1.len
  refine ⟨_, hs.rd 1 rfl rfl, sB_intro (fun c => ?_) (fun cE => ?_)⟩
  · replace c := of_decide_eq_true c
    refine ⟨fun x h' m => ∃ (i : Nat) (L : List Bool), x = i ∧ i ≤ g.he.n ∧ m = g.he.n - i ∧ (RE g.es g.s N L ∧ RN g.es n i L) ∧ St h h' [.blk h9.size (L.map Value.bool) 4, .blk h.size g.cs 27], ⟨_, 0, L, rfl, by omega, rfl, ⟨re1, rn1⟩, hs⟩, ?_⟩
    rintro - _ h24 m ⟨k, L3, rfl, hk, rfl, ⟨re3, rn3⟩, hs⟩
    have hL3 := re3.len
    refine ⟨_, hs.rd 1 rfl rfl, sB_intro (fun c2 => ?_) (fun c2 => ⟨_, by omega, n + 1, L3, by rw [w64 (by omega) (by omega)]; omega, by omega, rfl, ⟨re3, rn3.next (by have := lt_f c2; omega)⟩, hs⟩)⟩
    replace c2 := lt_t c2
    have nxt : ∀ {h' : Heap} {L4 : List Bool}, (RE g.es g.s N L4 ∧ RN g.es n (k + 1) L4) → St h h' [.blk h9.size (L4.map Value.bool) 4, .blk h.size g.cs 27] → ∃ m53, m53 < g.he.n - k ∧ ∃ (i : Nat) (L : List Bool), IntKind.wrap .i64 ((k : Int) + 1) = i ∧ i ≤ g.he.n ∧ m53 = g.he.n - i ∧ (RE g.es g.s N L ∧ RN g.es n i L) ∧ St h h' [.blk h9.size (L.map Value.bool) 4, .blk h.size g.cs 27] := fun h4 hs =>
      ⟨_, by omega, k + 1, _, by rw [w64 (by omega) (by omega)]; omega, by omega, rfl, h4, hs⟩
    refine ⟨_, hs.rd 1 rfl rfl, ?_⟩
    have hrw := hg.e.rw.ext hs.ext
    refine hrw.nbI (by omega) (by omega) fun b o x gx t => ?_
    replace gx : g.es[k]? = some x := gx
    have hx := hN.es x (List.mem_of_getElem? gx)
    obtain ⟨xt, hxt⟩ : ∃ a : Nat, x.t = a := ⟨x.t.toNat, by omega⟩
    obtain ⟨xf, hxf⟩ : ∃ a : Nat, x.f = a := ⟨x.f.toNat, by omega⟩
    obtain ⟨y1, hy1, hz1⟩ := at_bools (L := L3) (i := xt) (by omega)
    obtain ⟨y2, hy2, hz2⟩ := at_bools (L := L3) (i := xf) (by omega)
    have htt : x.t.toNat = xt := by omega
    have htf : x.f.toNat = xf := by omega
    have same : ∀ {b : Bool}, L3[xt]? = some b → L3.set xt b = L3 := fun {b} hb => by
      obtain ⟨hl, he⟩ := List.getElem?_eq_some_iff.1 hb
      rw [← he, List.set_getElem_self]
    refine ⟨x.t, t.nth 4 rfl, ?_⟩
    refine ⟨_, hs.rd 1 rfl rfl, ?_⟩
    refine hrw.nbI (by omega) (by omega) fun b o x' gx' t' => ?_
    replace gx' : g.es[k]? = some x' := gx'
    rw [gx] at gx'; cases gx'
    refine ⟨x.t, t'.nth 4 rfl, ⟨by omega, by omega⟩, ?_⟩
    rw [hxt, show 0 + Int.toNat (xt : Int) * 1 = xt by simp]
    refine ⟨y1, hs.rd 0 rfl hy1, sB_intro (fun e1 => ?_) (fun e1 => ?_)⟩
    · refine ⟨⟨by omega, by omega⟩, ?_⟩
      refine hs.put 0 rfl (o := xt) (vs := [.bool true]) rfl (by rw [List.length_map]; show xt + 1 ≤ _; omega) fun h35 hs => ?_
      rw [bools_set (by omega), same (by rw [hz1, e1])] at hs
      exact nxt ⟨re3, rn3.skip gx fun _ => ⟨by omega, by rw [htt, hz1, e1]⟩⟩ hs
    · refine ⟨_, hs.rd 1 rfl rfl, ?_⟩
      refine hrw.nbI (by omega) (by omega) fun b o x' gx' t' => ?_
      replace gx' : g.es[k]? = some x' := gx'
      rw [gx] at gx'; cases gx'
      refine ⟨x.f, t'.nth 0 rfl, ⟨by omega, by omega⟩, ?_⟩
      rw [hxf, show 0 + Int.toNat (xf : Int) * 1 = xf by simp]
      refine ⟨y2, hs.rd 0 rfl hy2, ⟨by omega, by omega⟩, ?_⟩
      refine hs.put 0 rfl (o := xt) (vs := [.bool y2]) rfl (by rw [List.length_map]; show xt + 1 ≤ _; omega) fun h42 hs => ?_
      rw [bools_set (by omega)] at hs
      refine nxt ?_ hs
      cases y2 with
      | true =>
        have := re3.set rn3 gx (by omega) (by rw [htt, hz1, e1]) (by omega) (by rw [htf]; exact hz2)
        rw [htt] at this; exact this
      | false =>
        rw [same (by rw [hz1, e1])]
        exact ⟨re3, rn3.skip gx fun hv => by have := hv.2; rw [htf, hz2] at this; cases this⟩
  · refine ⟨_, _, _, _, _, _, _, _, hs.at 1 rfl (o := 0) (n := 8) rfl, ?_⟩
    refine (ends115 g h18 (hg.ext hs.ext) hN).mono ?_
    rintro _ h55 ⟨E, l, L2, rfl, hl, hl2, hvis⟩
    have hnN : n = N := by have := of_decide_eq_false cE; omega
    have rn2 : RN g.es N 0 L := by rw [hnN] at rn1; exact rn1
    have hreach := re1.end_ rn2
    have hs := hs.step E
    have hln := hl.ln
    refine ⟨_, rfl, ?_⟩
    refine ⟨fun x h' m => ∃ i : Nat, x = i ∧ i ≤ N ∧ m = N - i ∧ h' = h55 ∧ ∀ v : Int, 0 ≤ v → v < i → Rch g.es false g.s v ∧ Rch g.es true g.e v, ⟨_, 0, rfl, by omega, rfl, rfl, fun v h1 h2 => by omega⟩, ?_⟩
    rintro - _ h60 m ⟨i, rfl, hi, rfl, rfl, hq⟩
    refine ⟨_, hs.rd 1 rfl rfl, sB_intro (fun c => ?_) (fun c => ?_)⟩
    · replace c := of_decide_eq_true c
      obtain ⟨y1, hy1, hz1⟩ := at_bools (L := L) (i := i) (by omega)
      refine ⟨⟨by omega, by omega⟩, ?_⟩
      rw [show 0 + Int.toNat (i : Int) * 1 = i by simp]
      refine ⟨y1, hs.rd 0 rfl hy1, sB_intro (fun e1 => RP.f (fun hG => ?_) hs.ext) (fun e1 => ?_)⟩
      · have := ((hreach i).2 (hG.f i (by omega) (by omega))).2
        rw [show ((i : Int)).toNat = i from rfl, hz1] at this
        cases this; cases e1
      refine hl.nbI (by omega) (by omega) fun b o y gy t => ?_
      replace gy : L2[i]? = some y := gy
      refine ⟨_, t.nth 0 rfl, sBi (fun e2 => RP.f (fun hG => ?_) hs.ext) (fun e2 => ⟨_, by omega, i + 1, by rw [w64 (by omega) (by omega)]; omega, by omega, rfl, rfl, fun v h1 h2 => ?_⟩)⟩
      · obtain ⟨_, d, hd, hd0⟩ := (hvis i).2 (hG.b i (by omega) (by omega))
        rw [show ((i : Int)).toNat = i from rfl, gy] at hd
        cases hd; omega
      · by_cases e : v = (i : Int)
        · subst e
          exact ⟨(hreach i).1 ⟨by omega, by rw [show ((i : Int)).toNat = i from rfl, hz1, bT e1]⟩, (hvis i).1 ⟨by omega, y, gy, by omega⟩⟩
        · exact hq v h1 (by omega)
    · refine ⟨_, _, _, _, _, _, _, _, hs.at 1 rfl (o := 0) (n := 8) rfl, _, hs.rd 1 rfl rfl, ?_⟩
      refine (edges116 g g.e _ (hg.ext hs.ext)).mono ?_
      rintro _ h78 ⟨⟨q, rfl, hqe⟩, E⟩
      replace c := of_decide_eq_false c
      refine ⟨_, rfl, RP.e ?_ (hs.step E).ext⟩
      have hb : ∀ b : Bool, (b = true ↔ q.n = 0) → (b = true ↔ ConS g) := fun b hb => hb.trans (hqe.trans ⟨fun he => ⟨fun v h1 h2 => (hq v h1 (by omega)).1, fun v h1 h2 => (hq v h1 (by omega)).2, he⟩, fun hG => hG.e⟩)
      refine hb _ ?_
      simp
theorem names64 (g : Gl) (h : Heap) (hg : GI h g) (hM : GNm g.ds) : Fn Tryz.prog 64 #[g.v] h (RP (NamedS g ∧ DeclS g.ds) h) := by
  apply vc64 (bs g.nm) g.hr g.hd g.n g.s g.e g.he g.ht; unfold W64
  have hrn := hg.r.ln
  have hrm := hg.r.sm
  refine (St.refl h).newb fun h9 hs => ?_
  refine up_loopS (n := g.hr.n) hs (fun i => ∀ (j : Nat) (s : Nm), j < i → g.rs[j]? = some s → isWord s = true ∧ s ∉ g.rs.take j) (fun j s hj => by omega) ?_
  rintro - i h14 hi ⟨hs, hq⟩
  refine ⟨_, hs.rd 0 rfl rfl, sB_intro (fun c => ?_) (fun c => ?_)⟩
  · replace c := lt_t c
    refine ⟨_, hs.rd 0 rfl rfl, ?_⟩
    refine (hg.r.rw.ext hs.ext).nbI (by omega) (by omega) fun b o x gx t => ?_
    replace gx : g.rs[i]? = some x := gx
    refine ⟨_, t.nth 0 rfl, ?_⟩
    refine (isWord111 (bs x) h14).mono ?_
    rintro _ h22 ⟨rfl, E⟩
    have hs := hs.step E
    refine ⟨_, rfl, sB_intro (fun c1 => RP.f (fun hG => ?_) hs.ext) (fun c1 => ?_)⟩
    · have := (hG.1.r i x gx).1
      rw [bs_list, this] at c1; cases c1
    refine ⟨_, hs.rd 0 rfl rfl, _, hs.rd 0 rfl rfl, ?_⟩
    refine (hg.r.rw.ext hs.ext).nbI (by omega) (by omega) fun b o x2 gx2 t => ?_
    replace gx2 : g.rs[i]? = some x2 := gx2
    rw [gx] at gx2; cases gx2
    refine ⟨_, t.nth 0 rfl, ?_⟩
    refine (index112 g.rs g.hr (bs x) h22 (hg.r.rw.ext hs.ext) hrm).mono ?_
    rintro _ h30 ⟨⟨k, rfl, hk⟩, rfl⟩
    replace hk := hk i (by omega)
    rw [bs_list] at hk
    have hxm : x ∈ g.rs := List.mem_of_getElem? gx
    refine ⟨_, rfl, fun _ _ _ _ hv => hv, sBi (fun c2 => RP.f (fun hG => ?_) hs.ext) (fun c2 => Up.next c (by omega) ⟨hs, fun j s hj hj2 => ?_⟩)⟩
    · rcases hk.1 c2 with h1 | h1
      · exact (hG.1.r i x gx).2 h1
      · exact h1 hxm
    · by_cases e : j = i
      · subst e; rw [gx] at hj2; cases hj2
        refine ⟨by have := bT c1; rw [bs_list] at this; exact this, fun hm => c2 (hk.2 (.inl hm))⟩
      · exact hq j s (by omega) hj2
  · replace c := lt_f c
    refine ⟨_, hs.rd 0 rfl rfl, ?_⟩
    refine (isWord111 (bs g.nm) h14).mono ?_
    rintro _ h35 ⟨rfl, E⟩
    have hs := hs.step E
    refine ⟨_, rfl, sB_intro (fun c1 => ⟨_, hs.rd 0 rfl rfl, sBi (fun c2 => ⟨_, hs.rd 0 rfl rfl, sBi (fun c3 => ⟨_, hs.rd 0 rfl rfl, ?_⟩) (fun c3 => RP.f (fun hG => c3 (by have := hG.1.n6; omega)) hs.ext)⟩) (fun c2 => RP.f (fun hG => c2 (by have := hG.1.n1; omega)) hs.ext)⟩) (fun c1 => RP.f (fun hG => by rw [bs_list, hG.1.w] at c1; cases c1) hs.ext)⟩
    refine (refValid113 g.ds g.hd h35 (hg.d.ext hs.ext) hM).mono ?_
    rintro _ h41 ⟨⟨b2, rfl, hb2⟩, E⟩
    refine ⟨_, rfl, RP.e (hb2.trans ⟨fun hd => ⟨⟨by rw [bs_list] at c1; exact c1, by omega, by omega, fun j s hj => hq j s (by have := (List.getElem?_eq_some_iff.1 hj).1; omega) hj⟩, hd⟩, fun hG => hG.2⟩) (hs.step E).ext⟩
theorem refValid31 (g : Gl) (h : Heap) (hg : GI h g) (hM : GNm g.ds) : Fn Tryz.prog 31 #[g.v] h (RP (ValidS g) h) := by
  apply vc31 (bs g.nm) g.hr g.hd g.n g.s g.e g.he g.ht; unfold W31
  refine (St.refl h).newb fun h9 hs => ?_
  refine ⟨_, _, _, _, _, _, _, _, hs.at 0 rfl (o := 0) (n := 8) rfl, ?_⟩
  refine (names64 g h9 (hg.ext hs.ext) hM).mono ?_
  rintro _ h20 ⟨⟨b1, rfl, hb1⟩, E⟩
  have hs := hs.step E
  refine ⟨_, rfl, sB_intro (fun c1 => ?_) (fun c1 => RP.f (fun hG => iff_f hb1 c1 ⟨hG.nam, hG.dcl⟩) hs.ext)⟩
  refine ⟨_, _, _, _, _, _, _, _, hs.at 0 rfl (o := 0) (n := 8) rfl, ?_⟩
  refine (numbers65 g h20 (hg.ext hs.ext)).mono ?_
  rintro _ h31 ⟨⟨b2, rfl, hb2⟩, E⟩
  have hs := hs.step E
  refine ⟨_, rfl, sB_intro (fun c2 => ?_) (fun c2 => RP.f (fun hG => iff_f hb2 c2 hG.num) hs.ext)⟩
  have hN := hb2.1 c2
  refine ⟨_, _, _, _, _, _, _, _, hs.at 0 rfl (o := 0) (n := 8) rfl, ?_⟩
  refine (apart66 g h31 (hg.ext hs.ext)).mono ?_
  rintro _ h42 ⟨⟨b3, rfl, hb3⟩, E⟩
  have hs := hs.step E
  refine ⟨_, rfl, sB_intro (fun c3 => ?_) (fun c3 => RP.f (fun hG => iff_f hb3 c3 ⟨hG.ord.s, hG.ord.p⟩) hs.ext)⟩
  refine ⟨_, _, _, _, _, _, _, _, hs.at 0 rfl (o := 0) (n := 8) rfl, ?_⟩
  refine (connected67 g h42 (hg.ext hs.ext) hN.R).mono ?_
  rintro _ h53 ⟨⟨b4, rfl, hb4⟩, E⟩
  have hs := hs.step E
  refine ⟨_, rfl, sB_intro (fun c4 => ?_) (fun c4 => RP.f (fun hG => iff_f hb4 c4 ⟨hG.fwd, hG.bwd, hG.ord.e⟩) hs.ext)⟩
  refine ⟨_, _, _, _, _, _, _, _, hs.at 0 rfl (o := 0) (n := 8) rfl, ?_⟩
  refine (timed68 g h53 (hg.ext hs.ext) hN).mono ?_
  rintro _ h64 ⟨⟨b5, rfl, hb5⟩, E⟩
  have f1 := hb1.1 c1
  have f3 := hb3.1 c3
  have f4 := hb4.1 c4
  exact ⟨_, rfl, RP.e (hb5.trans ⟨fun ht => ⟨f1.1, hN, f1.2, ⟨f4.e, f3.s, f3.p⟩, ht, f4.f, f4.b⟩, fun hG => hG.tim⟩) (hs.step E).ext⟩
theorem good49 (g : Gl) (role : Int) (h : Heap) (hg : GI h g) (hM : GNm g.ds) : Fn Tryz.prog 49 #[g.v, .int .i64 role] h (RP (ValidS g ∧ 0 ≤ role ∧ role < g.rs.length) h) := by
  apply vc49 (bs g.nm) g.hr g.hd g.n g.s g.e g.he g.ht; unfold W49
  have hrn := hg.r.ln
  refine (St.refl h).newb fun h9 hs => ?_
  refine ⟨_, _, _, _, _, _, _, _, hs.at 0 rfl (o := 0) (n := 8) rfl, ?_⟩
  refine (refValid31 g h9 (hg.ext hs.ext) hM).mono ?_
  rintro _ h20 ⟨⟨b1, rfl, hb1⟩, E⟩
  have hs := hs.step E
  exact ⟨_, rfl, sB_intro (fun c1 => sBi (fun c2 => ⟨_, hs.rd 0 rfl rfl, RP.e ⟨fun hb => ⟨hb1.1 c1, by omega, by have := of_decide_eq_true hb; omega⟩, fun hG => decide_eq_true (by omega)⟩ hs.ext⟩) (fun c2 => RP.f (fun hG => c2 (by omega)) hs.ext)) (fun c1 => RP.f (fun hG => iff_f hb1 c1 hG.1) hs.ext)⟩
theorem small21 (g : Gl) (role : Int) (h : Heap) (hg : GI h g) (hM : GNm g.ds) : Fn Tryz.prog 21 #[g.v, .int .i64 role] h fun v h' => (∃ b : Bool, v = .bool b ∧ (b = true → ValidS g ∧ 0 ≤ role ∧ role < g.rs.length)) ∧ Ext h h' := by
  apply vc21 (bs g.nm) g.hr g.hd g.n g.s g.e g.he g.ht; unfold W21
  refine (St.refl h).newb fun h9 hs => ?_
  refine ⟨_, _, _, _, _, _, _, _, hs.at 0 rfl (o := 0) (n := 8) rfl, ?_⟩
  refine (few11 g h9 (hg.ext hs.ext)).mono ?_
  rintro _ h20 ⟨rfl, E⟩
  have hs := hs.step E
  refine ⟨_, rfl, sB_intro (fun _ => ?_) (fun _ => ⟨⟨false, rfl, fun e => (by cases e)⟩, hs.ext⟩)⟩
  refine ⟨_, _, _, _, _, _, _, _, hs.at 0 rfl (o := 0) (n := 8) rfl, ?_⟩
  refine (good49 g role h20 (hg.ext hs.ext) hM).mono ?_
  rintro _ h31 ⟨⟨b2, rfl, hb2⟩, E⟩
  exact ⟨_, rfl, ⟨_, rfl, hb2.1⟩, (hs.step E).ext⟩
end Go.VC
end
