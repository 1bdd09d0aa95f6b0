import Derived.Test.YtpelfojmncfonaaLexI
set_option linter.unusedVariables false
set_option linter.unusedSimpArgs false

namespace Go.VC
open Go.Proofs Go.LexS
set_option maxRecDepth 100000

theorem RAns.wrap {h hX : Heap} {r : Except Int (T × Nat)} {v : Value} (ha : RAns h r v hX) {b : Nat} {xs : List Value} (ho : Own hX b xs 37) (hl : xs.length = 4) (hb : h.size ≤ b) {R : Value → Heap → Prop}
    (hR : ∀ v h', RAns h r v h' → R v h') :
    ∃ x38 : Int, ∃ x39 : ByteArray, ∃ x40 : Int, ∃ x41 : Int, ∃ x42 : Int, ∃ x43 : Int, v = .tuple ⟨[.agg ⟨[.int .i64 x38, .string x39, .int .i64 x40, .int .i64 x41]⟩, .int .i64 x42, .int .i64 x43]⟩ ∧
    (okAt hX ⟨b, 0, none⟩ 4 ∧ ∀ h45 : Heap, h45 = hputs hX ⟨b, 0, none⟩ 0 [.int .i64 x38, .string x39, .int .i64 x40, .int .i64 x41] →
    (∃ x46 : Int, ∃ x47 : ByteArray, ∃ x48 : Int, ∃ x49 : Int, atC h45 ⟨b, 0, none⟩ [.int .i64 x46, .string x47, .int .i64 x48, .int .i64 x49] ∧
    R (.tuple ⟨[.agg ⟨[.int .i64 x46, .string x47, .int .i64 x48, .int .i64 x49]⟩, .int .i64 x42, .int .i64 x43]⟩) h45)) := by
  obtain ⟨hE, hv⟩ := ha
  cases r with
  | error e =>
    obtain ⟨x, t, y, z, n, rfl⟩ := hv
    exact ⟨x, t, y, z, n, e, rfl, fin4 ho hl fun h' hb' ho' => hR _ _ ⟨hE.but_new hb' hb, x, t, y, z, n, rfl⟩⟩
  | ok p =>
    obtain ⟨t, n⟩ := p
    simp only [] at hv
    subst hv
    exact ⟨t.kind, bs t.text, t.val, 0, n, 0, rfl, fin4 ho hl fun h' hb' ho' => hR _ _ ⟨hE.but_new hb' hb, rfl⟩⟩
theorem strC_get (l : List (List UInt8)) (i : Nat) : (strC l)[i]? = (l[i]?).map fun x => .string (bs x) := by
  unfold strC; rw [List.getElem?_map]
theorem in_new (l : List (List UInt8)) (hl : l.length ≤ 1000000) (s : ByteArray) (h h1 : Heap) (e1 : h1 = h.push (.cells ⟨strC l⟩ 9)) (n : Nat) (hn : n = l.length) :
    Fn Try.prog 37 #[.slice (some ⟨h.size, 0, none⟩) n n, .string s] h1 fun v h' => v = .bool (decide (s.data.toList ∈ l)) ∧ h' = h1 :=
  in_c h.size l n n hn hl 9 s h1 fun i x hx => by
    subst e1
    have : Own (h.push (.cells ⟨strC l⟩ 9)) h.size (strC l) 9 := Own.push
    rw [this.hc, strC_get, hx]; rfl
def ones1 : List (List UInt8) := ones.map fun c => [c]
theorem mem_ones1 {b : UInt8} : [b] ∈ ones1 ↔ b ∈ ones := by
  unfold ones1
  rw [List.mem_map]
  constructor
  · rintro ⟨c, hc, e⟩
    rw [← List.singleton_inj.1 e]; exact hc
  · exact fun h => ⟨b, h, rfl⟩
theorem Ext.push' {h h1 h2 : Heap} (hE : Ext h h1) (o : Obj) (e : h2 = h1.push o) : Ext h h2 := by subst e; exact hE.trans (Ext.push _ _)

theorem ones_part (s : ByteArray) (b : UInt8) (L : List UInt8) (hLs : s.data.toList = b :: L) (hno : ¬ (b :: L).take 2 ∈ twos) (h hX : Heap) (hE : Ext h hX) (hl : Own hX h.size [.int .i64 0, .string ⟨#[]⟩, .int .i64 0, .int .i64 0] 37) (R : Value → Heap → Prop) (hs : s.size ≤ 100000)
    (hR : ∀ v h', RAns h (markS (b :: L)) v h' → R v h') :
   (∀ h92 : Heap, h92 = hX.push (.cells ⟨[.string ⟨#[40]⟩, .string ⟨#[41]⟩, .string ⟨#[123]⟩, .string ⟨#[125]⟩, .string ⟨#[44]⟩, .string ⟨#[59]⟩, .string ⟨#[58]⟩, .string ⟨#[46]⟩, .string ⟨#[43]⟩, .string ⟨#[45]⟩, .string ⟨#[42]⟩, .string ⟨#[47]⟩, .string ⟨#[37]⟩, .string ⟨#[60]⟩, .string ⟨#[62]⟩, .string ⟨#[61]⟩, .string ⟨#[33]⟩]⟩ 9) → 
      (((0 : Int) ≤ (0 : Int) ∧ (0 : Int) ≤ (1 : Int) ∧ (1 : Int) ≤ (ByteArray.size s : Nat)) ∧ 
      (Fn Try.prog 37 #[.slice (some ⟨hX.size, 0, none⟩) 17 17, .string (ByteArray.extract s (Int.toNat 0) (Int.toNat 1))] h92 
      (fun v93 h95 => ∃ x94 : Bool, v93 = .bool x94 ∧ 
      (sB x94 
       ((((0 : Int) ≤ (0 : Int) ∧ (0 : Int) ≤ (1 : Int) ∧ (1 : Int) ≤ (ByteArray.size s : Nat)) ∧ 
       (okAt h95 ⟨h.size, 0, none⟩ 4 ∧ ∀ h96 : Heap, h96 = hputs h95 ⟨h.size, 0, none⟩ 0 [.int .i64 4, .string (ByteArray.extract s (Int.toNat 0) (Int.toNat 1)), .int .i64 0, .int .i64 0] → 
       (∃ x97 : Int, ∃ x98 : ByteArray, ∃ x99 : Int, ∃ x100 : Int, atC h96 ⟨h.size, 0, none⟩ [.int .i64 x97, .string x98, .int .i64 x99, .int .i64 x100] ∧ 
       R (.tuple ⟨[.agg ⟨[.int .i64 x97, .string x98, .int .i64 x99, .int .i64 x100]⟩, .int .i64 1, .int .i64 0]⟩) h96)))) 
       ((okAt h95 ⟨h.size, 0, none⟩ 4 ∧ ∀ h101 : Heap, h101 = hputs h95 ⟨h.size, 0, none⟩ 0 [.int .i64 0, .string ⟨#[]⟩, .int .i64 0, .int .i64 0] → 
       (∃ x102 : Int, ∃ x103 : ByteArray, ∃ x104 : Int, ∃ x105 : Int, atC h101 ⟨h.size, 0, none⟩ [.int .i64 x102, .string x103, .int .i64 x104, .int .i64 x105] ∧ 
       R (.tuple ⟨[.agg ⟨[.int .i64 x102, .string x103, .int .i64 x104, .int .i64 x105]⟩, .int .i64 0, .int .i64 3]⟩) h101)))))))) := by
  intro h92 e92
  have hE92 := hE.push' _ e92
  have hl92 : Own h92 h.size [.int .i64 0, .string ⟨#[]⟩, .int .i64 0, .int .i64 0] 37 := by subst e92; exact hl.ext (Ext.push _ _)
  have h1 : 1 ≤ s.size := by rw [size_len, hLs, List.length_cons]; omega
  have hb : s.data.toList[0]? = some b := by rw [hLs]; rfl
  have hx : s.extract (Int.toNat 0) (Int.toNat 1) = bs [b] := ext_one hb
  refine ⟨⟨by omega, by omega, by omega⟩, ?_⟩
  rw [hx]
  refine (in_new ones1 (by decide) (bs [b]) hX h92 e92 17 rfl).mono ?_
  rintro v h95 ⟨rfl, rfl⟩
  rw [bs_list]
  refine ⟨_, rfl, sB_intro (fun hm => ?_) (fun hm => ?_)⟩
  · have hm' : b ∈ ones := mem_ones1.1 (of_decide_eq_true hm)
    refine ⟨⟨by omega, by omega, by omega⟩, fin4 hl92 rfl fun h' hb' ho' => hR _ _ ⟨hE92.but_new hb' (Nat.le_refl _), ?_⟩⟩
    simp only [markS, if_neg hno, if_pos hm']
    rfl
  · have hm' : ¬ b ∈ ones := fun hh => of_decide_eq_false hm (mem_ones1.2 hh)
    refine fin4 hl92 rfl fun h' hb' ho' => hR _ _ ⟨hE92.but_new hb' (Nat.le_refl _), ?_⟩
    simp only [markS, if_neg hno, if_neg hm']
    exact ⟨_, _, _, _, _, rfl⟩

theorem reftoken_c (s : ByteArray) (hs : s.size ≤ 100000) (h0 : 0 < s.size) (h : Heap) : Fn Try.prog 31 #[.string s] h (RAns h (tokenS s.data.toList)) := by
  apply vc31; unfold W31
  have hsz := size_len s
  intro h1 e1
  have hE : Ext h h1 := by subst e1; exact Ext.push _ _
  have hl1 : Own h1 h.size [.int .i64 0, .string ⟨#[]⟩, .int .i64 0, .int .i64 0] 37 := by subst e1; exact Own.push
  obtain ⟨b, hb, hby⟩ := byte_get (s := s) (i := 0) h0
  have hx2 := ext_bs s 0 2
  have hx0 : ∀ i : Nat, s.extract 0 i = bs (s.data.toList.take i) := fun i => by rw [ext_bs, List.drop_zero, Nat.sub_zero]
  have honesP := ones_part s b (s.data.toList.drop 1)
  have hnum := refnumber_c s hs
  have htxt := reftext_c s hs h0
  generalize hL : s.data.toList = L at *
  have hcons : L = b :: L.drop 1 := by have := drop_cons hb; rwa [List.drop_zero] at this
  have hin0 : (0 : Int) ≤ (0 : Int) ∧ (0 : Int) < (ByteArray.size s : Nat) := ⟨by omega, by omega⟩
  have htok : tokenS L = if lt b then nameS L else if dg b then numS L else if b = 34 then textS L else markS L := by
    conv => lhs; rw [hcons]
    rw [tokenS, ← hcons]
  refine ⟨hin0, ?_⟩
  rw [show Int.toNat 0 = 0 from rfl, hby]
  refine (refletter_c _ _).mono ?_
  rintro v h4 ⟨rfl, rfl⟩
  refine ⟨_, rfl, sB_intro (fun hlet => ?_) (fun hlet => ⟨hin0, ?_⟩)⟩
  · have hlet' : lt b = true := hlet
    rw [htok, if_pos hlet']
    have fin : ∀ i : Nat, L.takeWhile inn = L.take i → i ≤ s.size → nameS L = if 16 < i then .error 6 else .ok (⟨1, L.take i, 0⟩, i) := by
      intro i hi hle
      have hlen : (L.take i).length = i := by rw [List.length_take]; omega
      unfold nameS; rw [hi, hlen]
    refine ⟨fun n h' m => ∃ i : Nat, n = i ∧ m = s.size - i ∧ 1 ≤ i ∧ i ≤ s.size ∧ h' = h4 ∧ ∀ (b : UInt8) (j : Nat), j < i → L[j]? = some b → inn b = true,
      ⟨_, 1, rfl, rfl, by omega, by omega, rfl, fun b' j hj hb' => by
        have : j = 0 := by omega
        subst this
        rw [hb] at hb'; cases hb'
        unfold inn isInner; rw [show isLetter (b.toNat : Int) = true from hlet]; rfl⟩, ?_⟩
    rintro - n h9 m ⟨i, rfl, rfl, hi1, hi, rfl, hd⟩
    have hsplit := takeWhile_split inn L i hd
    refine sB_intro (fun hlt => ?_) (fun hge => ?_)
    · have hlt' : i < s.size := by have := of_decide_eq_true hlt; omega
      obtain ⟨y, hy, hby2⟩ := byte_get hlt'
      rw [hL] at hy
      refine ⟨⟨by omega, by omega⟩, ?_⟩
      rw [show Int.toNat (i : Int) = i from rfl, hby2]
      refine (refinner_c _ _).mono ?_
      rintro v h12 ⟨rfl, rfl⟩
      refine ⟨_, rfl, sB_intro (fun hp => ?_) (fun hp => ?_)⟩
      · refine ⟨_, ?_, i + 1, ?_, rfl, by omega, by omega, rfl, fun b' j hj hb' => ?_⟩
        · omega
        · rw [w64 (by omega) (by omega)]; omega
        · by_cases hji : j < i
          · exact hd b' j hji hb'
          · have : j = i := by omega
            subst this
            rw [hy] at hb'; cases hb'; exact hp
      · have hend := fin i (by rw [hsplit, drop_cons hy, List.takeWhile_cons, show inn y = false from hp]; simp) hi
        refine sB_intro (fun hgt => ?_) (fun hgt => ?_)
        · refine fin4 hl1 rfl fun h' hb' ho' => ⟨hE.but_new hb' (Nat.le_refl _), ?_⟩
          rw [hend, if_pos (by have := of_decide_eq_true hgt; omega)]
          exact ⟨_, _, _, _, _, rfl⟩
        · refine ⟨⟨by omega, by omega, by omega⟩, ?_⟩
          rw [hx0]
          refine fin4 hl1 rfl fun h' hb' ho' => ⟨hE.but_new hb' (Nat.le_refl _), ?_⟩
          rw [hend, if_neg (by have := of_decide_eq_false hgt; omega)]
          rfl
    · have hge' : L.length ≤ i := by have := of_decide_eq_false hge; omega
      have hend := fin i (by rw [hsplit, drop_end hge']; simp) hi
      refine sB_intro (fun hgt => ?_) (fun hgt => ?_)
      · refine fin4 hl1 rfl fun h' hb' ho' => ⟨hE.but_new hb' (Nat.le_refl _), ?_⟩
        rw [hend, if_pos (by have := of_decide_eq_true hgt; omega)]
        exact ⟨_, _, _, _, _, rfl⟩
      · refine ⟨⟨by omega, by omega, by omega⟩, ?_⟩
        rw [show Int.toNat (i : Int) = i from rfl, hx0]
        refine fin4 hl1 rfl fun h' hb' ho' => ⟨hE.but_new hb' (Nat.le_refl _), ?_⟩
        rw [hend, if_neg (by have := of_decide_eq_false hgt; omega)]
        rfl
  · have nlet : ¬ lt b = true := by rw [show lt b = false from hlet]; simp
    rw [htok, if_neg nlet]
    refine (refdigit_c _ _).mono ?_
    rintro v h36 ⟨rfl, rfl⟩
    refine ⟨_, rfl, sB_intro (fun hdig => ?_) (fun hdig => ⟨hin0, ?_⟩)⟩
    · rw [if_pos (show dg b = true from hdig)]
      refine (hnum h36).mono ?_
      intro v h44 ha
      exact RAns.wrap (h := h) (r := numS L) ⟨hE.trans ha.1, ha.2⟩ (hl1.ext ha.1) rfl (Nat.le_refl _) fun v h' hh => hh
    · rw [if_neg (show ¬ dg b = true by rw [show dg b = false from hdig]; simp)]
      refine sB_intro (fun hq => ?_) (fun hq => ?_)
      · rw [if_pos (u8_eq (c := 34) hq)]
        refine (htxt h36).mono ?_
        rintro v h53 ⟨rfl, rfl⟩
        unfold textS
        cases he : elemsS (L.drop 1) [] 1 with
        | none =>
          refine ⟨_, _, rfl, sB_t rfl ?_⟩
          exact fin4 hl1 rfl fun h' hb' ho' => ⟨hE.but_new hb' (Nat.le_refl _), _, _, _, _, _, rfl⟩
        | some p =>
          obtain ⟨t, n⟩ := p
          have hel := elems_len _ _ _ _ _ he
          have hn0 : ((n : Int) == 0) = false := beq_eq_false_iff_ne.2 (by omega)
          refine ⟨_, _, rfl, sB_f hn0 (sB_intro (fun hgt => ?_) (fun hgt => ?_))⟩
          · rw [bs_size] at hgt
            refine fin4 hl1 rfl fun h' hb' ho' => ⟨hE.but_new hb' (Nat.le_refl _), ?_⟩
            have : 40 < t.length := by have := of_decide_eq_true hgt; omega
            simp only [textR, if_pos this]
            exact ⟨_, _, _, _, _, rfl⟩
          · rw [bs_size] at hgt
            refine fin4 hl1 rfl fun h' hb' ho' => ⟨hE.but_new hb' (Nat.le_refl _), ?_⟩
            have : ¬ 40 < t.length := by have := of_decide_eq_false hgt; omega
            simp only [textR, if_neg this]
            rfl
      · rw [if_neg (u8_ne (c := 34) hq)]
        refine sB_intro (fun hl2 => ?_) (fun hl2 => ?_)
        · have hl2' : 1 < s.size := by have := of_decide_eq_true hl2; omega
          intro h69 e69
          have hE69 := hE.push' _ e69
          have hl69 : Own h69 h.size [.int .i64 0, .string ⟨#[]⟩, .int .i64 0, .int .i64 0] 37 := by subst e69; exact hl1.ext (Ext.push _ _)
          have hin2 : (0 : Int) ≤ (0 : Int) ∧ (0 : Int) ≤ (2 : Int) ∧ (2 : Int) ≤ (ByteArray.size s : Nat) := ⟨by omega, by omega, by omega⟩
          refine ⟨hin2, ?_⟩
          rw [show Int.toNat 2 = 2 from rfl, hx0]
          refine (in_new twos (by decide) (bs (L.take 2)) h36 h69 e69 8 rfl).mono ?_
          rintro v h72 ⟨rfl, rfl⟩
          rw [bs_list]
          refine ⟨_, rfl, sB_intro (fun hm => ?_) (fun hm => ?_)⟩
          · have hm' : L.take 2 ∈ twos := of_decide_eq_true hm
            refine ⟨hin2, fin4 hl69 rfl fun h' hb' ho' => ⟨hE69.but_new hb' (Nat.le_refl _), ?_⟩⟩
            simp only [markS, if_pos hm']
            rfl
          · have hm' : ¬ L.take 2 ∈ twos := of_decide_eq_false hm
            exact honesP hcons (by rw [← hcons]; exact hm') h h72 hE69 hl69 _ hs (fun v h' hh => by rw [← hcons] at hh; exact hh)
        · have hl1' : L.length = 1 := by have := of_decide_eq_false hl2; omega
          have hm' : ¬ L.take 2 ∈ twos := by
            intro hm
            obtain ⟨i, hi, e⟩ := mem_two hm
            have := congrArg List.length e
            rw [two_len i hi, List.length_take] at this
            omega
          exact honesP hcons (by rw [← hcons]; exact hm') h h36 hE hl1 _ hs (fun v h' hh => by rw [← hcons] at hh; exact hh)
end Go.VC
