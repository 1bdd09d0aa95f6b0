/- Contracts: the reference's line. -/
import Derived.Test.YtcaahhppapnbhaaDoorChF
set_option linter.unusedVariables false
set_option linter.unusedSimpArgs false

namespace Go.VC
open Go.Proofs Go.LexS Go.ChS
set_option maxRecDepth 100000

theorem sBi {p : Prop} [Decidable p] {a b : Prop} (h1 : p → a) (h2 : ¬p → b) : sB (decide p) a b := sB_intro (fun h => h1 (of_decide_eq_true h)) (fun h => h2 (of_decide_eq_false h))
theorem sBe {x y : Int} {a b : Prop} (h1 : x = y → a) (h2 : x ≠ y → b) : sB (x == y) a b := sB_intro (fun h => h1 (by simpa using h)) (fun h => h2 (by simpa using h))
theorem tmod_nat (a b : Nat) : Int.tmod (a : Int) (b : Int) = ((a % b : Nat) : Int) := rfl
theorem line23 (g : Gv) (rs : List Nm) (dl : List Dl) (f t l w : Nat) (d : Dl) (h : Heap) (hg : GR h g rs dl) (hd : dl[l]? = some d) (hf : f < rs.length) (ht : t < rs.length) (hne : f ≠ t) (h6 : rs.length ≤ 6)
    (hlen : d.nm.length + 4 ≤ w) (hw : w ≤ 1000) :
    Fn Tryd.prog 23 #[g.v, .agg ⟨ixC ⟨f, t, l⟩⟩, .int .i64 w] h fun v h' => v = .string (bs (lineN rs.length w f t d.nm)) ∧ Ext h h' := by
  apply vc23 g.nm g.rs g.ds g.n0 g.n1 g.n2 g.es g.ts f t l w; unfold W23
  refine newb (xs := g.cs) fun h12 E12 o12 => newb (xs := [.int .i64 f, .int .i64 t, .int .i64 l]) fun h13 ox13 ox => ?_
  have hrn := hg.nr
  have hdn := hg.nd
  have og := o12.ext ox13
  have EE := E12.trans ox13
  have hl : l < dl.length := (List.getElem?_eq_some_iff.1 hd).1
  refine ⟨_, ox.hc 0, _, ox.hc 1, _, ox.hc 0, _, ox.hc 1, _, og.hc 2, _, ox.hc 2, ?_⟩
  refine (hg.ext EE).d.nb (dl_get hd) fun b5 o5 _ hat => ⟨⟨by omega, by omega⟩, _, hat.hd, ?_⟩
  clear hat
  have hlt : min f t < max f t := by omega
  have m1 := mul_lt (w := w) hlt
  have m2 := Nat.mul_le_mul_right w (show max f t ≤ rs.length - 1 by omega)
  obtain ⟨blo, elo⟩ := wmul (a := min f t) (w := w) (by omega) hw
  obtain ⟨bhi, ehi⟩ := wmul (a := max f t) (w := w) (by omega) hw
  obtain ⟨b1, e1⟩ := wmul (a := rs.length - 1) (w := w) (by omega) hw
  rw [imin_nat, imax_nat, elo, ehi]
  have hget : ∀ i, i < (rs.length - 1) * w + 1 → (lineN rs.length w f t d.nm)[i]? = some (if min f t * w < i ∧ i < max f t * w then
      (if decide (f < t) = true ∧ i + 1 = max f t * w then 62 else if decide (f < t) = false ∧ i = min f t * w + 1 then 60 else if min f t * w + 2 ≤ i ∧ i < min f t * w + 2 + d.nm.length then d.nm.getD (i - min f t * w - 2) 0 else 45)
      else if i % w = 0 then 124 else 32) := fun i hi => lineN_get hi
  have hlen2 : (lineN rs.length w f t d.nm).length = (rs.length - 1) * w + 1 := lineN_len ..
  generalize lineN rs.length w f t d.nm = L at *
  have eN : IntKind.wrap .i64 (IntKind.wrap .i64 ((g.rs.n : Int) - 1) * (w : Int)) = (((rs.length - 1) * w : Nat) : Int) := by
    rw [hrn, w64 (n := (rs.length : Int) - 1) (by omega) (by omega), show (rs.length : Int) - 1 = ((rs.length - 1 : Nat) : Int) by omega, e1]
  generalize (rs.length - 1) * w = M at *
  generalize min f t * w = A at *
  generalize max f t * w = B at *
  clear elo ehi e1
  rw [w64 (n := (A : Int) + 1) (by omega) (by omega), w64 (n := (A : Int) + 2) (by omega) (by omega), w64 (n := (B : Int) - 1) (by omega) (by omega), bs_size,
    w64 (n := (A : Int) + 2 + (d.nm.length : Int)) (by omega) (by omega)]
  have hw0 : (w : Int) ≠ 0 := by omega
  refine ⟨fun out x h' m => Up (M + 1) (fun i h' => h' = h13 ∧ out = bs (L.take i)) x h' m, Up.zero ⟨rfl, rfl⟩, ?_⟩
  rintro - out x h28 m ⟨i, rfl, rfl, hi, rfl, rfl⟩
  refine ⟨_, og.hc 1, ?_⟩
  rw [eN]
  refine sB_intro (fun hlt2 => ?_) (fun hge => ?_)
  · have hlt' : i < M + 1 := by have := of_decide_eq_true hlt2; omega
    have hg' := hget i hlt'
    have hsz : (bs (L.take i)).size ≤ 7000 := by rw [bs_size, List.length_take]; omega
    have leaf : ∀ c : UInt8, L[i]? = some c → (((ByteArray.size (bs (L.take i))) + (ByteArray.size (bs [c])) : Nat) ≤ 9223372036854775807 ∧ (∃ m32, m32 < M + 1 - i ∧ Up (M + 1) (fun j h' => h' = h28 ∧ bs (L.take i) ++ bs [c] = bs (L.take j)) (IntKind.wrap .i64 (i + 1)) h28 m32)) := fun c hc =>
      ⟨by rw [bs_size [c]]; simp only [List.length_singleton]; omega, Up.next hlt' (by omega) ⟨rfl, by rw [bs_app, take_snoc hc]⟩⟩
    have leaf2 : A + 2 ≤ i → i < A + 2 + d.nm.length → L[i]? = some (d.nm.getD (i - A - 2) 0) →
        ((((0 : Int) ≤ ((IntKind.wrap .i64 ((IntKind.wrap .i64 ((i : Int) - (A : Int))) - 2)) : Int) ∧ ((IntKind.wrap .i64 ((IntKind.wrap .i64 ((i : Int) - (A : Int))) - 2)) : Int) ≤ ((IntKind.wrap .i64 ((IntKind.wrap .i64 ((i : Int) - (A : Int))) - 1)) : Int) ∧ ((IntKind.wrap .i64 ((IntKind.wrap .i64 ((i : Int) - (A : Int))) - 1)) : Int) ≤ (d.nm.length : Nat)) ∧
        (((ByteArray.size (bs (L.take i))) + (ByteArray.size (ByteArray.extract (bs d.nm) (Int.toNat (IntKind.wrap .i64 ((IntKind.wrap .i64 ((i : Int) - (A : Int))) - 2))) (Int.toNat (IntKind.wrap .i64 ((IntKind.wrap .i64 ((i : Int) - (A : Int))) - 1))))) : Nat) ≤ 9223372036854775807 ∧
        (∃ m36, m36 < M + 1 - i ∧ Up (M + 1) (fun j h' => h' = h28 ∧ bs (L.take i) ++ (ByteArray.extract (bs d.nm) (Int.toNat (IntKind.wrap .i64 ((IntKind.wrap .i64 ((i : Int) - (A : Int))) - 2))) (Int.toNat (IntKind.wrap .i64 ((IntKind.wrap .i64 ((i : Int) - (A : Int))) - 1)))) = bs (L.take j)) (IntKind.wrap .i64 (i + 1)) h28 m36)))) := fun h1 h2 hc => by
      rw [w64 (n := (i : Int) - (A : Int)) (by omega) (by omega), w64 (n := (i : Int) - (A : Int) - 2) (by omega) (by omega), w64 (n := (i : Int) - (A : Int) - 1) (by omega) (by omega)]
      have h3 : i - A - 2 < d.nm.length := by omega
      have hx : (bs d.nm).data.toList[i - A - 2]? = some (d.nm.getD (i - A - 2) 0) := by rw [bs_list, List.getD_eq_getElem?_getD, List.getElem?_eq_getElem h3]; rfl
      have e : ByteArray.extract (bs d.nm) (Int.toNat ((i : Int) - (A : Int) - 2)) (Int.toNat ((i : Int) - (A : Int) - 1)) = bs [d.nm.getD (i - A - 2) 0] := by
        rw [show Int.toNat ((i : Int) - (A : Int) - 2) = i - A - 2 by omega, show Int.toNat ((i : Int) - (A : Int) - 1) = i - A - 2 + 1 by omega]
        exact ext_one hx
      rw [e]
      exact ⟨⟨by omega, by omega, by omega⟩, leaf _ hc⟩
    rw [tmod_nat]
    simp only [decide_eq_true_eq, decide_eq_false_iff_not] at hg'
    have ht1 := ox.hc 1
    have ht0 := ox.hc 0
    clear hget eN og o12 E12 ox13 EE ox hg hrn hdn hl hd hlt2 hi
    repeat' first
      | refine sBi (fun _ => ?_) (fun _ => ?_)
      | refine sBe (fun _ => ?_) (fun _ => ?_)
      | refine Exists.intro (t : Int) (And.intro ht1 (Exists.intro (f : Int) (And.intro ht0 ?_)))
      | refine And.intro (a := (w : Int) ≠ 0) hw0 ?_
    all_goals
      clear ht1 ht0
      first
        | omega
        | (refine leaf _ ?_; clear leaf leaf2; rw [hg']; clear hg'; congr 1; (repeat' split) <;> first | rfl | omega)
        | (refine leaf2 ?_ ?_ ?_ <;> first | omega | (clear leaf leaf2; rw [hg']; congr 1; (repeat' split) <;> first | rfl | omega))
  · have hge' : i = M + 1 := by have := of_decide_eq_false hge; omega
    rw [List.take_of_length_le (by omega)]
    exact ⟨rfl, EE⟩
end Go.VC
