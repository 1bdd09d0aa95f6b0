/- RjArgs QjArgG. -/
import Derived.Test.YtkebghjhekoecaaGreatDoorM05
import Derived.Test.YtkebghjhekoecaaGreatDoorM19
import Derived.Test.YtkebghjhekoecaaGreatDoorM23
import Derived.Test.YtkebghjhekoecaaGreatDoorRows
import Derived.Test.YtkebghjhekoecaaGreatDoorM01
import Derived.Test.YtkebghjhekoecaaGreatDoorM25
set_option linter.unusedVariables false
set_option linter.unusedSimpArgs false
set_option maxRecDepth 100000

section
/- What a machine and a history look like in memory where all that is read is of bulk at most 1048576. -/
namespace Go.VC
open Go.Proofs Go.LexS Go.RowKit Go.ChangeShapes Go.WideShapes Go.Proofs.YtkebghjhekoecaaGreatDoor
theorem bulk_pos {H : Type} (d : DataW H) : 1 <= Rows.uptoBulk d := by
 cases d with
 | lit l => cases l <;> simp [Rows.uptoBulk]
 | _ => simp [Rows.uptoBulk]
theorem bulk_part {H : Type} : ∀ {l : List (DataW H)} {d : DataW H}, d ∈ l -> Rows.uptoBulk d <= Rows.uptoBulkAll l
 | [], _, h => by cases h
 | x :: r, d, h => by
  rw [Rows.uptoBulkAll]
  rcases Yr.1 h with rfl | h
  ·
   omega
  ·
   have := bulk_part h; omega
theorem bulk_len {H : Type} : ∀ l : List (DataW H), l.length <= Rows.uptoBulkAll l
 | [] => by simp
 | x :: r => by
  have h1 := bulk_pos x
  have h2 := bulk_len r
  rw [Rows.uptoBulkAll, Yyj]; omega
def Rdb (P : Program) (W : World) (t : TypeId) (cs : List Value) : Prop :=
 ∃ (H : Type) (enc : TypeId × Value -> H) (n : Nat) (x : DataW H × List MemPlace), DataW.trod enc P W 0 (fun _ => true) true n t cs = some x /\ Rows.uptoBulk x.1 <= 1048576
theorem Rdb.rdt {P : Program} {W : World} {t : TypeId} {cs : List Value} (h : Rdb P W t cs) : Rdt P W t cs := by
 obtain ⟨H, enc, n, x, h1, _⟩ := h; exact ⟨H, enc, n, x, h1⟩
theorem rdb_of_trod {H : Type} {enc : TypeId × Value -> H} {P : Program} {W : World} {t : TypeId} {v : Value} {d : DataW H} {p : List MemPlace} (h : DataW.Trod enc P W 0 (fun _ => true) true t v d p) (hw : Rows.uptoBulk d <= 1048576) : Rdb P W t v.cells.toList := by
 obtain ⟨n, h⟩ := h
 exact ⟨H, enc, n, _, h, hw⟩
theorem Rdb.field {P : Program} {W : World} {t ft : TypeId} {cs : List Value} {i off : Nat} (h : Rdb P W t cs) (hf : fieldAt P t i = some (ft, off)) : Rdb P W ft ((cs.drop off).take (P.cellsOf ft)) := by
 unfold fieldAt at hf
 split at hf
 ·
  rename_i fs hu
  obtain ⟨f, h1, h2⟩ := Yya.1 hf
  cases h2
  obtain ⟨H, enc, n, x, h, hw⟩ := h
  obtain ⟨xs, m, _, hx, hl, hxl, hfi⟩ := DataW.trod_struct hu h
  have hlt : i < xs.length := by rw [hxl]; exact (Yyg.1 h1).1
  refine ⟨H, enc, m, xs[i], by rw [hfi i f h1, Yi hlt], ?_⟩
  rw [hx, Rows.uptoBulk] at hw
  have := bulk_part (l := xs.map (·.1)) (d := xs[i].1) (Yp.2 ⟨xs[i], List.getElem_mem hlt, rfl⟩)
  omega
 ·
  cases hf
theorem Rdb.rows {P : Program} {W : World} {t e : TypeId} {cs : List Value} (ht : P.underlying t = some (.slice e)) (h : Rdb P W t cs) (hpos : 0 < P.cellsOf e) :
  ∃ (s : Sl) (rows : List (List Value)), cs = [.slice s.a s.n s.c] /\ s.n <= s.c /\ s.n <= 1048576 /\ (s.a = none -> s.n = 0 /\ s.c = 0) /\ Rw W.heap (P.cellsOf e) s rows /\ ∀ r ∈ rows, r.length = P.cellsOf e /\ Rdb P W e r := by
 obtain ⟨H, enc, n, x, h, hw⟩ := h
 rcases DataW.trod_slice ht h with ⟨rfl, _⟩ | ⟨a, len, cap, elems, rest, m, _, rfl, hx, _, hlc, hcm, hel, helem, _, _⟩
 ·
  exact ⟨⟨none, 0, 0⟩, [], rfl, Nat.le_refl _, Nat.zero_le _, fun _ => ⟨rfl, rfl⟩, Rw.nil, fun r hr => by cases hr⟩
 ·
  rw [hx, Rows.uptoBulk] at hw
  have hle : len <= 1048576 := by
   have := bulk_len (elems.map (·.1))
   rw [Yc] at this; omega
  have hwe : ∀ (i : Nat) (hi : i < elems.length), Rows.uptoBulk elems[i].1 <= 1048576 := fun i hi => by
   have := bulk_part (l := elems.map (·.1)) (d := elems[i].1) (Yp.2 ⟨elems[i], List.getElem_mem hi, rfl⟩)
   omega
  by_cases h0 : len = 0
  ·
   subst h0
   exact ⟨⟨some a, 0, cap⟩, [], rfl, hlc, hle, fun e => (by cases e), Rw.empty rfl, fun r hr => by cases hr⟩
  ·
   have hrow : ∀ i, i < len -> ∃ r, W.cells? 0 (a.add (i * P.cellsOf e)) (P.cellsOf e) = some r /\ Rdb P W e r := by
    intro i hi
    have h1 := helem i hi
    rw [Yi (by omega)] at h1
    obtain ⟨r, hr, hx2⟩ := Option.bind_eq_some_iff.1 h1
    exact ⟨r, hr, H, enc, m, _, hx2, hwe i (by omega)⟩
   let row : Nat -> List Value := fun i => (W.cells? 0 (a.add (i * P.cellsOf e)) (P.cellsOf e)).getD []
   have hrow' : ∀ i, i < len -> W.cells? 0 (a.add (i * P.cellsOf e)) (P.cellsOf e) = some (row i) /\ Rdb P W e (row i) := fun i hi => by
    obtain ⟨r, hr, hx⟩ := hrow i hi
    have : row i = r := by show (W.cells? 0 _ _).getD [] = r; rw [hr]; rfl
    rw [this]; exact ⟨hr, hx⟩
   have hget : ∀ i, i < len -> ((List.range len).map row)[i]? = some (row i) := fun i hi => by
    rw [Yd, Yyb hi]; rfl
   have hspot : a = ⟨a.block, a.off, none⟩ := by
    have hc := (cells_at (hrow' 0 (by omega)).1)
    have hl0 : 0 < (row 0).length := by rw [hc.1]; exact hpos
    have := hc.2 0 _ (Yi hl0)
    rw [Nat.zero_mul, show (a.add 0).add 0 = a from rfl] at this
    unfold World.cell? at this
    split at this
    ·
     split at this
     ·
      cases this
     ·
      rename_i hs
      cases a with
      | mk b o s =>
       cases s with
       | none => rfl
       | some s => exact absurd rfl hs
    ·
     cases this
   refine ⟨⟨some a, len, cap⟩, (List.range len).map row, rfl, hlc, hle, fun e => (by cases e), ⟨by simp, fun _ => ⟨a.block, a.off, by rw [<- hspot], fun i r hi j v hj => ?_⟩⟩, fun r hr => ?_⟩
   ·
    have hil : i < len := by have := (Ya.1 hi).1; simpa using this
    rw [hget i hil] at hi; cases hi
    have h4 := (cells_at (hrow' i hil).1).2 _ _ hj
    rw [hspot] at h4
    have e : ((⟨a.block, a.off, none⟩ : Addr).add (i * P.cellsOf e)).add j = addk ⟨a.block, a.off + i * P.cellsOf e, none⟩ j := by
     rw [addk_at, add_n, add_n]
    rw [e] at h4
    exact h4
   ·
    obtain ⟨i, hi, rfl⟩ := Yp.1 hr
    have := hrow' i (List.mem_range.1 hi)
    exact ⟨(cells_at this.1).1, this.2⟩
theorem Rdb.list {α : Type} {P : Program} {W : World} {t e : TypeId} {k : Nat} {v : Value} {cs : α -> List Value} {Q : α -> Prop} (ht : P.underlying t = some (.slice e)) (hk : P.cellsOf e = k) (hpos : 0 < k)
  (ho : ∀ r, Rdb P W e r -> ∃ x, r = cs x /\ Q x) (h : Rdb P W t [v]) : ∃ (s : Sl) (L : List α), v = .slice s.a s.n s.c /\ RL W.heap k s cs L /\ ∀ x ∈ L, Q x := by
 subst hk
 obtain ⟨s, rows, e1, hc, hm, hna, hrw, hr⟩ := h.rows ht hpos
 have key : ∀ rows : List (List Value), (∀ r ∈ rows, r.length = P.cellsOf e /\ Rdb P W e r) -> ∃ L : List α, rows = L.map cs /\ ∀ x ∈ L, Q x := by
  intro rows
  induction rows with
  | nil => intro _; exact ⟨[], rfl, fun x hx => by cases hx⟩
  | cons r rows ih =>
   intro h
   obtain ⟨x, hx, hq⟩ := ho r (h r (by simp)).2
   obtain ⟨L, hL, hQ⟩ := ih fun y hy => h y (Yn _ hy)
   exact ⟨x :: L, by rw [hx, hL]; rfl, fun y hy => by rcases Yr.1 hy with rfl | hy; exact hq; exact hQ y hy⟩
 obtain ⟨L, rfl, hQ⟩ := key rows hr
 have hn := hrw.ln
 exact ⟨s, L, by simpa using e1, ⟨hrw, hc, hna, by omega⟩, hQ⟩
theorem v3 : Pz.underlying 3 = some (.int .i64) := by kernel_rfl
theorem v4b : Pz.underlying 4 = some .bool := by kernel_rfl
theorem cz3 : Pz.cellsOf 3 = 1 := by kernel_rfl
theorem cz4 : Pz.cellsOf 4 = 1 := by kernel_rfl
theorem cz37 : Pz.cellsOf 37 = 5 := by kernel_rfl
theorem cz35 : Pz.cellsOf 35 = 1 := by kernel_rfl
theorem cz22 : Pz.cellsOf 22 = 1 := by kernel_rfl
theorem cz23 : Pz.cellsOf 23 = 1 := by kernel_rfl
theorem cz24 : Pz.cellsOf 24 = 1 := by kernel_rfl
theorem cz26 : Pz.cellsOf 26 = 6 := by kernel_rfl
theorem cz44 : Pz.cellsOf 44 = 3 := by kernel_rfl
theorem cz81 : Pz.cellsOf 81 = 6 := by kernel_rfl
theorem vs22 : Pz.underlying 22 = some (.slice 4) := by kernel_rfl
theorem vs23 : Pz.underlying 23 = some (.slice 81) := by kernel_rfl
theorem vs24 : Pz.underlying 24 = some (.slice 44) := by kernel_rfl
theorem vs27 : Pz.underlying 27 = some (.slice 37) := by kernel_rfl
theorem vs35 : Pz.underlying 35 = some (.slice 343) := by kernel_rfl
theorem Rdb.sl {P : Program} {W : World} {t e : TypeId} {cs : List Value} (ht : P.underlying t = some (.slice e)) (h : Rdb P W t cs) : ∃ s : Sl, cs = [.slice s.a s.n s.c] := by
 obtain ⟨H, enc, n, x, h, _⟩ := h
 rcases DataW.trod_slice ht h with ⟨rfl, _⟩ | ⟨a, len, cap, elems, rest, m, _, rfl, _⟩
 ·
  exact ⟨⟨none, 0, 0⟩, rfl⟩
 ·
  exact ⟨⟨some a, len, cap⟩, rfl⟩
theorem open_three {W : World} {t : TypeId} {r : List Value} (hc : Pz.cellsOf t = 3) (h0 : fieldAt Pz t 0 = some (3, 0)) (h1 : fieldAt Pz t 1 = some (3, 1)) (h2 : fieldAt Pz t 2 = some (3, 2)) (h : Rdt Pz W t r) :
  ∃ a b c : Int, r = [.int .i64 a, .int .i64 b, .int .i64 c] := by
 have hl := h.flen h0
 rw [hc] at hl
 match r, hl with
 | [x0, x1, x2], _ =>
  have f0 := h.field h0
  have f1 := h.field h1
  have f2 := h.field h2
  rw [cz3] at f0 f1 f2
  obtain ⟨k0, e0, _⟩ := f0.int v3
  obtain ⟨k1, e1, _⟩ := f1.int v3
  obtain ⟨k2, e2, _⟩ := f2.int v3
  simp only [List.drop_zero, List.take_succ_cons, Yyk, List.drop_succ_cons, List.cons.injEq, and_true] at e0 e1 e2
  subst e0 e1 e2
  exact ⟨k0, k1, k2, rfl⟩
theorem open_event {W : World} {r : List Value} (h : Rdb Pz W 37 r) : ∃ x : Hv, r = x.cs /\ True := by
 have hl := h.rdt.flen (i := 0) (ft := 3) (off := 0) (by kernel_rfl)
 rw [cz37] at hl
 match r, hl with
 | [x0, x1, x2, x3, x4], _ =>
  have f0 := h.rdt.field (i := 0) (ft := 3) (off := 0) (by kernel_rfl)
  have f1 := h.rdt.field (i := 1) (ft := 4) (off := 1) (by kernel_rfl)
  have f2 := h.rdt.field (i := 2) (ft := 3) (off := 2) (by kernel_rfl)
  have f3 := h.rdt.field (i := 3) (ft := 3) (off := 3) (by kernel_rfl)
  have f4 := h.field (i := 4) (ft := 35) (off := 4) (by kernel_rfl)
  rw [cz3] at f0 f2 f3
  rw [cz4] at f1
  rw [cz35] at f4
  obtain ⟨k0, e0, _⟩ := f0.int v3
  obtain ⟨k1, e1⟩ := f1.bool v4b
  obtain ⟨k2, e2, _⟩ := f2.int v3
  obtain ⟨k3, e3, _⟩ := f3.int v3
  obtain ⟨s, e4⟩ := f4.sl vs35
  simp only [List.drop_zero, List.take_succ_cons, Yyk, List.drop_succ_cons, List.cons.injEq, and_true] at e0 e1 e2 e3 e4
  subst e0 e1 e2 e3 e4
  exact ⟨⟨k0, k1, k2, k3, s⟩, rfl, trivial⟩
theorem open_events {W : World} {v : Value} (h : Rdb Pz W 27 [v]) : ∃ (s : Sl) (L : List Hv), v = .slice s.a s.n s.c /\ RL W.heap 5 s Hv.cs L := by
 obtain ⟨s, L, e, hr, _⟩ := Rdb.list vs27 cz37 (by omega) (fun r hr => open_event hr) h
 exact ⟨s, L, e, hr⟩
theorem open_boolv {W : World} {r : List Value} (h : Rdb Pz W 4 r) : ∃ x : Bool, r = bC x /\ True := by
 obtain ⟨k, e⟩ := h.rdt.bool v4b
 exact ⟨k, e, trivial⟩
theorem open_limit {W : World} {r : List Value} (h : Rdb Pz W 44 r) : ∃ x : To, r = x.cs /\ True := by
 obtain ⟨a, b, c, e⟩ := open_three cz44 (by kernel_rfl) (by kernel_rfl) (by kernel_rfl) h.rdt
 exact ⟨⟨a, b, c⟩, e, trivial⟩
theorem open_move {W : World} {r : List Value} (h : Rdb Pz W 81 r) : ∃ x : Mv, r = x.cs /\ True := by
 have hl := h.rdt.flen (i := 0) (ft := 3) (off := 0) (by kernel_rfl)
 rw [cz81] at hl
 match r, hl with
 | [x0, x1, x2, x3, x4, x5], _ =>
  have f0 := h.rdt.field (i := 0) (ft := 3) (off := 0) (by kernel_rfl)
  have f1 := h.rdt.field (i := 1) (ft := 4) (off := 1) (by kernel_rfl)
  have f2 := h.rdt.field (i := 2) (ft := 3) (off := 2) (by kernel_rfl)
  have f3 := h.rdt.field (i := 3) (ft := 3) (off := 3) (by kernel_rfl)
  have f4 := h.rdt.field (i := 4) (ft := 3) (off := 4) (by kernel_rfl)
  have f5 := h.rdt.field (i := 5) (ft := 4) (off := 5) (by kernel_rfl)
  rw [cz3] at f0 f2 f3 f4
  rw [cz4] at f1 f5
  obtain ⟨k0, e0, _⟩ := f0.int v3
  obtain ⟨k1, e1⟩ := f1.bool v4b
  obtain ⟨k2, e2, _⟩ := f2.int v3
  obtain ⟨k3, e3, _⟩ := f3.int v3
  obtain ⟨k4, e4, _⟩ := f4.int v3
  obtain ⟨k5, e5⟩ := f5.bool v4b
  simp only [List.drop_zero, List.take_succ_cons, Yyk, List.drop_succ_cons, List.cons.injEq, and_true] at e0 e1 e2 e3 e4 e5
  subst e0 e1 e2 e3 e4 e5
  exact ⟨⟨k0, k1, k2, k3, k4, k5⟩, rfl, trivial⟩
theorem open_machine {W : World} {r : List Value} (h : Rdb Pz W 26 r) : ∃ (m : Mch) (sf sm sl : Sl), r = mC m sf sm sl /\ MI W.heap m sf sm sl := by
 have hl := h.rdt.flen (i := 0) (ft := 3) (off := 0) (by kernel_rfl)
 rw [cz26] at hl
 match r, hl with
 | [x0, x1, x2, x3, x4, x5], _ =>
  have f0 := h.rdt.field (i := 0) (ft := 3) (off := 0) (by kernel_rfl)
  have f1 := h.rdt.field (i := 1) (ft := 3) (off := 1) (by kernel_rfl)
  have f2 := h.rdt.field (i := 2) (ft := 3) (off := 2) (by kernel_rfl)
  have f3 := h.field (i := 3) (ft := 22) (off := 3) (by kernel_rfl)
  have f4 := h.field (i := 4) (ft := 23) (off := 4) (by kernel_rfl)
  have f5 := h.field (i := 5) (ft := 24) (off := 5) (by kernel_rfl)
  rw [cz3] at f0 f1 f2
  rw [cz22] at f3
  rw [cz23] at f4
  rw [cz24] at f5
  obtain ⟨k0, e0, _⟩ := f0.int v3
  obtain ⟨k1, e1, _⟩ := f1.int v3
  obtain ⟨k2, e2, _⟩ := f2.int v3
  obtain ⟨sf, lf, e3, hf, _⟩ := Rdb.list vs22 cz4 (by omega) (fun r hr => open_boolv hr) (show Rdb Pz W 22 [x3] from f3)
  obtain ⟨sm, lm, e4, hm, _⟩ := Rdb.list vs23 cz81 (by omega) (fun r hr => open_move hr) (show Rdb Pz W 23 [x4] from f4)
  obtain ⟨sl, ll, e5, hl, _⟩ := Rdb.list vs24 cz44 (by omega) (fun r hr => open_limit hr) (show Rdb Pz W 24 [x5] from f5)
  simp only [List.drop_zero, List.take_succ_cons, Yyk, List.drop_succ_cons, List.cons.injEq, and_true] at e0 e1 e2
  subst e0 e1 e2 e3 e4 e5
  exact ⟨⟨k0, k1, k2, lf, lm, ll⟩, sf, sm, sl, rfl, ⟨hf, hm, hl⟩⟩
end Go.VC
end

section
/- What an automaton and a list of bytes look like in memory where all that is read is of bulk at most 1048576 (turned from the texts of layer 25). -/
namespace Go.VC
open Go.Proofs Go.LexS Go.RowKit Go.ChangeShapes Go.WideShapes Go.Proofs.YtkebghjhekoecaaGreatDoor
namespace G
theorem v3 : Pz.underlying 3 = some (.int .i64) := by kernel_rfl
theorem v4b : Pz.underlying 4 = some .bool := by kernel_rfl
theorem v9 : Pz.underlying 9 = some .string := by kernel_rfl
theorem cz3 : Pz.cellsOf 3 = 1 := by kernel_rfl
theorem cz4 : Pz.cellsOf 4 = 1 := by kernel_rfl
theorem cz22 : Pz.cellsOf 55 = 1 := by kernel_rfl
theorem cz23 : Pz.cellsOf 56 = 1 := by kernel_rfl
theorem cz24 : Pz.cellsOf 57 = 1 := by kernel_rfl
theorem vs22 : Pz.underlying 55 = some (.slice 9) := by kernel_rfl
theorem vs23 : Pz.underlying 56 = some (.slice 153) := by kernel_rfl
theorem vs24 : Pz.underlying 57 = some (.slice 145) := by kernel_rfl
theorem open_three {W : World} {t : TypeId} {r : List Value} (hc : Pz.cellsOf t = 3) (h0 : fieldAt Pz t 0 = some (3, 0)) (h1 : fieldAt Pz t 1 = some (3, 1)) (h2 : fieldAt Pz t 2 = some (3, 2)) (h : Rdt Pz W t r) :
  ∃ a b c : Int, r = [.int .i64 a, .int .i64 b, .int .i64 c] := by
 have hl := h.flen h0
 rw [hc] at hl
 match r, hl with
 | [x0, x1, x2], _ =>
  have f0 := h.field h0
  have f1 := h.field h1
  have f2 := h.field h2
  rw [cz3] at f0 f1 f2
  obtain ⟨k0, e0, _⟩ := f0.int v3
  obtain ⟨k1, e1, _⟩ := f1.int v3
  obtain ⟨k2, e2, _⟩ := f2.int v3
  simp only [List.drop_zero, List.take_succ_cons, Yyk, List.drop_succ_cons, List.cons.injEq, and_true] at e0 e1 e2
  subst e0 e1 e2
  exact ⟨k0, k1, k2, rfl⟩
end G
theorem cz5 : Pz.cellsOf 5 = 1 := by kernel_rfl
theorem vs47 : Pz.underlying 65 = some (.slice 5) := by kernel_rfl
theorem v5u : Pz.underlying 5 = some (.int .u8) := by kernel_rfl
theorem open_u8 {W : World} {r : List Value} (h : Rdb Pz W 5 r) : ∃ x : Nat, r = u8C x /\ x <= 255 := by
 obtain ⟨n, e, hw⟩ := h.rdt.int v5u
 have h2 : 0 <= n /\ n <= 255 := by
  have h3 : (decide (IntKind.u8.min <= n) && decide (n <= IntKind.u8.max)) = true := hw
  rw [Yt] at h3
  exact ⟨of_decide_eq_true h3.1, of_decide_eq_true h3.2⟩
 exact ⟨n.toNat, by rw [e]; unfold u8C; rw [show ((n.toNat : Nat) : Int) = n by omega], by omega⟩
theorem open_u8s {W : World} {v : Value} (h : Rdb Pz W 65 [v]) : ∃ (s : Sl) (L : List Nat), v = .slice s.a s.n s.c /\ (RL W.heap 1 s u8C L /\ ∀ n ∈ L, n <= 255) := by
 obtain ⟨s, L, e, hr, hb⟩ := Rdb.list vs47 cz5 (by omega) (fun r hr => open_u8 hr) h
 exact ⟨s, L, e, hr, hb⟩
end Go.VC
end
