/- Texts of this claim, joined: PjArgs. -/
import Derived.Test.YtfdhgcladnbdeaaGreatDoorM03
import Derived.Test.YtfdhgcladnbdeaaGreatDoorM11
import Derived.Test.YtfdhgcladnbdeaaGreatDoorRows
set_option linter.unusedVariables false
set_option linter.unusedSimpArgs false

section
/- What an automaton looks like in memory where all that is read is of bulk at most 1048576. -/
namespace Go.VC
open Go.Proofs Go.LexS Go.RowKit Go.ChangeShapes Go.WideShapes Go.Proofs.YtfdhgcladnbdeaaGreatDoor
set_option maxRecDepth 100000
theorem bulk_pos {H : Type} (d : DataW H) : 1 ≤ Rows.uptoBulk d := by
  cases d with
  | lit l => cases l <;> simp [Rows.uptoBulk]
  | _ => simp [Rows.uptoBulk]
theorem bulk_part {H : Type} : ∀ {l : List (DataW H)} {d : DataW H}, d ∈ l → Rows.uptoBulk d ≤ Rows.uptoBulkAll l
  | [], _, h => by cases h
  | x :: r, d, h => by
    rw [Rows.uptoBulkAll]
    rcases List.mem_cons.1 h with rfl | h
    · omega
    · have := bulk_part h; omega
theorem bulk_len {H : Type} : ∀ l : List (DataW H), l.length ≤ Rows.uptoBulkAll l
  | [] => by simp
  | x :: r => by
    have h1 := bulk_pos x
    have h2 := bulk_len r
    rw [Rows.uptoBulkAll, List.length_cons]; omega
/-- the cells cs read as type t, of bulk at most a million or so -/
def Rdb (P : Program) (W : World) (t : TypeId) (cs : List Value) : Prop :=
  ∃ (H : Type) (enc : TypeId × Value → H) (n : Nat) (x : DataW H × List MemPlace), DataW.trod enc P W 0 (fun _ => true) true n t cs = some x ∧ Rows.uptoBulk x.1 ≤ 1048576
theorem Rdb.rdt {P : Program} {W : World} {t : TypeId} {cs : List Value} (h : Rdb P W t cs) : Rdt P W t cs := by
  obtain ⟨H, enc, n, x, h1, _⟩ := h; exact ⟨H, enc, n, x, h1⟩
theorem rdb_of_trod {H : Type} {enc : TypeId × Value → H} {P : Program} {W : World} {t : TypeId} {v : Value} {d : DataW H} {p : List MemPlace} (h : DataW.Trod enc P W 0 (fun _ => true) true t v d p) (hw : Rows.uptoBulk d ≤ 1048576) : Rdb P W t v.cells.toList := by
  obtain ⟨n, h⟩ := h
  exact ⟨H, enc, n, _, h, hw⟩
theorem Rdb.field {P : Program} {W : World} {t ft : TypeId} {cs : List Value} {i off : Nat} (h : Rdb P W t cs) (hf : fieldAt P t i = some (ft, off)) : Rdb P W ft ((cs.drop off).take (P.cellsOf ft)) := by
  unfold fieldAt at hf
  split at hf
  · rename_i fs hu
    obtain ⟨f, h1, h2⟩ := Option.map_eq_some_iff.1 hf
    cases h2
    obtain ⟨H, enc, n, x, h, hw⟩ := h
    obtain ⟨xs, m, _, hx, hl, hxl, hfi⟩ := DataW.trod_struct hu h
    have hlt : i < xs.length := by rw [hxl]; exact (Array.getElem?_eq_some_iff.1 h1).1
    refine ⟨H, enc, m, xs[i], by rw [hfi i f h1, List.getElem?_eq_getElem hlt], ?_⟩
    rw [hx, Rows.uptoBulk] at hw
    have := bulk_part (l := xs.map (·.1)) (d := xs[i].1) (List.mem_map.2 ⟨xs[i], List.getElem_mem hlt, rfl⟩)
    omega
  · cases hf
theorem Rdb.array {P : Program} {W : World} {t e : TypeId} {n : Nat} {cs : List Value} (ht : P.underlying t = some (.array n e)) (h : Rdb P W t cs) :
    cs.length = P.cellsOf t ∧ ∀ i, i < n → Rdb P W e ((cs.drop (i * P.cellsOf e)).take (P.cellsOf e)) := by
  obtain ⟨H, enc, m, x, h, hw⟩ := h
  obtain ⟨xs, k, _, hx, hl, hxl, hf⟩ := DataW.trod_array ht h
  refine ⟨hl, fun i hi => ?_⟩
  have hlt : i < xs.length := by omega
  refine ⟨H, enc, k, xs[i], by rw [hf i hi, List.getElem?_eq_getElem hlt], ?_⟩
  rw [hx, Rows.uptoBulk] at hw
  have := bulk_part (l := xs.map (·.1)) (d := xs[i].1) (List.mem_map.2 ⟨xs[i], List.getElem_mem hlt, rfl⟩)
  omega
/-- a slice argument in memory: its rows -/
theorem Rdb.rows {P : Program} {W : World} {t e : TypeId} {cs : List Value} (ht : P.underlying t = some (.slice e)) (h : Rdb P W t cs) (hpos : 0 < P.cellsOf e) :
    ∃ (s : Sl) (rows : List (List Value)), cs = [.slice s.a s.n s.c] ∧ s.n ≤ s.c ∧ s.n ≤ 1048576 ∧ (s.a = none → s.n = 0 ∧ s.c = 0) ∧ Rw W.heap (P.cellsOf e) s rows ∧ ∀ r ∈ rows, r.length = P.cellsOf e ∧ Rdb P W e r := by
  obtain ⟨H, enc, n, x, h, hw⟩ := h
  rcases DataW.trod_slice ht h with ⟨rfl, _⟩ | ⟨a, len, cap, elems, rest, m, _, rfl, hx, _, hlc, hcm, hel, helem, _, _⟩
  · exact ⟨⟨none, 0, 0⟩, [], rfl, Nat.le_refl _, Nat.zero_le _, fun _ => ⟨rfl, rfl⟩, Rw.nil, fun r hr => by cases hr⟩
  · rw [hx, Rows.uptoBulk] at hw
    have hle : len ≤ 1048576 := by
      have := bulk_len (elems.map (·.1))
      rw [List.length_map] at this; omega
    have hwe : ∀ (i : Nat) (hi : i < elems.length), Rows.uptoBulk elems[i].1 ≤ 1048576 := fun i hi => by
      have := bulk_part (l := elems.map (·.1)) (d := elems[i].1) (List.mem_map.2 ⟨elems[i], List.getElem_mem hi, rfl⟩)
      omega
    by_cases h0 : len = 0
    · subst h0
      exact ⟨⟨some a, 0, cap⟩, [], rfl, hlc, hle, fun e => (by cases e), Rw.empty rfl, fun r hr => by cases hr⟩
    · have hrow : ∀ i, i < len → ∃ r, W.cells? 0 (a.add (i * P.cellsOf e)) (P.cellsOf e) = some r ∧ Rdb P W e r := by
        intro i hi
        have h1 := helem i hi
        rw [List.getElem?_eq_getElem (by omega)] at h1
        obtain ⟨r, hr, hx2⟩ := Option.bind_eq_some_iff.1 h1
        exact ⟨r, hr, H, enc, m, _, hx2, hwe i (by omega)⟩
      let row : Nat → List Value := fun i => (W.cells? 0 (a.add (i * P.cellsOf e)) (P.cellsOf e)).getD []
      have hrow' : ∀ i, i < len → W.cells? 0 (a.add (i * P.cellsOf e)) (P.cellsOf e) = some (row i) ∧ Rdb P W e (row i) := fun i hi => by
        obtain ⟨r, hr, hx⟩ := hrow i hi
        have : row i = r := by show (W.cells? 0 _ _).getD [] = r; rw [hr]; rfl
        rw [this]; exact ⟨hr, hx⟩
      have hget : ∀ i, i < len → ((List.range len).map row)[i]? = some (row i) := fun i hi => by
        rw [List.getElem?_map, List.getElem?_range hi]; rfl
      have hspot : a = ⟨a.block, a.off, none⟩ := by
        have hc := (cells_at (hrow' 0 (by omega)).1)
        have hl0 : 0 < (row 0).length := by rw [hc.1]; exact hpos
        have := hc.2 0 _ (List.getElem?_eq_getElem hl0)
        rw [Nat.zero_mul, show (a.add 0).add 0 = a from rfl] at this
        unfold World.cell? at this
        split at this
        · split at this
          · cases this
          · rename_i hs
            cases a with
            | mk b o s =>
              cases s with
              | none => rfl
              | some s => exact absurd rfl hs
        · cases this
      refine ⟨⟨some a, len, cap⟩, (List.range len).map row, rfl, hlc, hle, fun e => (by cases e), ⟨by simp, fun _ => ⟨a.block, a.off, by rw [← hspot], fun i r hi j v hj => ?_⟩⟩, fun r hr => ?_⟩
      · have hil : i < len := by have := (List.getElem?_eq_some_iff.1 hi).1; simpa using this
        rw [hget i hil] at hi; cases hi
        have h4 := (cells_at (hrow' i hil).1).2 _ _ hj
        rw [hspot] at h4
        have e : ((⟨a.block, a.off, none⟩ : Addr).add (i * P.cellsOf e)).add j = addk ⟨a.block, a.off + i * P.cellsOf e, none⟩ j := by
          rw [addk_at, add_n, add_n]
        rw [e] at h4
        exact h4
      · obtain ⟨i, hi, rfl⟩ := List.mem_map.1 hr
        have := hrow' i (List.mem_range.1 hi)
        exact ⟨(cells_at this.1).1, this.2⟩
/-- .. as a list -/
theorem Rdb.list {α : Type} {P : Program} {W : World} {t e : TypeId} {k : Nat} {v : Value} {cs : α → List Value} {Q : α → Prop} (ht : P.underlying t = some (.slice e)) (hk : P.cellsOf e = k) (hpos : 0 < k)
    (ho : ∀ r, Rdb P W e r → ∃ x, r = cs x ∧ Q x) (h : Rdb P W t [v]) : ∃ (s : Sl) (L : List α), v = .slice s.a s.n s.c ∧ RL W.heap k s cs L ∧ ∀ x ∈ L, Q x := by
  subst hk
  obtain ⟨s, rows, e1, hc, hm, hna, hrw, hr⟩ := h.rows ht hpos
  have key : ∀ rows : List (List Value), (∀ r ∈ rows, r.length = P.cellsOf e ∧ Rdb P W e r) → ∃ L : List α, rows = L.map cs ∧ ∀ x ∈ L, Q x := by
    intro rows
    induction rows with
    | nil => intro _; exact ⟨[], rfl, fun x hx => by cases hx⟩
    | cons r rows ih =>
      intro h
      obtain ⟨x, hx, hq⟩ := ho r (h r (by simp)).2
      obtain ⟨L, hL, hQ⟩ := ih fun y hy => h y (List.mem_cons_of_mem _ hy)
      exact ⟨x :: L, by rw [hx, hL]; rfl, fun y hy => by rcases List.mem_cons.1 hy with rfl | hy; exact hq; exact hQ y hy⟩
  obtain ⟨L, rfl, hQ⟩ := key rows hr
  have hn := hrw.ln
  exact ⟨s, L, by simpa using e1, ⟨hrw, hc, hna, by omega⟩, hQ⟩
theorem v3 : Tryz.prog.underlying 3 = some (.int .i64) := by kernel_rfl
theorem v4b : Tryz.prog.underlying 4 = some .bool := by kernel_rfl
theorem v9 : Tryz.prog.underlying 9 = some .string := by kernel_rfl
theorem cz3 : Tryz.prog.cellsOf 3 = 1 := by kernel_rfl
theorem cz4 : Tryz.prog.cellsOf 4 = 1 := by kernel_rfl
theorem cz9 : Tryz.prog.cellsOf 9 = 1 := by kernel_rfl
theorem cz22 : Tryz.prog.cellsOf 22 = 1 := by kernel_rfl
theorem cz23 : Tryz.prog.cellsOf 23 = 1 := by kernel_rfl
theorem cz24 : Tryz.prog.cellsOf 24 = 1 := by kernel_rfl
theorem cz25 : Tryz.prog.cellsOf 25 = 1 := by kernel_rfl
theorem cz27 : Tryz.prog.cellsOf 27 = 8 := by kernel_rfl
theorem cz53 : Tryz.prog.cellsOf 53 = 3 := by kernel_rfl
theorem cz55 : Tryz.prog.cellsOf 55 = 6 := by kernel_rfl
theorem cz63 : Tryz.prog.cellsOf 63 = 3 := by kernel_rfl
theorem cz130 : Tryz.prog.cellsOf 130 = 1 := by kernel_rfl
theorem cz131 : Tryz.prog.cellsOf 131 = 1 := by kernel_rfl
theorem cz132 : Tryz.prog.cellsOf 132 = 1 := by kernel_rfl
theorem cz134 : Tryz.prog.cellsOf 134 = 2 := by kernel_rfl
theorem cz136 : Tryz.prog.cellsOf 136 = 5 := by kernel_rfl
theorem cz182 : Tryz.prog.cellsOf 182 = 3 := by kernel_rfl
theorem cz184 : Tryz.prog.cellsOf 184 = 4 := by kernel_rfl
theorem cz187 : Tryz.prog.cellsOf 187 = 3 := by kernel_rfl
theorem cz189 : Tryz.prog.cellsOf 189 = 2 := by kernel_rfl
theorem vs22 : Tryz.prog.underlying 22 = some (.slice 9) := by kernel_rfl
theorem vs23 : Tryz.prog.underlying 23 = some (.slice 136) := by kernel_rfl
theorem vs24 : Tryz.prog.underlying 24 = some (.slice 55) := by kernel_rfl
theorem vs25 : Tryz.prog.underlying 25 = some (.slice 63) := by kernel_rfl
theorem vs130 : Tryz.prog.underlying 130 = some (.slice 184) := by kernel_rfl
theorem vs131 : Tryz.prog.underlying 131 = some (.slice 187) := by kernel_rfl
theorem vs132 : Tryz.prog.underlying 132 = some (.slice 189) := by kernel_rfl
theorem va189 : Tryz.prog.underlying 189 = some (.array 2 3) := by kernel_rfl
theorem open_name {W : World} {r : List Value} (h : Rdb Tryz.prog W 9 r) : ∃ x : Nm, r = nmC x ∧ True := by
  obtain ⟨s, e, _⟩ := h.rdt.str v9
  exact ⟨s.data.toList, by rw [e]; rfl, trivial⟩
theorem open_field {W : World} {r : List Value} (h : Rdb Tryz.prog W 184 r) : ∃ x : Fld, r = x.cs ∧ True := by
  have hl := h.rdt.flen (i := 0) (ft := 9) (off := 0) (by kernel_rfl)
  rw [cz184] at hl
  match r, hl with
  | [x0, x1, x2, x3], _ =>
    have f0 := h.rdt.field (i := 0) (ft := 9) (off := 0) (by kernel_rfl)
    have f1 := h.rdt.field (i := 1) (ft := 182) (off := 1) (by kernel_rfl)
    rw [cz9] at f0
    rw [cz182] at f1
    have g0 := f1.field (i := 0) (ft := 3) (off := 0) (by kernel_rfl)
    have g1 := f1.field (i := 1) (ft := 3) (off := 1) (by kernel_rfl)
    have g2 := f1.field (i := 2) (ft := 3) (off := 2) (by kernel_rfl)
    rw [cz3] at g0 g1 g2
    obtain ⟨s, e0, _⟩ := f0.str v9
    obtain ⟨k1, e1, _⟩ := g0.int v3
    obtain ⟨k2, e2, _⟩ := g1.int v3
    obtain ⟨k3, e3, _⟩ := g2.int v3
    simp only [List.drop_zero, List.take_succ_cons, List.take_zero, List.drop_succ_cons, List.cons.injEq, and_true] at e0 e1 e2 e3
    subst e0 e1 e2 e3
    exact ⟨⟨s.data.toList, k1, k2, k3⟩, rfl, trivial⟩
theorem open_three {W : World} {t : TypeId} {r : List Value} (hc : Tryz.prog.cellsOf t = 3) (h0 : fieldAt Tryz.prog t 0 = some (3, 0)) (h1 : fieldAt Tryz.prog t 1 = some (3, 1)) (h2 : fieldAt Tryz.prog t 2 = some (3, 2)) (h : Rdt Tryz.prog W t r) :
    ∃ a b c : Int, r = [.int .i64 a, .int .i64 b, .int .i64 c] := by
  have hl := h.flen h0
  rw [hc] at hl
  match r, hl with
  | [x0, x1, x2], _ =>
    have f0 := h.field h0
    have f1 := h.field h1
    have f2 := h.field h2
    rw [cz3] at f0 f1 f2
    obtain ⟨k0, e0, _⟩ := f0.int v3
    obtain ⟨k1, e1, _⟩ := f1.int v3
    obtain ⟨k2, e2, _⟩ := f2.int v3
    simp only [List.drop_zero, List.take_succ_cons, List.take_zero, List.drop_succ_cons, List.cons.injEq, and_true] at e0 e1 e2
    subst e0 e1 e2
    exact ⟨k0, k1, k2, rfl⟩
theorem open_diff {W : World} {r : List Value} (h : Rdb Tryz.prog W 187 r) : ∃ x : Df, r = x.cs ∧ True := by
  obtain ⟨a, b, c, e⟩ := open_three cz187 (by kernel_rfl) (by kernel_rfl) (by kernel_rfl) h.rdt
  exact ⟨⟨a, b, c⟩, e, trivial⟩
theorem open_timeout {W : World} {r : List Value} (h : Rdb Tryz.prog W 63 r) : ∃ x : To, r = x.cs ∧ True := by
  obtain ⟨a, b, c, e⟩ := open_three cz63 (by kernel_rfl) (by kernel_rfl) (by kernel_rfl) h.rdt
  exact ⟨⟨a, b, c⟩, e, trivial⟩
theorem open_pair {W : World} {r : List Value} (h : Rdb Tryz.prog W 189 r) : ∃ x : Eqs, r = x.cs ∧ True := by
  obtain ⟨hl, ha⟩ := h.rdt.array va189
  rw [cz189] at hl
  rw [cz3] at ha
  match r, hl with
  | [x0, x1], _ =>
    obtain ⟨k0, e0, _⟩ := (ha 0 (by omega)).int v3
    obtain ⟨k1, e1, _⟩ := (ha 1 (by omega)).int v3
    simp only [Nat.zero_mul, Nat.one_mul, List.drop_zero, List.take_succ_cons, List.take_zero, List.drop_succ_cons, List.cons.injEq, and_true] at e0 e1
    subst e0 e1
    exact ⟨⟨k0, k1⟩, rfl, trivial⟩
theorem open_edge {W : World} {r : List Value} (h : Rdb Tryz.prog W 55 r) : ∃ x : Ed, r = x.cs ∧ True := by
  have hl := h.rdt.flen (i := 0) (ft := 3) (off := 0) (by kernel_rfl)
  rw [cz55] at hl
  match r, hl with
  | [x0, x1, x2, x3, x4, x5], _ =>
    have f0 := h.rdt.field (i := 0) (ft := 3) (off := 0) (by kernel_rfl)
    have f1 := h.rdt.field (i := 1) (ft := 53) (off := 1) (by kernel_rfl)
    have f2 := h.rdt.field (i := 2) (ft := 3) (off := 4) (by kernel_rfl)
    have f3 := h.rdt.field (i := 3) (ft := 4) (off := 5) (by kernel_rfl)
    rw [cz3] at f0 f2
    rw [cz53] at f1
    rw [cz4] at f3
    obtain ⟨a, b, c, e1⟩ := open_three cz53 (by kernel_rfl) (by kernel_rfl) (by kernel_rfl) f1
    obtain ⟨k0, e0, _⟩ := f0.int v3
    obtain ⟨k2, e2, _⟩ := f2.int v3
    obtain ⟨k3, e3⟩ := f3.bool v4b
    simp only [List.drop_zero, List.take_succ_cons, List.take_zero, List.drop_succ_cons, List.cons.injEq, and_true] at e0 e1 e2 e3
    obtain ⟨e1a, e1b, e1c⟩ := e1
    subst e0 e1a e1b e1c e2 e3
    exact ⟨⟨k0, a, b, c, k2, k3⟩, rfl, trivial⟩
theorem open_decl {W : World} {r : List Value} (h : Rdb Tryz.prog W 136 r) : ∃ x : Dc, r = x.cs ∧ DI W.heap x := by
  have hl := h.rdt.flen (i := 0) (ft := 9) (off := 0) (by kernel_rfl)
  rw [cz136] at hl
  match r, hl with
  | [x0, x1, x2, x3, x4], _ =>
    have f0 := h.rdt.field (i := 0) (ft := 9) (off := 0) (by kernel_rfl)
    have f1 := h.field (i := 1) (ft := 130) (off := 1) (by kernel_rfl)
    have f2 := h.rdt.field (i := 2) (ft := 3) (off := 2) (by kernel_rfl)
    have f3 := h.field (i := 3) (ft := 134) (off := 3) (by kernel_rfl)
    rw [cz9] at f0
    rw [cz130] at f1
    rw [cz3] at f2
    rw [cz134] at f3
    have g0 := f3.field (i := 0) (ft := 131) (off := 0) (by kernel_rfl)
    have g1 := f3.field (i := 1) (ft := 132) (off := 1) (by kernel_rfl)
    rw [cz131] at g0
    rw [cz132] at g1
    obtain ⟨s, e0, _⟩ := f0.str v9
    obtain ⟨sf, fs, e1, hf, _⟩ := Rdb.list vs130 cz184 (by omega) (fun r hr => open_field hr) f1
    obtain ⟨k, e2, _⟩ := f2.int v3
    obtain ⟨sd, ds, e3, hd, _⟩ := Rdb.list vs131 cz187 (by omega) (fun r hr => open_diff hr) g0
    obtain ⟨se, es, e4, he, _⟩ := Rdb.list vs132 cz189 (by omega) (fun r hr => open_pair hr) g1
    simp only [List.drop_zero, List.take_succ_cons, List.take_zero, List.drop_succ_cons, List.cons.injEq, and_true] at e0 e2
    subst e0 e1 e2 e3 e4
    exact ⟨⟨s.data.toList, sf, k, sd, se, fs, ds, es⟩, rfl, ⟨hf, hd, he⟩⟩
theorem open_global {W : World} {cs : List Value} (h : Rdb Tryz.prog W 27 cs) : ∃ g : Gl, cs = g.cs ∧ GI W.heap g := by
  have hl := h.rdt.flen (i := 0) (ft := 9) (off := 0) (by kernel_rfl)
  rw [cz27] at hl
  match cs, hl with
  | [x0, x1, x2, x3, x4, x5, x6, x7], _ =>
    have f0 := h.rdt.field (i := 0) (ft := 9) (off := 0) (by kernel_rfl)
    have f1 := h.field (i := 1) (ft := 22) (off := 1) (by kernel_rfl)
    have f2 := h.field (i := 2) (ft := 23) (off := 2) (by kernel_rfl)
    have f3 := h.rdt.field (i := 3) (ft := 3) (off := 3) (by kernel_rfl)
    have f4 := h.rdt.field (i := 4) (ft := 3) (off := 4) (by kernel_rfl)
    have f5 := h.rdt.field (i := 5) (ft := 3) (off := 5) (by kernel_rfl)
    have f6 := h.field (i := 6) (ft := 24) (off := 6) (by kernel_rfl)
    have f7 := h.field (i := 7) (ft := 25) (off := 7) (by kernel_rfl)
    rw [cz9] at f0
    rw [cz22] at f1
    rw [cz23] at f2
    rw [cz3] at f3 f4 f5
    rw [cz24] at f6
    rw [cz25] at f7
    obtain ⟨s, e0, _⟩ := f0.str v9
    obtain ⟨sr, rs, e1, hr, _⟩ := Rdb.list vs22 cz9 (by omega) (fun r hr => open_name hr) f1
    obtain ⟨sd, ds, e2, hd, hdi⟩ := Rdb.list vs23 cz136 (by omega) (fun r hr => open_decl hr) f2
    obtain ⟨k3, e3, _⟩ := f3.int v3
    obtain ⟨k4, e4, _⟩ := f4.int v3
    obtain ⟨k5, e5, _⟩ := f5.int v3
    obtain ⟨se, es, e6, he, _⟩ := Rdb.list vs24 cz55 (by omega) (fun r hr => open_edge hr) f6
    obtain ⟨st, ts, e7, ht, _⟩ := Rdb.list vs25 cz63 (by omega) (fun r hr => open_timeout hr) f7
    simp only [List.drop_zero, List.take_succ_cons, List.take_zero, List.drop_succ_cons, List.cons.injEq, and_true] at e0 e3 e4 e5
    subst e0 e1 e2 e3 e4 e5 e6 e7
    exact ⟨⟨s.data.toList, sr, sd, k3, k4, k5, se, st, rs, ds, es, ts⟩, rfl, ⟨hr, ⟨hd, hdi⟩, he, ht⟩⟩
end Go.VC
end
