/- What chart's arguments look like in memory. -/
import Derived.Test.YtcaahhppapnbhaaDoorChQ
import Derived.Test.YtcaahhppapnbhaaDoorVcArgs
set_option linter.unusedVariables false
set_option linter.unusedSimpArgs false

namespace Go.VC
open Go.Proofs Go.LexS Go.ChS Go.RowKit Go.ChangeShapes Go.WideShapes
set_option maxRecDepth 100000

theorem Rdt.sl {P : Program} {W : World} {t e : TypeId} {cs : List Value} (ht : P.underlying t = some (.slice e)) (h : Rdt P W t cs) : ∃ s : Sl, cs = [.slice s.a s.n s.c] := by
  obtain ⟨H, enc, n, x, h⟩ := h
  rcases DataW.trod_slice ht h with ⟨rfl, _⟩ | ⟨a, len, cap, elems, rest, m, _, rfl, _⟩
  · exact ⟨⟨none, 0, 0⟩, rfl⟩
  · exact ⟨⟨some a, len, cap⟩, rfl⟩
theorem c9 : Tryd.prog.cellsOf 9 = 1 := by kernel_rfl
theorem c3 : Tryd.prog.cellsOf 3 = 1 := by kernel_rfl
theorem c22 : Tryd.prog.cellsOf 22 = 1 := by kernel_rfl
theorem c23 : Tryd.prog.cellsOf 23 = 1 := by kernel_rfl
theorem c24 : Tryd.prog.cellsOf 24 = 1 := by kernel_rfl
theorem c25 : Tryd.prog.cellsOf 25 = 1 := by kernel_rfl
theorem c27 : Tryd.prog.cellsOf 27 = 8 := by kernel_rfl
theorem c43 : Tryd.prog.cellsOf 43 = 3 := by kernel_rfl
theorem c45 : Tryd.prog.cellsOf 45 = 1 := by kernel_rfl
theorem c46 : Tryd.prog.cellsOf 46 = 1 := by kernel_rfl
theorem c47 : Tryd.prog.cellsOf 47 = 1 := by kernel_rfl
theorem c49 : Tryd.prog.cellsOf 49 = 2 := by kernel_rfl
theorem c51 : Tryd.prog.cellsOf 51 = 5 := by kernel_rfl
theorem c5 : Tryd.prog.cellsOf 5 = 1 := by kernel_rfl
theorem b51 : Tryd.prog.bytesOf 51 = 96 := by kernel_rfl
theorem v3 : Tryd.prog.underlying 3 = some (.int .i64) := by kernel_rfl
theorem v22 : Tryd.prog.underlying 22 = some (.slice 9) := by kernel_rfl
theorem v23 : Tryd.prog.underlying 23 = some (.slice 51) := by kernel_rfl
theorem v24 : Tryd.prog.underlying 24 = some (.slice 141) := by kernel_rfl
theorem v25 : Tryd.prog.underlying 25 = some (.slice 143) := by kernel_rfl
theorem v28 : Tryd.prog.underlying 28 = some (.slice 43) := by kernel_rfl
theorem v41 : Tryd.prog.underlying 41 = some (.array 2 5) := by kernel_rfl
theorem sl45 : ∃ e, Tryd.prog.underlying 45 = some (.slice e) := ⟨147, by kernel_rfl⟩
theorem sl46 : ∃ e, Tryd.prog.underlying 46 = some (.slice e) := ⟨149, by kernel_rfl⟩
theorem sl47 : ∃ e, Tryd.prog.underlying 47 = some (.slice e) := ⟨150, by kernel_rfl⟩
theorem open_decl {W : World} {r : List Value} (h : Rdt Tryd.prog W 51 r) : ∃ d : Dl, r = d.cs := by
  have hl := h.flen (i := 0) (ft := 9) (off := 0) (by kernel_rfl)
  rw [c51] at hl
  match r, hl with
  | [x0, x1, x2, x3, x4], _ =>
    have f0 := h.field (i := 0) (ft := 9) (off := 0) (by kernel_rfl)
    have f1 := h.field (i := 1) (ft := 45) (off := 1) (by kernel_rfl)
    have f2 := h.field (i := 2) (ft := 3) (off := 2) (by kernel_rfl)
    have f3 := h.field (i := 3) (ft := 49) (off := 3) (by kernel_rfl)
    rw [c9] at f0
    rw [c45] at f1
    rw [c3] at f2
    rw [c49] at f3
    have g0 := f3.field (i := 0) (ft := 46) (off := 0) (by kernel_rfl)
    have g1 := f3.field (i := 1) (ft := 47) (off := 1) (by kernel_rfl)
    rw [c46] at g0
    rw [c47] at g1
    obtain ⟨s, e0, _⟩ := f0.str u9
    obtain ⟨_, s45⟩ := sl45
    obtain ⟨_, s46⟩ := sl46
    obtain ⟨_, s47⟩ := sl47
    obtain ⟨a1, e1⟩ := f1.sl s45
    obtain ⟨k, e2, _⟩ := f2.int v3
    obtain ⟨a3, e3⟩ := g0.sl s46
    obtain ⟨a4, e4⟩ := g1.sl s47
    simp only [List.drop_zero, List.take_succ_cons, List.take_zero, List.drop_succ_cons, List.cons.injEq, and_true] at e0 e1 e2 e3 e4
    subst e0 e1 e2 e3 e4
    exact ⟨⟨s.data.toList, a1, k, a3, a4⟩, by unfold Dl.cs sV; dsimp only; rw [bs_of]⟩
theorem open_global {W : World} {cs : List Value} (h : Rdw Tryd.prog W 27 cs) : ∃ g rs dl, cs = g.cs ∧ GR W.heap g rs dl := by
  have hl := h.rdt.flen (i := 0) (ft := 9) (off := 0) (by kernel_rfl)
  rw [c27] at hl
  match cs, hl with
  | [x0, x1, x2, x3, x4, x5, x6, x7], _ =>
    have f0 := h.rdt.field (i := 0) (ft := 9) (off := 0) (by kernel_rfl)
    have f1 := h.field (i := 1) (ft := 22) (off := 1) (by kernel_rfl)
    have f2 := h.field (i := 2) (ft := 23) (off := 2) (by kernel_rfl)
    have f3 := h.rdt.field (i := 3) (ft := 3) (off := 3) (by kernel_rfl)
    have f4 := h.rdt.field (i := 4) (ft := 3) (off := 4) (by kernel_rfl)
    have f5 := h.rdt.field (i := 5) (ft := 3) (off := 5) (by kernel_rfl)
    have f6 := h.rdt.field (i := 6) (ft := 24) (off := 6) (by kernel_rfl)
    have f7 := h.rdt.field (i := 7) (ft := 25) (off := 7) (by kernel_rfl)
    rw [c9] at f0
    rw [c22] at f1
    rw [c23] at f2
    rw [c3] at f3 f4 f5
    rw [c24] at f6
    rw [c25] at f7
    obtain ⟨s, e0, _⟩ := f0.str u9
    obtain ⟨sr, rr, e1, hc1, hm1, _, _, hr1, hrr⟩ := f1.rows v22 (by rw [c9]; omega)
    obtain ⟨sd, rd, e2, _, _, hb2, _, hr2, hrd⟩ := f2.rows v23 (by rw [c51]; omega)
    obtain ⟨k3, e3, _⟩ := f3.int v3
    obtain ⟨k4, e4, _⟩ := f4.int v3
    obtain ⟨k5, e5, _⟩ := f5.int v3
    obtain ⟨a6, e6⟩ := f6.sl v24
    obtain ⟨a7, e7⟩ := f7.sl v25
    obtain ⟨rs, hrs⟩ := rows_str u9 rr fun r hr => (hrr r hr).2.rdt
    obtain ⟨dl, hdl⟩ := rows_map (Q := fun r => Rdt Tryd.prog W 51 r) (fun r hq => open_decl hq) rd fun r hr => (hrd r hr).2.rdt
    simp only [List.drop_zero, List.take_succ_cons, List.take_zero, List.drop_succ_cons, List.cons.injEq, and_true] at e0 e1 e2 e3 e4 e5 e6 e7
    subst e0 e1 e2 e3 e4 e5 e6 e7 hrs hdl
    rw [c9] at hr1
    rw [c51] at hr2
    have n1 := hr1.1
    have n2 := hr2.1
    rw [strR_len] at n1
    rw [List.length_map] at n2
    rw [b51, reachBytes] at hb2
    exact ⟨⟨s, sr, sd, k3, k4, k5, a6, a7⟩, rs, dl, rfl, hr1, hr2, by rw [maxLen] at hm1; omega, by omega, hc1⟩
theorem open_word {W : World} {cs : List Value} (h : Rdw Tryd.prog W 28 cs) : ∃ (s : Sl) (w : List Ix), cs = [.slice s.a s.n s.c] ∧ w.length ≤ 9223372036854775807 ∧ (s.a = none → s.n = 0 ∧ s.c = 0) ∧ Rw W.heap 3 s (ixR w) := by
  obtain ⟨s, rows, e, hc, hm, _, hna, hr, hrr⟩ := h.rows v28 (by rw [c43]; omega)
  obtain ⟨w, hw⟩ := rows_map (Q := fun r => Rdt Tryd.prog W 43 r) (f := ixC) (fun r hq => by
    have hl := hq.flen (i := 0) (ft := 3) (off := 0) (by kernel_rfl)
    rw [c43] at hl
    match r, hl with
    | [x0, x1, x2], _ =>
      have f0 := hq.field (i := 0) (ft := 3) (off := 0) (by kernel_rfl)
      have f1 := hq.field (i := 1) (ft := 3) (off := 1) (by kernel_rfl)
      have f2 := hq.field (i := 2) (ft := 3) (off := 2) (by kernel_rfl)
      rw [c3] at f0 f1 f2
      obtain ⟨k0, e0, _⟩ := f0.int v3
      obtain ⟨k1, e1, _⟩ := f1.int v3
      obtain ⟨k2, e2, _⟩ := f2.int v3
      simp only [List.drop_zero, List.take_succ_cons, List.take_zero, List.drop_succ_cons, List.cons.injEq, and_true] at e0 e1 e2
      subst e0 e1 e2
      exact ⟨⟨k0, k1, k2⟩, rfl⟩) rows fun r hr => (hrr r hr).2.rdt
  rw [c43] at hr
  have hn := hr.1
  refine ⟨s, w, e, ?_, hna, by rw [hw] at hr; exact hr⟩
  rw [hw, List.length_map] at hn
  rw [maxLen] at hm; omega
theorem open_lines {W : World} {cs : List Value} (h : Rdw Tryd.prog W 22 cs) : ∃ (s : Sl) (L : List Nm), cs = [.slice s.a s.n s.c] ∧ L.length ≤ 9223372036854775807 ∧ s.n ≤ s.c ∧ Rw W.heap 1 s (strR L) := by
  obtain ⟨s, rows, e, hc, hm, _, hna, hr, hrr⟩ := h.rows v22 (by rw [c9]; omega)
  obtain ⟨L, hL⟩ := rows_str u9 rows fun r hr => (hrr r hr).2.rdt
  rw [c9, hL] at hr
  have hn := hr.1
  rw [strR_len] at hn
  exact ⟨s, L, e, by rw [maxLen] at hm; omega, hc, hr⟩
theorem open_two {W : World} {cs : List Value} (h : Rdw Tryd.prog W 41 cs) : ∃ a b : Nat, cs = [.int .u8 a, .int .u8 b] ∧ a < 256 ∧ b < 256 := by
  obtain ⟨hl, hf⟩ := h.rdt.array v41
  have c41 : Tryd.prog.cellsOf 41 = 2 := by kernel_rfl
  rw [c41] at hl
  match cs, hl with
  | [x0, x1], _ =>
    have f0 := hf 0 (by omega)
    have f1 := hf 1 (by omega)
    rw [c5] at f0 f1
    obtain ⟨k0, e0, w0⟩ := f0.int u5
    obtain ⟨k1, e1, w1⟩ := f1.int u5
    simp [Lit.wf, IntKind.min, IntKind.max, IntKind.signed, IntKind.bits] at w0 w1
    simp only [Nat.zero_mul, Nat.one_mul, List.drop_zero, List.take_succ_cons, List.take_zero, List.drop_succ_cons, List.cons.injEq, and_true] at e0 e1
    subst e0 e1
    exact ⟨k0.toNat, k1.toNat, by rw [show (k0.toNat : Int) = k0 by omega, show (k1.toNat : Int) = k1 by omega], by omega, by omega⟩
end Go.VC
