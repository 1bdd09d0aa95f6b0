/- The last step: each law of project as a row and as a card, where what it reads is of bulk at most 1048576: true, and the arguments read as before. Conditions: the row's own (the tables that it lists, as the program's text lays them, which the card ties). -/
import Derived.Test.YtajglkbckhgboaaGreatDoorCM10
import Derived.Test.YtajglkbckhgboaaGreatDoorCards
import Derived.Test.YtajglkbckhgboaaGreatDoorTie
import Derived.Deep.DeepHandedRow
import Derived.Lib.LaidTab
import Derived.Shelf.Vars
import Derived.Lay
import Derived.LaidMore
import Derived.SevenTiedAt
import Derived.Stop.Joined
import Derived.Handed
set_option linter.all false
set_option maxRecDepth 100000
set_option maxHeartbeats 8000000

namespace Go.Proofs.YtajglkbckhgboaaGreatDoor
open Go.ChangeShapes Go.WideShapes Go.ChangeAt Go.RowKit Go.VC
set_option maxRecDepth 100000
theorem own : ownKnob Tryz.prog.godebug = none := by kernel_rfl
theorem laid_out : laidOutB Tryz.prog = true := by kernel_rfl
theorem maps_rowed : mapsRowed Tryz.prog = true := by kernel_rfl
theorem and2 {a b : Bool} (h1 : a = true) (h2 : b = true) : (a && b) = true := by rw [h1, h2]; rfl
theorem gTab : Tryz.prog.globalNamed "math/bits.deBruijn64tab" = some 0 := by kernel_rfl
theorem gTabType : (Tryz.prog.globals[0]?).map (·.type) = some 383 := by kernel_rfl
theorem cells304 : Tryz.prog.cellsOf 383 = 64 := by kernel_rfl
theorem maxLen_cell {W : World} (h : W.ShapedOpen Tryz.prog) : ∃ m : Int, W.cell? ⟨1, 0, none⟩ = some (.int .i64 m) :=
  cell_of_shapedOpen_int (P := Tryz.prog) (g := 1) (t := 3) (zero := #[.int .i64 0]) h (of_decide_eq_true (by kernel_rfl)) (by kernel_rfl) rfl (by kernel_rfl) (by kernel_rfl) Tryz.underlying3
theorem row_gx {W : World} (hS : W.ShapedOpen Tryz.prog) : Gm W.heap := ⟨maxLen_cell hS⟩
noncomputable def realizePairs_world (os : Os) : World := World.laidAll Tryz.prog os Rows.realizePairsUptoRow.laid
theorem realizePairs_reads (os : Os) {H : Type} (enc : TypeId × Value → H) : ∃ places, DataW.whole enc Tryz.prog ((realizePairs_world os).forCall (fun _ _ => 0) ⟨#[], #[.agg #[.string ⟨#[]⟩, .slice none 0 0, .slice none 0 0, .int .i64 0, .int .i64 0, .int .i64 0, .slice none 0 0, .slice none 0 0], .int .i64 0, .agg #[.slice none 0 0, .slice none 0 0]], []⟩).memory Tryz.f6.params.toList Rows.realizePairsSpec.vars false #[.agg #[.string ⟨#[]⟩, .slice none 0 0, .slice none 0 0, .int .i64 0, .int .i64 0, .int .i64 0, .slice none 0 0, .slice none 0 0], .int .i64 0, .agg #[.slice none 0 0, .slice none 0 0]].toList 8 = some ([.agg [.lit (.string []), .nil, .nil, .lit (.int .i64 0), .lit (.int .i64 0), .lit (.int .i64 0), .nil, .nil], .lit (.int .i64 0), .agg [.nil, .nil]], [], places) :=
  ⟨[], by kernel_rfl⟩
theorem realizePairs_lifted (os : Os) (started : os.Started) (H : Type) (enc : TypeId × Value → H) (F : Stop.Interp) :
    ReturnsInHanded {} Tryz.checked os 6 .any ((Rows.OpenSpec.upto Rows.realizePairsSpec).preRow enc Tryz.prog Tryz.f6 Rows.realizePairsUptoRow.domain false Rows.realizePairsUptoRow.laid) (((Rows.OpenSpec.upto Rows.realizePairsSpec).at F).post enc Tryz.prog Tryz.f6 false true false false) := by
  obtain ⟨places, hx⟩ := realizePairs_reads os enc
  refine returnsInHanded_of_row (C := Tryz.checked) (s := Rows.OpenSpec.upto Rows.realizePairsSpec) own started (by kernel_rfl) Tryz.func6
    (witness_row_at (enc := enc) (C := Tryz.checked) false (realizePairs_world os) #[.agg #[.string ⟨#[]⟩, .slice none 0 0, .slice none 0 0, .int .i64 0, .int .i64 0, .int .i64 0, .slice none 0 0, .slice none 0 0], .int .i64 0, .agg #[.slice none 0 0, .slice none 0 0]] (World.laidAll_os _ _ _) (by kernel_rfl) (by kernel_rfl) (by kernel_rfl)
      (OpenSpec.preRow_of_cond 8 hx (by kernel_rfl) (fun k hk => by cases hk; kernel_rfl) (by kernel_rfl) (by rw [MakeChecks.laidMetH_plain _ _ _ (by kernel_rfl)]; exact laidMet_laidAll _ (by kernel_rfl) (by kernel_rfl)))) ?_
  intro W base args ds gs before hval0 hW _ hcond _ hL hS _
  have hval : ∀ (j : Nat) t v, Tryz.f6.params[j]? = some t → args[j]? = some v → Value.okWide Tryz.prog W .any base t v := hval0
  have hbulk : Rows.uptoBulkAll (ds ++ gs) ≤ 1048576 := of_decide_eq_true (hcond _ rfl)
  have hx0 : Gm W.heap := row_gx hS
  clear hcond hL hS hx
  have hW' := hW
  obtain ⟨p, q, hA0, hV, rfl, _, _⟩ := hW
  have hA : DataW.TrodAll enc Tryz.prog W 0 (fun _ => true) true Tryz.f6.params.toList args.toList ds p := hA0
  rw [Tryz.params6] at hA hval
  obtain ⟨v0, vs0, d0, ds0, p0, q0, hargs, rfl, rfl, h0, r0⟩ := trodAll_cons hA
  obtain ⟨v1, vs1, d1, ds1, p1, q1, rfl, rfl, rfl, h1, r1⟩ := trodAll_cons r0
  obtain ⟨v2, vs2, d2, ds2, p2, q2, rfl, rfl, rfl, h2, r2⟩ := trodAll_cons r1
  obtain ⟨rfl, rfl, rfl⟩ := trodAll_nil r2
  obtain rfl : args = #[v0, v1, v2] := by cases args; simp_all
  obtain ⟨rfl, rfl⟩ := trodVars_none hV
  have m0 : Rdb Tryz.prog W 27 v0.cells.toList := rdb_of_trod h0 (Nat.le_trans (bulk_part (by simp)) hbulk)
  obtain ⟨⟨cs0⟩, rfl⟩ := okWide_agg (by kernel_rfl) (hval 0 27 v0 rfl rfl)
  obtain ⟨g0, e0, hg0, hn0⟩ := open_global m0
  obtain rfl : cs0 = _ := e0
  have m1 : Rdb Tryz.prog W 3 v1.cells.toList := rdb_of_trod h1 (Nat.le_trans (bulk_part (by simp)) hbulk)
  obtain ⟨k1, rfl⟩ := okWide_int Tryz.underlying3 (hval 1 3 v1 rfl rfl)
  have m2 : Rdb Tryz.prog W 47 v2.cells.toList := rdb_of_trod h2 (Nat.le_trans (bulk_part (by simp)) hbulk)
  obtain ⟨⟨cs2⟩, rfl⟩ := okWide_agg (by kernel_rfl) (hval 2 47 v2 rfl rfl)
  obtain ⟨s2, L2, t2, M2, e2, hs2, ht2⟩ := open_u8s2 m2
  obtain rfl : cs2 = _ := e2
  clear hA0 hval0
  simp only [List.append_nil] at hW'
  refine (realizePairs g0 k1 s2 t2 L2 M2 W.heap hg0 hx0 hn0 hs2.1.rw hs2.2 ht2.1.rw ht2.2).calls.mono ?_
  rintro e W' ⟨v, rfl, ⟨rfl, hE⟩, hos, htape, hout⟩
  exact ⟨_, rfl, post_law laid_out (by rw [Tryz.params6]; exact of_decide_eq_true (by kernel_rfl)) rfl (by simp at hW' ⊢; exact hW') rfl rfl rfl rfl Tryz.underlying4 hE hos htape hout⟩
theorem realizePairs_c10 : (Rows.realizePairsUptoRow.inPlace == Tryz.prog.inPlace 6) = true := by kernel_rfl
theorem realizePairs_c11 : (Rows.realizePairsUptoRow.unfollowed == Tryz.prog.unfollowed 6) = true := by kernel_rfl
theorem realizePairs_c12 : (Rows.realizePairsUptoRow.recurses == Tryz.prog.recurses 6) = true := by kernel_rfl
theorem realizePairs_c13 : (Rows.realizePairsUptoRow.named == Tryz.prog.varsNamed 6) = true := by kernel_rfl
theorem realizePairs_c23 : (Rows.realizePairsUptoRow.plainKeys == Tryz.prog.plainKeys) = true := by kernel_rfl
theorem realizePairs_c25 : Tryz.prog.stopsHeard = true := by kernel_rfl
theorem realizePairs_c26 : Tryz.prog.mayEnter = true := by kernel_rfl
theorem realizePairs_c27 : (Rows.realizePairsUptoRow.lifted == Tryz.prog.liftsFinal) = true := by kernel_rfl
theorem realizePairs_c28 : (Tryz.prog.make == some Rows.realizePairsUptoRow.make) = true := by kernel_rfl
theorem realizePairs_closed : joinedFacts Tryz.prog 6 Tryz.f6 (Rows.OpenSpec.upto Rows.realizePairsSpec).bare Rows.realizePairsUptoRow = true := by
  unfold joinedFacts
  exact and2 (and2 (and2 (and2 (and2 (and2 (and2 (and2 (and2 (and2 (and2 (and2 (and2 (and2 (and2 (and2 (and2 (and2 (and2 (and2 (and2 (and2 (and2 (and2 (and2 (and2 (and2 (and2 (and2 (and2 (and2 (by kernel_rfl) laid_out) maps_rowed) (by kernel_rfl)) (by kernel_rfl)) (by kernel_rfl)) (by kernel_rfl)) (by kernel_rfl)) (by kernel_rfl)) realizePairs_c10) realizePairs_c11) realizePairs_c12) realizePairs_c13) (by kernel_rfl)) (by kernel_rfl)) (by kernel_rfl)) (by kernel_rfl)) (by kernel_rfl)) (by kernel_rfl)) (by kernel_rfl)) (by kernel_rfl)) (by kernel_rfl)) realizePairs_c23) (by kernel_rfl)) realizePairs_c25) realizePairs_c26) realizePairs_c27) realizePairs_c28) (by kernel_rfl)) (by kernel_rfl)) (by kernel_rfl)) (by kernel_rfl)
theorem realizePairs_named : Tryz.prog.funcNamed "farandole/farandolelaw23.RealizePairs" = some 6 := by kernel_rfl
theorem realizePairs_inst : Tryz.f6.isInstance Tryz.prog Rows.realizePairsUptoRow.origin Rows.realizePairsUptoRow.targs := of_decide_eq_true (by kernel_rfl)
theorem realizePairs_wrap : Tryz.f6.isWrapper Tryz.prog Rows.realizePairsUptoRow.wrapper Rows.realizePairsUptoRow.mainSum := by unfold Func.isWrapper; first | (rw [if_pos (by decide +kernel)]; kernel_rfl) | (rw [if_neg (by decide +kernel)]; exact ⟨rfl, rfl⟩)
theorem realizePairs_holds : Rows.RealizePairsUptoSaid :=
  OpenClaim.holds_of_cond 6 Tryz.f6 rfl rfl rfl rfl rfl rfl rfl ⟨rfl, rfl, rfl, rfl, rfl⟩ rfl rfl rfl rfl rfl realizePairs_named Tryz.func6 realizePairs_closed realizePairs_inst realizePairs_wrap
    (fun os started H enc _ F => by rw [OpenClaim.pre_eq_preRow]; exact realizePairs_lifted os started H enc F)
theorem realizePairs_text : Rows.realizePairsUptoRow.wfByText (Rows.OpenSpec.upto Rows.realizePairsSpec) = true := by kernel_rfl
theorem realizePairs_main : Tryz.prog.mainIs = some ((Rows.realizePairsUptoCard.stood.harness).1, (Rows.realizePairsUptoCard.stood.harness).2.toList) := by kernel_rfl
theorem realizePairs_looks : false = Tryz.prog.looks [] := by kernel_rfl
theorem realizePairs_stand : ([27, 3, 47].all fun u => !Tryz.prog.wantsStandIn u) = true := by kernel_rfl
theorem realizePairs_goes : false = Rows.realizePairsUptoRow.goesBy Tryz.prog := by kernel_rfl
theorem realizePairs_proved : Rows.RealizePairsUptoCardSaid :=
  Claim7.holds_tied_plain_at .later [] _ _ _ _ realizePairs_holds (fun _ h => by cases h) realizePairs_text (fun _ h => by cases h) realizePairsUpto_row_tie rfl ⟨rfl, rfl⟩ realizePairs_main rfl
    (fun f fn hf hfn => by
      obtain rfl : f = 6 := Option.some.inj (realizePairs_named.symm.trans hf) |>.symm
      obtain rfl : fn = Tryz.f6 := (Option.some.inj (Tryz.func6.symm.trans hfn)).symm
      exact ⟨realizePairs_looks, fun j t ht => by
        rw [Tryz.params6] at ht
        have hm : t ∈ [27, 3, 47] := by simpa using Array.mem_of_getElem? ht
        exact (show Tryz.prog.wantsStandIn t = false by simpa using List.all_eq_true.1 realizePairs_stand t hm)⟩)
    realizePairs_goes
end Go.Proofs.YtajglkbckhgboaaGreatDoor
