/- The last step: each law of project as a row and as a card, where what it reads is of bulk at most 1048576: true, and the arguments read as before. Conditions: the row's own (the tables that it lists, as the program's text lays them, which the card ties). -/
import Derived.Test.YtajglkbckhgboaaGreatDoorBM09
import Derived.Test.YtajglkbckhgboaaGreatDoorCards
import Derived.Test.YtajglkbckhgboaaGreatDoorTie
import Derived.Deep.DeepHandedRow
import Derived.Lib.LaidTab
import Derived.Shelf.Vars
import Derived.Lay
import Derived.LaidMore
import Derived.SevenTiedAt
import Derived.Stop.Joined
import Derived.Handed
set_option linter.all false
set_option maxRecDepth 100000
set_option maxHeartbeats 8000000

namespace Go.Proofs.YtajglkbckhgboaaGreatDoor
open Go.ChangeShapes Go.WideShapes Go.ChangeAt Go.RowKit Go.VC
set_option maxRecDepth 100000
theorem own : ownKnob Tryz.prog.godebug = none := by kernel_rfl
theorem laid_out : laidOutB Tryz.prog = true := by kernel_rfl
theorem maps_rowed : mapsRowed Tryz.prog = true := by kernel_rfl
theorem and2 {a b : Bool} (h1 : a = true) (h2 : b = true) : (a && b) = true := by rw [h1, h2]; rfl
theorem gTab : Tryz.prog.globalNamed "math/bits.deBruijn64tab" = some 0 := by kernel_rfl
theorem gTabType : (Tryz.prog.globals[0]?).map (·.type) = some 383 := by kernel_rfl
theorem cells304 : Tryz.prog.cellsOf 383 = 64 := by kernel_rfl
theorem maxLen_cell {W : World} (h : W.ShapedOpen Tryz.prog) : ∃ m : Int, W.cell? ⟨1, 0, none⟩ = some (.int .i64 m) :=
  cell_of_shapedOpen_int (P := Tryz.prog) (g := 1) (t := 3) (zero := #[.int .i64 0]) h (of_decide_eq_true (by kernel_rfl)) (by kernel_rfl) rfl (by kernel_rfl) (by kernel_rfl) Tryz.underlying3
theorem row_gx {W : World} (hS : W.ShapedOpen Tryz.prog) : Gm W.heap := ⟨maxLen_cell hS⟩
noncomputable def realizeAll_world (os : Os) : World := World.laidAll Tryz.prog os Rows.realizeAllUptoRow.laid
theorem realizeAll_reads (os : Os) {H : Type} (enc : TypeId × Value → H) : ∃ places, DataW.whole enc Tryz.prog ((realizeAll_world os).forCall (fun _ _ => 0) ⟨#[], #[.agg #[.string ⟨#[]⟩, .slice none 0 0, .slice none 0 0, .int .i64 0, .int .i64 0, .int .i64 0, .slice none 0 0, .slice none 0 0]], []⟩).memory Tryz.f5.params.toList Rows.realizeAllSpec.vars false #[.agg #[.string ⟨#[]⟩, .slice none 0 0, .slice none 0 0, .int .i64 0, .int .i64 0, .int .i64 0, .slice none 0 0, .slice none 0 0]].toList 8 = some ([.agg [.lit (.string []), .nil, .nil, .lit (.int .i64 0), .lit (.int .i64 0), .lit (.int .i64 0), .nil, .nil]], [], places) :=
  ⟨[], by kernel_rfl⟩
theorem realizeAll_lifted (os : Os) (started : os.Started) (H : Type) (enc : TypeId × Value → H) (F : Stop.Interp) :
    ReturnsInHanded {} Tryz.checked os 5 .any ((Rows.OpenSpec.upto Rows.realizeAllSpec).preRow enc Tryz.prog Tryz.f5 Rows.realizeAllUptoRow.domain false Rows.realizeAllUptoRow.laid) (((Rows.OpenSpec.upto Rows.realizeAllSpec).at F).post enc Tryz.prog Tryz.f5 false true false false) := by
  obtain ⟨places, hx⟩ := realizeAll_reads os enc
  refine returnsInHanded_of_row (C := Tryz.checked) (s := Rows.OpenSpec.upto Rows.realizeAllSpec) own started (by kernel_rfl) Tryz.func5
    (witness_row_at (enc := enc) (C := Tryz.checked) false (realizeAll_world os) #[.agg #[.string ⟨#[]⟩, .slice none 0 0, .slice none 0 0, .int .i64 0, .int .i64 0, .int .i64 0, .slice none 0 0, .slice none 0 0]] (World.laidAll_os _ _ _) (by kernel_rfl) (by kernel_rfl) (by kernel_rfl)
      (OpenSpec.preRow_of_cond 8 hx (by kernel_rfl) (fun k hk => by cases hk; kernel_rfl) (by kernel_rfl) (by rw [MakeChecks.laidMetH_plain _ _ _ (by kernel_rfl)]; exact laidMet_laidAll _ (by kernel_rfl) (by kernel_rfl)))) ?_
  intro W base args ds gs before hval0 hW _ hcond _ hL hS _
  have hval : ∀ (j : Nat) t v, Tryz.f5.params[j]? = some t → args[j]? = some v → Value.okWide Tryz.prog W .any base t v := hval0
  have hbulk : Rows.uptoBulkAll (ds ++ gs) ≤ 1048576 := of_decide_eq_true (hcond _ rfl)
  have hx0 : Gm W.heap := row_gx hS
  clear hcond hL hS hx
  have hW' := hW
  obtain ⟨p, q, hA0, hV, rfl, _, _⟩ := hW
  have hA : DataW.TrodAll enc Tryz.prog W 0 (fun _ => true) true Tryz.f5.params.toList args.toList ds p := hA0
  rw [Tryz.params5] at hA hval
  obtain ⟨v0, vs0, d0, ds0, p0, q0, hargs, rfl, rfl, h0, r0⟩ := trodAll_cons hA
  obtain ⟨rfl, rfl, rfl⟩ := trodAll_nil r0
  obtain rfl : args = #[v0] := by cases args; simp_all
  obtain ⟨rfl, rfl⟩ := trodVars_none hV
  have m0 : Rdb Tryz.prog W 27 v0.cells.toList := rdb_of_trod h0 (Nat.le_trans (bulk_part (by simp)) hbulk)
  obtain ⟨⟨cs0⟩, rfl⟩ := okWide_agg (by kernel_rfl) (hval 0 27 v0 rfl rfl)
  obtain ⟨g0, e0, hg0, hn0⟩ := open_global m0
  obtain rfl : cs0 = _ := e0
  clear hA0 hval0
  simp only [List.append_nil] at hW'
  refine (realizeAll g0 W.heap hg0 hx0 hn0).calls.mono ?_
  rintro e W' ⟨v, rfl, ⟨rfl, hE⟩, hos, htape, hout⟩
  exact ⟨_, rfl, post_law laid_out (by rw [Tryz.params5]; exact of_decide_eq_true (by kernel_rfl)) rfl (by simp at hW' ⊢; exact hW') rfl rfl rfl rfl Tryz.underlying4 hE hos htape hout⟩
theorem realizeAll_c10 : (Rows.realizeAllUptoRow.inPlace == Tryz.prog.inPlace 5) = true := by kernel_rfl
theorem realizeAll_c11 : (Rows.realizeAllUptoRow.unfollowed == Tryz.prog.unfollowed 5) = true := by kernel_rfl
theorem realizeAll_c12 : (Rows.realizeAllUptoRow.recurses == Tryz.prog.recurses 5) = true := by kernel_rfl
theorem realizeAll_c13 : (Rows.realizeAllUptoRow.named == Tryz.prog.varsNamed 5) = true := by kernel_rfl
theorem realizeAll_c23 : (Rows.realizeAllUptoRow.plainKeys == Tryz.prog.plainKeys) = true := by kernel_rfl
theorem realizeAll_c25 : Tryz.prog.stopsHeard = true := by kernel_rfl
theorem realizeAll_c26 : Tryz.prog.mayEnter = true := by kernel_rfl
theorem realizeAll_c27 : (Rows.realizeAllUptoRow.lifted == Tryz.prog.liftsFinal) = true := by kernel_rfl
theorem realizeAll_c28 : (Tryz.prog.make == some Rows.realizeAllUptoRow.make) = true := by kernel_rfl
theorem realizeAll_closed : joinedFacts Tryz.prog 5 Tryz.f5 (Rows.OpenSpec.upto Rows.realizeAllSpec).bare Rows.realizeAllUptoRow = true := by
  unfold joinedFacts
  exact and2 (and2 (and2 (and2 (and2 (and2 (and2 (and2 (and2 (and2 (and2 (and2 (and2 (and2 (and2 (and2 (and2 (and2 (and2 (and2 (and2 (and2 (and2 (and2 (and2 (and2 (and2 (and2 (and2 (and2 (and2 (by kernel_rfl) laid_out) maps_rowed) (by kernel_rfl)) (by kernel_rfl)) (by kernel_rfl)) (by kernel_rfl)) (by kernel_rfl)) (by kernel_rfl)) realizeAll_c10) realizeAll_c11) realizeAll_c12) realizeAll_c13) (by kernel_rfl)) (by kernel_rfl)) (by kernel_rfl)) (by kernel_rfl)) (by kernel_rfl)) (by kernel_rfl)) (by kernel_rfl)) (by kernel_rfl)) (by kernel_rfl)) realizeAll_c23) (by kernel_rfl)) realizeAll_c25) realizeAll_c26) realizeAll_c27) realizeAll_c28) (by kernel_rfl)) (by kernel_rfl)) (by kernel_rfl)) (by kernel_rfl)
theorem realizeAll_named : Tryz.prog.funcNamed "farandole/farandolelaw23.RealizeAll" = some 5 := by kernel_rfl
theorem realizeAll_inst : Tryz.f5.isInstance Tryz.prog Rows.realizeAllUptoRow.origin Rows.realizeAllUptoRow.targs := of_decide_eq_true (by kernel_rfl)
theorem realizeAll_wrap : Tryz.f5.isWrapper Tryz.prog Rows.realizeAllUptoRow.wrapper Rows.realizeAllUptoRow.mainSum := by unfold Func.isWrapper; first | (rw [if_pos (by decide +kernel)]; kernel_rfl) | (rw [if_neg (by decide +kernel)]; exact ⟨rfl, rfl⟩)
theorem realizeAll_holds : Rows.RealizeAllUptoSaid :=
  OpenClaim.holds_of_cond 5 Tryz.f5 rfl rfl rfl rfl rfl rfl rfl ⟨rfl, rfl, rfl, rfl, rfl⟩ rfl rfl rfl rfl rfl realizeAll_named Tryz.func5 realizeAll_closed realizeAll_inst realizeAll_wrap
    (fun os started H enc _ F => by rw [OpenClaim.pre_eq_preRow]; exact realizeAll_lifted os started H enc F)
theorem realizeAll_text : Rows.realizeAllUptoRow.wfByText (Rows.OpenSpec.upto Rows.realizeAllSpec) = true := by kernel_rfl
theorem realizeAll_main : Tryz.prog.mainIs = some ((Rows.realizeAllUptoCard.stood.harness).1, (Rows.realizeAllUptoCard.stood.harness).2.toList) := by kernel_rfl
theorem realizeAll_looks : false = Tryz.prog.looks [] := by kernel_rfl
theorem realizeAll_stand : ([27].all fun u => !Tryz.prog.wantsStandIn u) = true := by kernel_rfl
theorem realizeAll_goes : false = Rows.realizeAllUptoRow.goesBy Tryz.prog := by kernel_rfl
theorem realizeAll_proved : Rows.RealizeAllUptoCardSaid :=
  Claim7.holds_tied_plain_at .later [] _ _ _ _ realizeAll_holds (fun _ h => by cases h) realizeAll_text (fun _ h => by cases h) realizeAllUpto_row_tie rfl ⟨rfl, rfl⟩ realizeAll_main rfl
    (fun f fn hf hfn => by
      obtain rfl : f = 5 := Option.some.inj (realizeAll_named.symm.trans hf) |>.symm
      obtain rfl : fn = Tryz.f5 := (Option.some.inj (Tryz.func5.symm.trans hfn)).symm
      exact ⟨realizeAll_looks, fun j t ht => by
        rw [Tryz.params5] at ht
        have hm : t ∈ [27] := by simpa using Array.mem_of_getElem? ht
        exact (show Tryz.prog.wantsStandIn t = false by simpa using List.all_eq_true.1 realizeAll_stand t hm)⟩)
    realizeAll_goes
end Go.Proofs.YtajglkbckhgboaaGreatDoor
