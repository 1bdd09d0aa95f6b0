/- The last step: each law of project as a row and as a card, where what it reads is of bulk at most 1048576: true, and the arguments read as before. Conditions: the row's own (the tables that it lists, as the program's text lays them, which the card ties). -/
import Derived.Test.YtibmnldhlgcnjaaGreatDoorDM10
import Derived.Test.YtibmnldhlgcnjaaGreatDoorCards
import Derived.Test.YtibmnldhlgcnjaaGreatDoorTie
import Derived.Deep.DeepHandedRow
import Derived.Lib.LaidTab
import Derived.Shelf.Vars
import Derived.Lay
import Derived.LaidMore
import Derived.SevenTiedAt
import Derived.Stop.Joined
import Derived.Handed
set_option linter.all false
set_option maxRecDepth 100000
set_option maxHeartbeats 8000000

namespace Go.Proofs.YtibmnldhlgcnjaaGreatDoor
open Go.ChangeShapes Go.WideShapes Go.ChangeAt Go.RowKit Go.VC
set_option maxRecDepth 100000
theorem own : ownKnob Tryz.prog.godebug = none := by kernel_rfl
theorem laid_out : laidOutB Tryz.prog = true := by kernel_rfl
theorem maps_rowed : mapsRowed Tryz.prog = true := by kernel_rfl
theorem and2 {a b : Bool} (h1 : a = true) (h2 : b = true) : (a && b) = true := by rw [h1, h2]; rfl
theorem gTab : Tryz.prog.globalNamed "math/bits.deBruijn64tab" = some 0 := by kernel_rfl
theorem gTabType : (Tryz.prog.globals[0]?).map (·.type) = some 390 := by kernel_rfl
theorem cells304 : Tryz.prog.cellsOf 390 = 64 := by kernel_rfl
theorem maxLen_cell {W : World} (h : W.ShapedOpen Tryz.prog) : ∃ m : Int, W.cell? ⟨1, 0, none⟩ = some (.int .i64 m) :=
  cell_of_shapedOpen_int (P := Tryz.prog) (g := 1) (t := 3) (zero := #[.int .i64 0]) h (of_decide_eq_true (by kernel_rfl)) (by kernel_rfl) rfl (by kernel_rfl) (by kernel_rfl) Tryz.underlying3
theorem elem_u8 : ∃ e, Tryz.prog.underlying 390 = some (.array 64 e) ∧ Tryz.prog.underlying e = some (.int .u8) ∧ Tryz.prog.cellsOf e = 1 := ⟨5, Tryz.underlying390, Tryz.underlying5, by kernel_rfl⟩
theorem row_gx {W : World} (hL : laidMetH Tryz.prog Rows.certifySoundUptoRow.laid W) (hS : W.ShapedOpen Tryz.prog) : Gx W.heap := by
  obtain ⟨e, h1, h2, h3⟩ := elem_u8
  have hT : Lib.TabIs Tryz.prog W "math/bits.deBruijn64tab" .u8 (Lib.deBruijn64tab.map fun n : Nat => (n : Int)) := Lib.tabIs_of_head (rest := Rows.certifySoundUptoRow.laid.tail) gTab gTabType h1 h2 h3 cells304 hL
  refine ⟨maxLen_cell hS, fun j hj => ?_⟩
  have := hT.cell gTab j (by rw [List.length_map]; exact hj)
  have e2 : (Lib.deBruijn64tab.map fun n : Nat => (n : Int)).getD j 0 = ((Lib.deBruijn64tab.getD j 0 : Nat) : Int) := by
    rw [List.getD_eq_getElem?_getD, List.getD_eq_getElem?_getD, List.getElem?_map]
    cases Lib.deBruijn64tab[j]? <;> rfl
  rw [e2] at this
  exact this
noncomputable def certifySound_world (os : Os) : World := World.laidAll Tryz.prog os Rows.certifySoundUptoRow.laid
theorem certifySound_reads (os : Os) {H : Type} (enc : TypeId × Value → H) : ∃ places, DataW.whole enc Tryz.prog ((certifySound_world os).forCall (fun _ _ => 0) ⟨#[], #[.slice none 0 0, .agg #[.int .i64 0, .slice none 0 0], .slice none 0 0], []⟩).memory Tryz.f7.params.toList Rows.certifySoundSpec.vars false #[.slice none 0 0, .agg #[.int .i64 0, .slice none 0 0], .slice none 0 0].toList 8 = some ([.nil, .agg [.lit (.int .i64 0), .nil], .nil], [], places) :=
  ⟨[], by kernel_rfl⟩
theorem certifySound_lifted (os : Os) (started : os.Started) (H : Type) (enc : TypeId × Value → H) (F : Stop.Interp) :
    ReturnsInHanded {} Tryz.checked os 7 .any ((Rows.OpenSpec.upto Rows.certifySoundSpec).preRow enc Tryz.prog Tryz.f7 Rows.certifySoundUptoRow.domain false Rows.certifySoundUptoRow.laid) (((Rows.OpenSpec.upto Rows.certifySoundSpec).at F).post enc Tryz.prog Tryz.f7 false true false false) := by
  obtain ⟨places, hx⟩ := certifySound_reads os enc
  refine returnsInHanded_of_row (C := Tryz.checked) (s := Rows.OpenSpec.upto Rows.certifySoundSpec) own started (by kernel_rfl) Tryz.func7
    (witness_row_at (enc := enc) (C := Tryz.checked) false (certifySound_world os) #[.slice none 0 0, .agg #[.int .i64 0, .slice none 0 0], .slice none 0 0] (World.laidAll_os _ _ _) (by kernel_rfl) (by kernel_rfl) (by kernel_rfl)
      (OpenSpec.preRow_of_cond 8 hx (by kernel_rfl) (fun k hk => by cases hk; kernel_rfl) (by kernel_rfl) (by rw [MakeChecks.laidMetH_plain _ _ _ (by kernel_rfl)]; exact laidMet_laidAll _ (by kernel_rfl) (by kernel_rfl)))) ?_
  intro W base args ds gs before hval0 hW _ hcond _ hL hS _
  have hval : ∀ (j : Nat) t v, Tryz.f7.params[j]? = some t → args[j]? = some v → Value.okWide Tryz.prog W .any base t v := hval0
  have hbulk : Rows.uptoBulkAll (ds ++ gs) ≤ 1048576 := of_decide_eq_true (hcond _ rfl)
  have hx0 : Gx W.heap := row_gx hL hS
  clear hcond hL hS hx
  have hW' := hW
  obtain ⟨p, q, hA0, hV, rfl, _, _⟩ := hW
  have hA : DataW.TrodAll enc Tryz.prog W 0 (fun _ => true) true Tryz.f7.params.toList args.toList ds p := hA0
  rw [Tryz.params7] at hA hval
  obtain ⟨v0, vs0, d0, ds0, p0, q0, hargs, rfl, rfl, h0, r0⟩ := trodAll_cons hA
  obtain ⟨v1, vs1, d1, ds1, p1, q1, rfl, rfl, rfl, h1, r1⟩ := trodAll_cons r0
  obtain ⟨v2, vs2, d2, ds2, p2, q2, rfl, rfl, rfl, h2, r2⟩ := trodAll_cons r1
  obtain ⟨rfl, rfl, rfl⟩ := trodAll_nil r2
  obtain rfl : args = #[v0, v1, v2] := by cases args; simp_all
  obtain ⟨rfl, rfl⟩ := trodVars_none hV
  have m0 : Rdb Tryz.prog W 22 v0.cells.toList := rdb_of_trod h0 (Nat.le_trans (bulk_part (by simp)) hbulk)
  obtain ⟨la0, ln0, lc0, rfl⟩ := okWide_slice Tryz.underlying22 (hval 0 22 v0 rfl rfl)
  obtain ⟨s0, L0, e0, hs0⟩ := open_sys (show Rdb Tryz.prog W 22 [_] from m0)
  obtain ⟨rfl, rfl, rfl⟩ : la0 = s0.a ∧ ln0 = s0.n ∧ lc0 = s0.c := by injection e0 with e1 e2 e3; exact ⟨e1, e2, e3⟩
  have m1 : Rdb Tryz.prog W 37 v1.cells.toList := rdb_of_trod h1 (Nat.le_trans (bulk_part (by simp)) hbulk)
  obtain ⟨⟨cs1⟩, rfl⟩ := okWide_agg (by kernel_rfl) (hval 1 37 v1 rfl rfl)
  obtain ⟨k1, c1, C1, e1, hc1⟩ := open_cert m1
  obtain rfl : cs1 = _ := e1
  have m2 : Rdb Tryz.prog W 54 v2.cells.toList := rdb_of_trod h2 (Nat.le_trans (bulk_part (by simp)) hbulk)
  obtain ⟨la2, ln2, lc2, rfl⟩ := okWide_slice Tryz.underlying54 (hval 2 54 v2 rfl rfl)
  obtain ⟨s2, L2, e2, hs2⟩ := open_u8s (show Rdb Tryz.prog W 54 [_] from m2)
  obtain ⟨rfl, rfl, rfl⟩ : la2 = s2.a ∧ ln2 = s2.n ∧ lc2 = s2.c := by injection e2 with e1 e2 e3; exact ⟨e1, e2, e3⟩
  clear hA0 hval0
  simp only [List.append_nil] at hW'
  refine (certifySound7 L0 s0 C1 c1 k1 L2 s2 W.heap hx0 hs0 hc1 hs2.1 hs2.2).calls.mono ?_
  rintro e W' ⟨v, rfl, ⟨rfl, hE⟩, hos, htape, hout⟩
  exact ⟨_, rfl, post_law laid_out (by rw [Tryz.params7]; exact of_decide_eq_true (by kernel_rfl)) rfl (by simp at hW' ⊢; exact hW') rfl rfl rfl rfl Tryz.underlying4 hE hos htape hout⟩
theorem certifySound_c10 : (Rows.certifySoundUptoRow.inPlace == Tryz.prog.inPlace 7) = true := by kernel_rfl
theorem certifySound_c11 : (Rows.certifySoundUptoRow.unfollowed == Tryz.prog.unfollowed 7) = true := by kernel_rfl
theorem certifySound_c12 : (Rows.certifySoundUptoRow.recurses == Tryz.prog.recurses 7) = true := by kernel_rfl
theorem certifySound_c13 : (Rows.certifySoundUptoRow.named == Tryz.prog.varsNamed 7) = true := by kernel_rfl
theorem certifySound_c23 : (Rows.certifySoundUptoRow.plainKeys == Tryz.prog.plainKeys) = true := by kernel_rfl
theorem certifySound_c25 : Tryz.prog.stopsHeard = true := by kernel_rfl
theorem certifySound_c26 : Tryz.prog.mayEnter = true := by kernel_rfl
theorem certifySound_c27 : (Rows.certifySoundUptoRow.lifted == Tryz.prog.liftsFinal) = true := by kernel_rfl
theorem certifySound_c28 : (Tryz.prog.make == some Rows.certifySoundUptoRow.make) = true := by kernel_rfl
theorem certifySound_closed : joinedFacts Tryz.prog 7 Tryz.f7 (Rows.OpenSpec.upto Rows.certifySoundSpec).bare Rows.certifySoundUptoRow = true := by
  unfold joinedFacts
  exact and2 (and2 (and2 (and2 (and2 (and2 (and2 (and2 (and2 (and2 (and2 (and2 (and2 (and2 (and2 (and2 (and2 (and2 (and2 (and2 (and2 (and2 (and2 (and2 (and2 (and2 (and2 (and2 (and2 (and2 (and2 (by kernel_rfl) laid_out) maps_rowed) (by kernel_rfl)) (by kernel_rfl)) (by kernel_rfl)) (by kernel_rfl)) (by kernel_rfl)) (by kernel_rfl)) certifySound_c10) certifySound_c11) certifySound_c12) certifySound_c13) (by kernel_rfl)) (by kernel_rfl)) (by kernel_rfl)) (by kernel_rfl)) (by kernel_rfl)) (by kernel_rfl)) (by kernel_rfl)) (by kernel_rfl)) (by kernel_rfl)) certifySound_c23) (by kernel_rfl)) certifySound_c25) certifySound_c26) certifySound_c27) certifySound_c28) (by kernel_rfl)) (by kernel_rfl)) (by kernel_rfl)) (by kernel_rfl)
theorem certifySound_named : Tryz.prog.funcNamed "farandole/farandolelaw29.CertifySound" = some 7 := by kernel_rfl
theorem certifySound_inst : Tryz.f7.isInstance Tryz.prog Rows.certifySoundUptoRow.origin Rows.certifySoundUptoRow.targs := of_decide_eq_true (by kernel_rfl)
theorem certifySound_wrap : Tryz.f7.isWrapper Tryz.prog Rows.certifySoundUptoRow.wrapper Rows.certifySoundUptoRow.mainSum := by unfold Func.isWrapper; first | (rw [if_pos (by decide +kernel)]; kernel_rfl) | (rw [if_neg (by decide +kernel)]; exact ⟨rfl, rfl⟩)
theorem certifySound_holds : Rows.CertifySoundUptoSaid :=
  OpenClaim.holds_of_cond 7 Tryz.f7 rfl rfl rfl rfl rfl rfl rfl ⟨rfl, rfl, rfl, rfl, rfl⟩ rfl rfl rfl rfl rfl certifySound_named Tryz.func7 certifySound_closed certifySound_inst certifySound_wrap
    (fun os started H enc _ F => by rw [OpenClaim.pre_eq_preRow]; exact certifySound_lifted os started H enc F)
theorem certifySound_text : Rows.certifySoundUptoRow.wfByText (Rows.OpenSpec.upto Rows.certifySoundSpec) = true := by kernel_rfl
theorem certifySound_main : Tryz.prog.mainIs = some ((Rows.certifySoundUptoCard.stood.harness).1, (Rows.certifySoundUptoCard.stood.harness).2.toList) := by kernel_rfl
theorem certifySound_looks : false = Tryz.prog.looks [] := by kernel_rfl
theorem certifySound_stand : ([22, 37, 54].all fun u => !Tryz.prog.wantsStandIn u) = true := by kernel_rfl
theorem certifySound_goes : false = Rows.certifySoundUptoRow.goesBy Tryz.prog := by kernel_rfl
theorem certifySound_proved : Rows.CertifySoundUptoCardSaid :=
  Claim7.holds_tied_plain_at .later [] _ _ _ _ certifySound_holds (fun _ h => by cases h) certifySound_text (fun _ h => by cases h) certifySoundUpto_row_tie rfl ⟨rfl, rfl⟩ certifySound_main rfl
    (fun f fn hf hfn => by
      obtain rfl : f = 7 := Option.some.inj (certifySound_named.symm.trans hf) |>.symm
      obtain rfl : fn = Tryz.f7 := (Option.some.inj (Tryz.func7.symm.trans hfn)).symm
      exact ⟨certifySound_looks, fun j t ht => by
        rw [Tryz.params7] at ht
        have hm : t ∈ [22, 37, 54] := by simpa using Array.mem_of_getElem? ht
        exact (show Tryz.prog.wantsStandIn t = false by simpa using List.all_eq_true.1 certifySound_stand t hm)⟩)
    certifySound_goes
end Go.Proofs.YtibmnldhlgcnjaaGreatDoor
