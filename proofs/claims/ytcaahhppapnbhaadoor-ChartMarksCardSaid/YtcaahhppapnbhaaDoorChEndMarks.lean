/- The last step: each law of chart as a row and as a card: true at every input, and the arguments read as before. Conditions: the row's own (the two tables of utf8 as the program's text lays them, which the card ties). -/
import Derived.Test.YtcaahhppapnbhaaDoorChArgs
import Derived.Test.YtcaahhppapnbhaaDoorVcEnd
import Derived.Test.YtcaahhppapnbhaaDoorRows
import Derived.Test.YtcaahhppapnbhaaDoorCards
import Derived.Test.YtcaahhppapnbhaaDoorTie
import Derived.LaidMore
import Derived.Lay
import Derived.SevenTiedAt
import Derived.Stop.Joined
import Derived.Handed
set_option linter.unusedVariables false
set_option linter.unusedSimpArgs false

namespace Go.Proofs.YtcaahhppapnbhaaDoor
open Go.ChangeShapes Go.WideShapes Go.ChangeAt Go.RowKit Go.VC
set_option maxRecDepth 100000
theorem own : ownKnob Tryd.prog.godebug = none := by kernel_rfl
theorem laid_out : laidOutB Tryd.prog = true := by kernel_rfl
set_option maxRecDepth 100000 in
theorem chartMarks_lifted (os : Os) (started : os.Started) (H : Type) (enc : TypeId × Value → H) :
    ReturnsInHanded {} Tryd.checked os 8 .any (fun w args => (Rows.chartMarksSpec.pre enc Tryd.prog Tryd.f8 Rows.chartMarksRow.domain false w args ∧ laidMetH Tryd.prog Rows.chartMarksRow.laid w) ∧ sizedMet enc Tryd.prog Tryd.f8 (OpenSpec.ofChange Rows.chartMarksSpec) false w args)
      (Rows.chartMarksSpec.post enc Tryd.prog Tryd.f8 false true false false) := by
  refine returnsInHanded_of_change_and (C := Tryd.checked) (X := fun w _ => laidMetH Tryd.prog Rows.chartMarksRow.laid w) (fun _ _ _ hh h => h.of_heap hh) own started (by kernel_rfl) Tryd.func8
    (ChangeSpec.witness_shaped (enc := enc) (C := Tryd.checked) (os := os) (X := fun w _ => laidMetH Tryd.prog Rows.chartMarksRow.laid w) false (World.laidAll Tryd.prog os Rows.chartMarksRow.laid) #[.agg #[.string ⟨#[]⟩, .slice none 0 0, .slice none 0 0, .int .i64 0, .int .i64 0, .int .i64 0, .slice none 0 0, .slice none 0 0], .slice none 0 0] 8 (World.laidAll_os _ _ _)
      (World.shaped_of_ZipB (by kernel_rfl) (by kernel_rfl)) (by kernel_rfl) (by kernel_rfl) (by kernel_rfl)
      (by rw [MakeChecks.laidMetH_plain _ _ _ (by kernel_rfl)]; exact laidMet_laidAll _ (by kernel_rfl) (by kernel_rfl))) ?_
  intro W base args ds gs before hval0 hW _ hsz _ _
  have hval : ∀ (j : Nat) t v, Tryd.f8.params[j]? = some t → args[j]? = some v → Value.okWide Tryd.prog W .any base t v := hval0
  have hW' := hW
  obtain ⟨p, q, hA0, hV, rfl, _, _⟩ := hW
  have hA : DataW.TrodAll enc Tryd.prog W 0 (fun _ => true) true Tryd.f8.params.toList args.toList ds p := hA0
  have hwt : ∀ k ∈ DataW.weightsEach Tryd.prog (Tryd.f8.params.toList ++ Rows.chartMarksSpec.plain.varTypes Tryd.prog) (ds ++ gs), k ≤ reachBytes := fun k hk => of_decide_eq_true (List.all_eq_true.1 hsz k hk)
  rw [Tryd.params8] at hA hval hwt
  obtain ⟨v0, vs0, d0, ds0, p0, q0, hargs, rfl, rfl, h0, r0⟩ := trodAll_cons hA
  obtain ⟨v1, vs1, d1, ds1, p1, q1, rfl, rfl, rfl, h1, r1⟩ := trodAll_cons r0
  obtain ⟨rfl, rfl, rfl⟩ := trodAll_nil r1
  obtain rfl : args = #[v0, v1] := by cases args; simp_all
  obtain ⟨rfl, rfl⟩ := trodVars_none hV
  have m0 : Rdw Tryd.prog W 27 v0.cells.toList := rdw_of_trod h0 fun k hk => hwt k (weights_mem (i := 0) rfl rfl k hk)
  obtain ⟨⟨cs0⟩, rfl⟩ := okWide_agg (by kernel_rfl) (hval 0 27 v0 rfl rfl)
  obtain ⟨g0, rs0, dl0, e0, hg0⟩ := open_global m0
  obtain rfl : cs0 = _ := e0
  have m1 : Rdw Tryd.prog W 28 v1.cells.toList := rdw_of_trod h1 fun k hk => hwt k (weights_mem (i := 1) rfl rfl k hk)
  obtain ⟨la1, ln1, lc1, rfl⟩ := okWide_slice Tryd.underlying28 (hval 1 28 v1 rfl rfl)
  obtain ⟨s1, w1, e1, hl1, hna1, hr1⟩ := open_word m1
  obtain ⟨rfl, rfl, rfl⟩ : la1 = s1.a ∧ ln1 = s1.n ∧ lc1 = s1.c := by injection e1 with e _; injection e with e1 e2 e3; exact ⟨e1, e2, e3⟩
  clear hA0 hval0
  simp only [List.append_nil] at hW'
  refine (law8 g0 rs0 dl0 w1 hl1 s1 W.heap hg0 hr1).calls.mono ?_
  rintro e W' ⟨v, rfl, ⟨rfl, hE⟩, hos, htape, hout⟩
  exact ⟨_, rfl, post_law laid_out (by rw [Tryd.params8]; exact of_decide_eq_true (by kernel_rfl)) rfl (by simpa using hW') rfl rfl rfl rfl Tryd.underlying4 hE hos htape hout⟩
theorem chartMarks_holds : Rows.ChartMarksSaid :=
  OpenClaim.holds_of_wide 8 Tryd.f8 rfl rfl rfl rfl rfl rfl rfl ⟨rfl, rfl, rfl, rfl, rfl⟩ rfl rfl rfl rfl rfl (by kernel_rfl) Tryd.func8 (by kernel_rfl)
    (of_decide_eq_true (by kernel_rfl)) (by unfold Func.isWrapper; first | (rw [if_pos (by decide +kernel)]; kernel_rfl) | (rw [if_neg (by decide +kernel)]; exact ⟨rfl, rfl⟩))
    (fun os started H enc _ => chartMarks_lifted os started H enc)
theorem chartMarks_proved : Rows.ChartMarksCardSaid :=
  Claim7.holds_tied_plain_at .later [] [.data, .pinned] true (true, "a739794946d7b5a6962d9dbc4c35affe46b074dfd0d7686d04893730157b1c59") false chartMarks_holds (fun _ h => by cases h) (by kernel_rfl) (fun _ h => by cases h) chartMarks_row_tie rfl ⟨rfl, rfl⟩ (by kernel_rfl) rfl
    (fun f fn hf hfn => by
      obtain rfl : f = 8 := Option.some.inj ((show Tryd.prog.funcNamed "farandole/farandolelaw42.ChartMarks" = some 8 by kernel_rfl).symm.trans hf) |>.symm
      obtain rfl : fn = Tryd.f8 := (Option.some.inj (Tryd.func8.symm.trans hfn)).symm
      exact ⟨by kernel_rfl, fun j t ht => by
        rw [Tryd.params8] at ht
        have hm : t ∈ [27, 28] := by simpa using Array.mem_of_getElem? ht
        have hall : ([27, 28].all fun u => !Tryd.prog.wantsStandIn u) = true := by kernel_rfl
        exact (show Tryd.prog.wantsStandIn t = false by simpa using List.all_eq_true.1 hall t hm)⟩)
    (by kernel_rfl)
end Go.Proofs.YtcaahhppapnbhaaDoor
