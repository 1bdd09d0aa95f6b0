/- The last step: each law of chart as a row and as a card: true at every input, and the arguments read as before. Conditions: the row's own (the two tables of utf8 as the program's text lays them, which the card ties). -/
import Derived.Test.YtcaahhppapnbhaaDoorChArgs
import Derived.Test.YtcaahhppapnbhaaDoorVcEnd
import Derived.Test.YtcaahhppapnbhaaDoorRows
import Derived.Test.YtcaahhppapnbhaaDoorCards
import Derived.Test.YtcaahhppapnbhaaDoorTie
import Derived.LaidMore
import Derived.Lay
import Derived.SevenTiedAt
import Derived.Stop.Joined
import Derived.Handed
set_option linter.unusedVariables false
set_option linter.unusedSimpArgs false

namespace Go.Proofs.YtcaahhppapnbhaaDoor
open Go.ChangeShapes Go.WideShapes Go.ChangeAt Go.RowKit Go.VC
set_option maxRecDepth 100000
theorem own : ownKnob Tryd.prog.godebug = none := by kernel_rfl
theorem laid_out : laidOutB Tryd.prog = true := by kernel_rfl
set_option maxRecDepth 100000 in
theorem chartExchange_lifted (os : Os) (started : os.Started) (H : Type) (enc : TypeId × Value → H) :
    ReturnsInHanded {} Tryd.checked os 7 .any (fun w args => (Rows.chartExchangeSpec.pre enc Tryd.prog Tryd.f7 Rows.chartExchangeRow.domain false w args ∧ laidMetH Tryd.prog Rows.chartExchangeRow.laid w) ∧ sizedMet enc Tryd.prog Tryd.f7 (OpenSpec.ofChange Rows.chartExchangeSpec) false w args)
      (Rows.chartExchangeSpec.post enc Tryd.prog Tryd.f7 false true false false) := by
  refine returnsInHanded_of_change_and (C := Tryd.checked) (X := fun w _ => laidMetH Tryd.prog Rows.chartExchangeRow.laid w) (fun _ _ _ hh h => h.of_heap hh) own started (by kernel_rfl) Tryd.func7
    (ChangeSpec.witness_shaped (enc := enc) (C := Tryd.checked) (os := os) (X := fun w _ => laidMetH Tryd.prog Rows.chartExchangeRow.laid w) false (World.laidAll Tryd.prog os Rows.chartExchangeRow.laid) #[.agg #[.string ⟨#[]⟩, .slice none 0 0, .slice none 0 0, .int .i64 0, .int .i64 0, .int .i64 0, .slice none 0 0, .slice none 0 0], .slice none 0 0, .agg #[.int .u8 0, .int .u8 0]] 8 (World.laidAll_os _ _ _)
      (World.shaped_of_ZipB (by kernel_rfl) (by kernel_rfl)) (by kernel_rfl) (by kernel_rfl) (by kernel_rfl)
      (by rw [MakeChecks.laidMetH_plain _ _ _ (by kernel_rfl)]; exact laidMet_laidAll _ (by kernel_rfl) (by kernel_rfl))) ?_
  intro W base args ds gs before hval0 hW _ hsz _ _
  have hval : ∀ (j : Nat) t v, Tryd.f7.params[j]? = some t → args[j]? = some v → Value.okWide Tryd.prog W .any base t v := hval0
  have hW' := hW
  obtain ⟨p, q, hA0, hV, rfl, _, _⟩ := hW
  have hA : DataW.TrodAll enc Tryd.prog W 0 (fun _ => true) true Tryd.f7.params.toList args.toList ds p := hA0
  have hwt : ∀ k ∈ DataW.weightsEach Tryd.prog (Tryd.f7.params.toList ++ Rows.chartExchangeSpec.plain.varTypes Tryd.prog) (ds ++ gs), k ≤ reachBytes := fun k hk => of_decide_eq_true (List.all_eq_true.1 hsz k hk)
  rw [Tryd.params7] at hA hval hwt
  obtain ⟨v0, vs0, d0, ds0, p0, q0, hargs, rfl, rfl, h0, r0⟩ := trodAll_cons hA
  obtain ⟨v1, vs1, d1, ds1, p1, q1, rfl, rfl, rfl, h1, r1⟩ := trodAll_cons r0
  obtain ⟨v2, vs2, d2, ds2, p2, q2, rfl, rfl, rfl, h2, r2⟩ := trodAll_cons r1
  obtain ⟨rfl, rfl, rfl⟩ := trodAll_nil r2
  obtain rfl : args = #[v0, v1, v2] := by cases args; simp_all
  obtain ⟨rfl, rfl⟩ := trodVars_none hV
  have m0 : Rdw Tryd.prog W 27 v0.cells.toList := rdw_of_trod h0 fun k hk => hwt k (weights_mem (i := 0) rfl rfl k hk)
  obtain ⟨⟨cs0⟩, rfl⟩ := okWide_agg (by kernel_rfl) (hval 0 27 v0 rfl rfl)
  obtain ⟨g0, rs0, dl0, e0, hg0⟩ := open_global m0
  obtain rfl : cs0 = _ := e0
  have m1 : Rdw Tryd.prog W 28 v1.cells.toList := rdw_of_trod h1 fun k hk => hwt k (weights_mem (i := 1) rfl rfl k hk)
  obtain ⟨la1, ln1, lc1, rfl⟩ := okWide_slice Tryd.underlying28 (hval 1 28 v1 rfl rfl)
  obtain ⟨s1, w1, e1, hl1, hna1, hr1⟩ := open_word m1
  obtain ⟨rfl, rfl, rfl⟩ : la1 = s1.a ∧ ln1 = s1.n ∧ lc1 = s1.c := by injection e1 with e _; injection e with e1 e2 e3; exact ⟨e1, e2, e3⟩
  have m2 : Rdw Tryd.prog W 41 v2.cells.toList := rdw_of_trod h2 fun k hk => hwt k (weights_mem (i := 2) rfl rfl k hk)
  obtain ⟨⟨cs2⟩, rfl⟩ := okWide_agg (by kernel_rfl) (hval 2 41 v2 rfl rfl)
  obtain ⟨a2, b2, e2, ha2, hb2⟩ := open_two m2
  obtain rfl : cs2 = _ := e2
  clear hA0 hval0
  simp only [List.append_nil] at hW'
  refine (law7 g0 rs0 dl0 w1 hl1 s1 hna1 a2 b2 ha2 hb2 W.heap hg0 hr1).calls.mono ?_
  rintro e W' ⟨v, rfl, ⟨rfl, hE⟩, hos, htape, hout⟩
  exact ⟨_, rfl, post_law laid_out (by rw [Tryd.params7]; exact of_decide_eq_true (by kernel_rfl)) rfl (by simpa using hW') rfl rfl rfl rfl Tryd.underlying4 hE hos htape hout⟩
theorem chartExchange_holds : Rows.ChartExchangeSaid :=
  OpenClaim.holds_of_wide 7 Tryd.f7 rfl rfl rfl rfl rfl rfl rfl ⟨rfl, rfl, rfl, rfl, rfl⟩ rfl rfl rfl rfl rfl (by kernel_rfl) Tryd.func7 (by kernel_rfl)
    (of_decide_eq_true (by kernel_rfl)) (by unfold Func.isWrapper; first | (rw [if_pos (by decide +kernel)]; kernel_rfl) | (rw [if_neg (by decide +kernel)]; exact ⟨rfl, rfl⟩))
    (fun os started H enc _ => chartExchange_lifted os started H enc)
theorem chartExchange_proved : Rows.ChartExchangeCardSaid :=
  Claim7.holds_tied_plain_at .later [] [.data, .pinned] true (true, "a739794946d7b5a6962d9dbc4c35affe46b074dfd0d7686d04893730157b1c59") false chartExchange_holds (fun _ h => by cases h) (by kernel_rfl) (fun _ h => by cases h) chartExchange_row_tie rfl ⟨rfl, rfl⟩ (by kernel_rfl) rfl
    (fun f fn hf hfn => by
      obtain rfl : f = 7 := Option.some.inj ((show Tryd.prog.funcNamed "farandole/farandolelaw42.ChartExchange" = some 7 by kernel_rfl).symm.trans hf) |>.symm
      obtain rfl : fn = Tryd.f7 := (Option.some.inj (Tryd.func7.symm.trans hfn)).symm
      exact ⟨by kernel_rfl, fun j t ht => by
        rw [Tryd.params7] at ht
        have hm : t ∈ [27, 28, 41] := by simpa using Array.mem_of_getElem? ht
        have hall : ([27, 28, 41].all fun u => !Tryd.prog.wantsStandIn u) = true := by kernel_rfl
        exact (show Tryd.prog.wantsStandIn t = false by simpa using List.all_eq_true.1 hall t hm)⟩)
    (by kernel_rfl)
end Go.Proofs.YtcaahhppapnbhaaDoor
