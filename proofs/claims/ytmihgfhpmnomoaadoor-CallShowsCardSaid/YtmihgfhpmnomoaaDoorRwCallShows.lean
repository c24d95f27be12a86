/- Calls: a row holds, and its card. Conditions: none. -/
import Derived.Test.YtmihgfhpmnomoaaDoorCaS
import Derived.Test.YtmihgfhpmnomoaaDoorCaRw
import Derived.Test.YtmihgfhpmnomoaaDoorCards
namespace Go.Proofs.YtmihgfhpmnomoaaDoor
open Go.Vc Go.ChangeShapes Go.WideShapes Go.ChangeAt Go.RowKit
set_option linter.unusedSimpArgs false
set_option linter.unusedVariables false
set_option maxRecDepth 100000


theorem callShows_lifted (os : Os) (started : os.Started) (H : Type) (enc : TypeId × Value → H) :
    ReturnsInHanded {} Tryd.checked os 4 .any (fun w args => (Rows.callShowsSpec.pre enc Tryd.prog Tryd.f4 Rows.callShowsRow.domain false w args ∧ laidMetH Tryd.prog Rows.callShowsRow.laid w) ∧ sizedMet enc Tryd.prog Tryd.f4 (OpenSpec.ofChange Rows.callShowsSpec) false w args) (Rows.callShowsSpec.post enc Tryd.prog Tryd.f4 false true false false) := by
  refine returnsInHanded_laid (C := Tryd.checked) (X := fun w _ => laidMetH Tryd.prog Rows.callShowsRow.laid w) (fun _ _ _ hh h => h.of_heap hh) ownK started (by kernel_rfl) Tryd.func4
    (ChangeSpec.witness_shaped (enc := enc) (C := Tryd.checked) (os := os) (X := fun w _ => laidMetH Tryd.prog Rows.callShowsRow.laid w) false (World.doorLaid Tryd.prog 82 os) #[.agg #[.int .i64 0, .int .i64 0, .int .i64 0, .string ⟨#[]⟩]] 8 rfl (World.shaped_of_RefB (by kernel_rfl) (by kernel_rfl)) (by kernel_rfl) (by kernel_rfl) (by kernel_rfl) (door_met os _)) ?_
  intro W base args ds gs before hval0 hW hcnd hsz0 hshape hlaid
  have hv := libV_of hshape hlaid
  have hsz : (DataW.weightsEach Tryd.prog (Tryd.f4.params.toList ++ Rows.callShowsSpec.plain.varTypes Tryd.prog) (ds ++ gs)).all (· ≤ reachBytes) = true := hsz0
  have hval : ∀ (j : Nat) t v, Tryd.f4.params[j]? = some t → args[j]? = some v → Value.okWide Tryd.prog W .any base t v := hval0
  have hW' := hW
  obtain ⟨p, q, hA0, hV, rfl, hfz, hnd⟩ := hW
  have hA : DataW.TrodAll enc Tryd.prog W 0 (fun _ => true) true Tryd.f4.params.toList args.toList ds p := hA0
  rw [Tryd.params4] at hA hval hsz
  obtain ⟨v0, d0, rfl, rfl, h0⟩ := trodAll_one hA
  obtain ⟨cs0, rfl, g0_0⟩ := arg_agg (P := Tryd.prog) (n := 40) (ls := [.int .i64, .int .i64, .int .i64, .str]) (by kernel_rfl) (by kernel_rfl) (by kernel_rfl) (hval 0 _ v0 rfl rfl) h0
  obtain ⟨_, _, rfl, ⟨op, rfl, wop⟩, g0_1⟩ := fits_cons g0_0
  obtain ⟨_, _, rfl, ⟨a, rfl, wa⟩, g0_2⟩ := fits_cons g0_1
  obtain ⟨_, _, rfl, ⟨b, rfl, wb⟩, g0_3⟩ := fits_cons g0_2
  obtain ⟨_, _, rfl, ⟨s, rfl, ws⟩, g0_4⟩ := fits_cons g0_3
  obtain rfl := fits_nil g0_4
  refine (CallShows_any hv (lit_i64 wa) (lit_i64 wb) s).mono fun e W' ⟨v, he, hv, hc⟩ => ?_
  subst he; subst hv
  exact ⟨_, rfl, post_true laidOut (by kernel_rfl) (tb := 4) (by kernel_rfl) (by kernel_rfl) rfl (fun ds hd => by
    match ds, hd with
    | [_], _ => rfl) hW' hc⟩
theorem callShows_holds : Rows.CallShowsSaid :=
  OpenClaim.holds_of_wide 4 Tryd.f4 rfl rfl rfl rfl rfl rfl rfl ⟨rfl, rfl, rfl, rfl, rfl⟩ rfl rfl rfl rfl rfl (by kernel_rfl) Tryd.func4 (by kernel_rfl)
    (of_decide_eq_true (by kernel_rfl)) (by unfold Func.isWrapper; first | (rw [if_pos (by decide +kernel)]; kernel_rfl) | (rw [if_neg (by decide +kernel)]; exact ⟨rfl, rfl⟩))
    (fun os started H enc _ => callShows_lifted os started H enc)

theorem callShows_card : Rows.CallShowsCardSaid :=
  Claim7.holds_tied_plain_at .later [] Rows.callShowsCard.laidKinds true Rows.callShowsCard.stood.harness true
    callShows_holds (fun _ h => by cases h) (by kernel_rfl) (fun _ h => by cases h) callShows_row_tie rfl ⟨rfl, rfl⟩ (by kernel_rfl) rfl
    (fun f fn hf hfn => by
      obtain rfl : f = 4 := Option.some.inj ((show Tryd.prog.funcNamed "purlin/purlinlaw21.CallShows" = some 4 by kernel_rfl).symm.trans hf) |>.symm
      obtain rfl : fn = Tryd.f4 := (Option.some.inj (Tryd.func4.symm.trans hfn)).symm
      exact ⟨by kernel_rfl, fun j t ht => by
        have hm : t ∈ Tryd.f4.params.toList := by simpa using Array.mem_of_getElem? ht
        have hall : (Tryd.f4.params.toList.all fun u => !Tryd.prog.wantsStandIn u) = true := by kernel_rfl
        exact (show Tryd.prog.wantsStandIn t = false by simpa using List.all_eq_true.1 hall t hm)⟩)
    (by kernel_rfl)

end Go.Proofs.YtmihgfhpmnomoaaDoor
