/- Calls: a row holds, and its card. Conditions: none. -/
import Derived.Test.YtmihgfhpmnomoaaDoorCaT
import Derived.Test.YtmihgfhpmnomoaaDoorCaRw
import Derived.Test.YtmihgfhpmnomoaaDoorCards
namespace Go.Proofs.YtmihgfhpmnomoaaDoor
open Go.Vc Go.ChangeShapes Go.WideShapes Go.ChangeAt Go.RowKit
set_option linter.unusedSimpArgs false
set_option linter.unusedVariables false
set_option maxRecDepth 100000


theorem callParses_lifted (os : Os) (started : os.Started) (H : Type) (enc : TypeId × Value → H) :
    ReturnsInHanded {} Tryd.checked os 5 .any (fun w args => (Rows.callParsesSpec.pre enc Tryd.prog Tryd.f5 Rows.callParsesRow.domain false w args ∧ laidMetH Tryd.prog Rows.callParsesRow.laid w) ∧ sizedMet enc Tryd.prog Tryd.f5 (OpenSpec.ofChange Rows.callParsesSpec) false w args) (Rows.callParsesSpec.post enc Tryd.prog Tryd.f5 false true false false) := by
  refine returnsInHanded_laid (C := Tryd.checked) (X := fun w _ => laidMetH Tryd.prog Rows.callParsesRow.laid w) (fun _ _ _ hh h => h.of_heap hh) ownK started (by kernel_rfl) Tryd.func5
    (ChangeSpec.witness_shaped (enc := enc) (C := Tryd.checked) (os := os) (X := fun w _ => laidMetH Tryd.prog Rows.callParsesRow.laid w) false (World.doorLaid Tryd.prog 82 os) #[.string ⟨#[]⟩] 8 rfl (World.shaped_of_RefB (by kernel_rfl) (by kernel_rfl)) (by kernel_rfl) (by kernel_rfl) (by kernel_rfl) (door_met os _)) ?_
  intro W base args ds gs before hval0 hW hcnd hsz0 hshape hlaid
  have hv := libV_of hshape hlaid
  have hsz : (DataW.weightsEach Tryd.prog (Tryd.f5.params.toList ++ Rows.callParsesSpec.plain.varTypes Tryd.prog) (ds ++ gs)).all (· ≤ reachBytes) = true := hsz0
  have hval : ∀ (j : Nat) t v, Tryd.f5.params[j]? = some t → args[j]? = some v → Value.okWide Tryd.prog W .any base t v := hval0
  have hW' := hW
  obtain ⟨p, q, hA0, hV, rfl, hfz, hnd⟩ := hW
  have hA : DataW.TrodAll enc Tryd.prog W 0 (fun _ => true) true Tryd.f5.params.toList args.toList ds p := hA0
  rw [Tryd.params5] at hA hval hsz
  obtain ⟨v0, d0, rfl, rfl, h0⟩ := trodAll_one hA
  obtain ⟨k0, rfl, _, _, wk0⟩ := Go.ChangeMaps.open_string (by kernel_rfl) (hval 0 _ v0 rfl rfl) h0
  refine (CallParses_any hv k0).mono fun e W' ⟨v, he, hv, hc⟩ => ?_
  subst he; subst hv
  exact ⟨_, rfl, post_true laidOut (by kernel_rfl) (tb := 4) (by kernel_rfl) (by kernel_rfl) rfl (fun ds hd => by
    match ds, hd with
    | [_], _ => rfl) hW' hc⟩
theorem callParses_holds : Rows.CallParsesSaid :=
  OpenClaim.holds_of_wide 5 Tryd.f5 rfl rfl rfl rfl rfl rfl rfl ⟨rfl, rfl, rfl, rfl, rfl⟩ rfl rfl rfl rfl rfl (by kernel_rfl) Tryd.func5 (by kernel_rfl)
    (of_decide_eq_true (by kernel_rfl)) (by unfold Func.isWrapper; first | (rw [if_pos (by decide +kernel)]; kernel_rfl) | (rw [if_neg (by decide +kernel)]; exact ⟨rfl, rfl⟩))
    (fun os started H enc _ => callParses_lifted os started H enc)

theorem callParses_card : Rows.CallParsesCardSaid :=
  Claim7.holds_tied_plain_at .later [] Rows.callParsesCard.laidKinds true Rows.callParsesCard.stood.harness true
    callParses_holds (fun _ h => by cases h) (by kernel_rfl) (fun _ h => by cases h) callParses_row_tie rfl ⟨rfl, rfl⟩ (by kernel_rfl) rfl
    (fun f fn hf hfn => by
      obtain rfl : f = 5 := Option.some.inj ((show Tryd.prog.funcNamed "purlin/purlinlaw21.CallParses" = some 5 by kernel_rfl).symm.trans hf) |>.symm
      obtain rfl : fn = Tryd.f5 := (Option.some.inj (Tryd.func5.symm.trans hfn)).symm
      exact ⟨by kernel_rfl, fun j t ht => by
        have hm : t ∈ Tryd.f5.params.toList := by simpa using Array.mem_of_getElem? ht
        have hall : (Tryd.f5.params.toList.all fun u => !Tryd.prog.wantsStandIn u) = true := by kernel_rfl
        exact (show Tryd.prog.wantsStandIn t = false by simpa using List.all_eq_true.1 hall t hm)⟩)
    (by kernel_rfl)

end Go.Proofs.YtmihgfhpmnomoaaDoor
