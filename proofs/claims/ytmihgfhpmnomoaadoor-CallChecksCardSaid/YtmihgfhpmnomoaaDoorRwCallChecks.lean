/- Calls: a row holds, and its card. Conditions: none. -/
import Derived.Test.YtmihgfhpmnomoaaDoorCaPl
import Derived.Test.YtmihgfhpmnomoaaDoorCaU
import Derived.Test.YtmihgfhpmnomoaaDoorCaRw
import Derived.Test.YtmihgfhpmnomoaaDoorCards
namespace Go.Proofs.YtmihgfhpmnomoaaDoor
open Go.Vc Go.ChangeShapes Go.WideShapes Go.ChangeAt Go.RowKit
set_option linter.unusedSimpArgs false
set_option linter.unusedVariables false
set_option maxRecDepth 100000


theorem callChecks_lifted (os : Os) (started : os.Started) (H : Type) (enc : TypeId × Value → H) :
    ReturnsInHanded {} Tryd.checked os 7 .any (fun w args => (Rows.callChecksSpec.pre enc Tryd.prog Tryd.f7 Rows.callChecksRow.domain false w args ∧ laidMetH Tryd.prog Rows.callChecksRow.laid w) ∧ sizedMet enc Tryd.prog Tryd.f7 (OpenSpec.ofChange Rows.callChecksSpec) false w args) (Rows.callChecksSpec.post enc Tryd.prog Tryd.f7 false true false false) := by
  refine returnsInHanded_laid (C := Tryd.checked) (X := fun w _ => laidMetH Tryd.prog Rows.callChecksRow.laid w) (fun _ _ _ hh h => h.of_heap hh) ownK started (by kernel_rfl) Tryd.func7
    (ChangeSpec.witness_shaped (enc := enc) (C := Tryd.checked) (os := os) (X := fun w _ => laidMetH Tryd.prog Rows.callChecksRow.laid w) false (World.doorLaid Tryd.prog 82 os) #[.agg #[.int .u16 0, .slice none 0 0, .slice none 0 0, .slice none 0 0, .slice none 0 0], .int .i64 0, .agg #[.int .i64 0, .int .i64 0, .int .i64 0, .string ⟨#[]⟩]] 8 rfl (World.shaped_of_RefB (by kernel_rfl) (by kernel_rfl)) (by kernel_rfl) (by kernel_rfl) (by kernel_rfl) (door_met os _)) ?_
  intro W base args ds gs before hval0 hW hcnd hsz0 hshape hlaid
  have hv := libV_of hshape hlaid
  have hsz : (DataW.weightsEach Tryd.prog (Tryd.f7.params.toList ++ Rows.callChecksSpec.plain.varTypes Tryd.prog) (ds ++ gs)).all (· ≤ reachBytes) = true := hsz0
  have hval : ∀ (j : Nat) t v, Tryd.f7.params[j]? = some t → args[j]? = some v → Value.okWide Tryd.prog W .any base t v := hval0
  have hW' := hW
  obtain ⟨p, q, hA0, hV, rfl, hfz, hnd⟩ := hW
  have hA : DataW.TrodAll enc Tryd.prog W 0 (fun _ => true) true Tryd.f7.params.toList args.toList ds p := hA0
  rw [Tryd.params7] at hA hval hsz
  obtain ⟨v0, v1, v2, d0, d1, d2, p0, p1, p2, rfl, rfl, rfl, h0, h1, h2⟩ := trodAll_three hA
  obtain ⟨p0, A1, N1, C1, A2, N2, C2, A3, cs, C3, A4, N4, C4, rfl, hcs, hxs⟩ := arg_plan (hval 0 _ v0 rfl rfl) h0
  obtain ⟨k1, rfl, _, _, wk1⟩ := open_int (k := .i64) (by kernel_rfl) (hval 1 _ v1 rfl rfl) h1
  obtain ⟨cs2, rfl, g2_0⟩ := arg_agg (P := Tryd.prog) (n := 40) (ls := [.int .i64, .int .i64, .int .i64, .str]) (by kernel_rfl) (by kernel_rfl) (by kernel_rfl) (hval 2 _ v2 rfl rfl) h2
  obtain ⟨_, _, rfl, ⟨op, rfl, wop⟩, g2_1⟩ := fits_cons g2_0
  obtain ⟨_, _, rfl, ⟨a, rfl, wa⟩, g2_2⟩ := fits_cons g2_1
  obtain ⟨_, _, rfl, ⟨b, rfl, wb⟩, g2_3⟩ := fits_cons g2_2
  obtain ⟨_, _, rfl, ⟨s, rfl, ws⟩, g2_4⟩ := fits_cons g2_3
  obtain rfl := fits_nil g2_4
  refine (CallChecks_any hv hcs k1 op a b s).mono fun e W' ⟨v, he, hv, hc⟩ => ?_
  subst he; subst hv
  exact ⟨_, rfl, post_true laidOut (by kernel_rfl) (tb := 4) (by kernel_rfl) (by kernel_rfl) rfl (fun ds hd => by
    match ds, hd with
    | [_, _, _], _ => rfl) hW' hc⟩
theorem callChecks_holds : Rows.CallChecksSaid :=
  OpenClaim.holds_of_wide 7 Tryd.f7 rfl rfl rfl rfl rfl rfl rfl ⟨rfl, rfl, rfl, rfl, rfl⟩ rfl rfl rfl rfl rfl (by kernel_rfl) Tryd.func7 (by kernel_rfl)
    (of_decide_eq_true (by kernel_rfl)) (by unfold Func.isWrapper; first | (rw [if_pos (by decide +kernel)]; kernel_rfl) | (rw [if_neg (by decide +kernel)]; exact ⟨rfl, rfl⟩))
    (fun os started H enc _ => callChecks_lifted os started H enc)

theorem callChecks_card : Rows.CallChecksCardSaid :=
  Claim7.holds_tied_plain_at .later [] Rows.callChecksCard.laidKinds true Rows.callChecksCard.stood.harness true
    callChecks_holds (fun _ h => by cases h) (by kernel_rfl) (fun _ h => by cases h) callChecks_row_tie rfl ⟨rfl, rfl⟩ (by kernel_rfl) rfl
    (fun f fn hf hfn => by
      obtain rfl : f = 7 := Option.some.inj ((show Tryd.prog.funcNamed "purlin/purlinlaw21.CallChecks" = some 7 by kernel_rfl).symm.trans hf) |>.symm
      obtain rfl : fn = Tryd.f7 := (Option.some.inj (Tryd.func7.symm.trans hfn)).symm
      exact ⟨by kernel_rfl, fun j t ht => by
        have hm : t ∈ Tryd.f7.params.toList := by simpa using Array.mem_of_getElem? ht
        have hall : (Tryd.f7.params.toList.all fun u => !Tryd.prog.wantsStandIn u) = true := by kernel_rfl
        exact (show Tryd.prog.wantsStandIn t = false by simpa using List.all_eq_true.1 hall t hm)⟩)
    (by kernel_rfl)

end Go.Proofs.YtmihgfhpmnomoaaDoor
