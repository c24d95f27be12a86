/- Scripts: a row holds, and its card. Conditions: none. -/
import Derived.Test.YtllpiaedljoejaaGreatDoorShE
import Derived.Test.YtllpiaedljoejaaGreatDoorShRw
import Derived.Test.YtllpiaedljoejaaGreatDoorCards
namespace Go.Proofs.YtllpiaedljoejaaGreatDoor
open Go.Vc Go.ChangeShapes Go.WideShapes Go.ChangeAt Go.RowKit
set_option linter.unusedSimpArgs false
set_option linter.unusedVariables false
set_option maxRecDepth 100000


theorem scriptHex_lifted (os : Os) (started : os.Started) (H : Type) (enc : TypeId × Value → H) :
    ReturnsInHanded {} Tryz.checked os 4 .any (fun w args => (Rows.scriptHexSpec.pre enc Tryz.prog Tryz.f4 Rows.scriptHexRow.domain false w args ∧ laidMetH Tryz.prog Rows.scriptHexRow.laid w) ∧ sizedMet enc Tryz.prog Tryz.f4 (OpenSpec.ofChange Rows.scriptHexSpec) false w args) (Rows.scriptHexSpec.post enc Tryz.prog Tryz.f4 false true false false) := by
  refine returnsInHanded_laid (C := Tryz.checked) (X := fun w _ => laidMetH Tryz.prog Rows.scriptHexRow.laid w) (fun _ _ _ hh h => h.of_heap hh) ownK started (by kernel_rfl) Tryz.func4
    (ChangeSpec.witness_shaped (enc := enc) (C := Tryz.checked) (os := os) (X := fun w _ => laidMetH Tryz.prog Rows.scriptHexRow.laid w) false (scrW os) #[.string ⟨#[]⟩, .string ⟨#[]⟩] 8 (World.layVars_os _ _ _) (World.shaped_of_ZipB (by kernel_rfl) (by kernel_rfl)) (by kernel_rfl) (by kernel_rfl) (by kernel_rfl) (door_met os _)) ?_
  intro W base args ds gs before hval0 hW hcnd hsz0 hshape hlaid
  have hv := lib_of hshape hlaid
  have hsz : (DataW.weightsEach Tryz.prog (Tryz.f4.params.toList ++ Rows.scriptHexSpec.plain.varTypes Tryz.prog) (ds ++ gs)).all (· ≤ reachBytes) = true := hsz0
  have hval : ∀ (j : Nat) t v, Tryz.f4.params[j]? = some t → args[j]? = some v → Value.okWide Tryz.prog W .any base t v := hval0
  have hW' := hW
  obtain ⟨p, q, hA0, hV, rfl, hfz, hnd⟩ := hW
  have hA : DataW.TrodAll enc Tryz.prog W 0 (fun _ => true) true Tryz.f4.params.toList args.toList ds p := hA0
  rw [Tryz.params4] at hA hval hsz
  obtain ⟨v0, v1, d0, d1, p0, p1, rfl, rfl, rfl, h0, h1⟩ := trodAll_two hA
  obtain ⟨k0, rfl, _, _, wk0⟩ := Go.ChangeMaps.open_string (by kernel_rfl) (hval 0 _ v0 rfl rfl) h0
  obtain ⟨k1, rfl, _, _, wk1⟩ := Go.ChangeMaps.open_string (by kernel_rfl) (hval 1 _ v1 rfl rfl) h1
  refine (ScriptHex_any hv.1 hv.2 k0 k1).mono fun e W' ⟨v, he, hv, hc⟩ => ?_
  subst he; subst hv
  exact ⟨_, rfl, post_true laidOut (by kernel_rfl) (tb := 4) (by kernel_rfl) (by kernel_rfl) rfl (fun ds hd => by
    match ds, hd with
    | [_, _], _ => rfl) hW' hc⟩
end Go.Proofs.YtllpiaedljoejaaGreatDoor
