/- Lines of those who wait: the row of LineExpires holds. Conditions: none. -/
import Derived.Test.YtgkbokhmmoemfaaLnN
import Derived.Test.YtgkbokhmmoemfaaLnR
namespace Go.Proofs.Ytgkbokhmmoemfaa
open Go.Vc Go.ChangeShapes Go.WideShapes Go.ChangeAt Go.RowKit
set_option linter.unusedSimpArgs false
set_option linter.unusedVariables false
set_option maxRecDepth 100000

theorem lineExpires_lifted (os : Os) (started : os.Started) (H : Type) (enc : TypeId × Value → H) :
    ReturnsInHanded {} Try.checked os 8 .any (Rows.lineExpiresSpec.pre6 enc Try.prog Try.f8 Rows.lineExpiresRow.domain false) (Rows.lineExpiresSpec.post enc Try.prog Try.f8 false true false false) := by
  refine returnsInHanded_of_change (C := Try.checked) own started (by kernel_rfl) Try.func8
    (ChangeSpec.witness6 (enc := enc) (C := Try.checked) false ⟨#[], #[.slice none 0 0, .int .i64 0], []⟩ 8 (by kernel_rfl) (by kernel_rfl) (by kernel_rfl) (by kernel_rfl)) ?_
  intro W base args ds gs before hval0 hW hcnd _
  have hval : ∀ (j : Nat) t v, Try.f8.params[j]? = some t → args[j]? = some v → Value.okWide Try.prog W .any base t v := hval0
  have hW' := hW
  obtain ⟨p, q, hA0, hV, rfl, hfz, hnd⟩ := hW
  have hA : DataW.TrodAll enc Try.prog W 0 (fun _ => true) true Try.f8.params.toList args.toList ds p := hA0
  rw [Try.params8] at hA hval
  obtain ⟨v0, v1, d0, d1, p0, p1, rfl, rfl, rfl, h0, h1⟩ := trodAll_two hA
  obtain ⟨a0, xs0, c0, rfl, hs0, hcap0, hmax0, hq0⟩ := arg_slice (E := encC) (Q := fun _ => True) (e := 55) (by kernel_rfl) leaf55 (by kernel_rfl) rfl decCall (hval 0 _ v0 rfl rfl) h0
  obtain ⟨k1, rfl, _, _, wk1⟩ := open_int (k := .i64) (by kernel_rfl) (hval 1 _ v1 rfl rfl) h1
  refine (LineExpires_any k1 hs0).mono fun e W' ⟨v, he, hv, hc⟩ => ?_
  subst he; subst hv
  exact ⟨_, rfl, post_true laidOut (by kernel_rfl) (tb := 4) (by kernel_rfl) (by kernel_rfl) rfl (fun ds hd => by
    match ds, hd with
    | [_, _], _ => rfl) hW' hc⟩
theorem lineExpires_holds : Rows.LineExpiresSaid :=
  OpenClaim.holds_of_wide 8 Try.f8 rfl rfl rfl rfl rfl rfl rfl ⟨rfl, rfl, rfl, rfl, rfl⟩ rfl rfl rfl rfl rfl (by kernel_rfl) Try.func8 (by kernel_rfl)
    (of_decide_eq_true (by kernel_rfl)) (by unfold Func.isWrapper; first | (rw [if_pos (by decide +kernel)]; kernel_rfl) | (rw [if_neg (by decide +kernel)]; exact ⟨rfl, rfl⟩))
    (fun os started H enc _ => lineExpires_lifted os started H enc)

end Go.Proofs.Ytgkbokhmmoemfaa
