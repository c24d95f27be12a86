/- Processes: a row holds. Conditions: none. -/
import Derived.Test.YtecacohkkdhphaaPrQ
import Derived.Test.YtecacohkkdhphaaRwB
namespace Go.Proofs.Ytecacohkkdhphaa
open Go.Vc Go.ChangeShapes Go.WideShapes Go.ChangeAt Go.RowKit
set_option linter.unusedSimpArgs false
set_option linter.unusedVariables false
set_option maxRecDepth 100000

theorem leafP : leafs Try.prog 40 46 = some [.int .i64, .int .i64, .int .i64] := by kernel_rfl
theorem decP (cs : List Value) (h : fits [.int .i64, .int .i64, .int .i64] cs) : ∃ x : PCall, True ∧ cs = encK.f x := by
  obtain ⟨_, _, rfl, ⟨a, rfl, _⟩, h1⟩ := fits_cons h
  obtain ⟨_, _, rfl, ⟨b, rfl, _⟩, h2⟩ := fits_cons h1
  obtain ⟨_, _, rfl, ⟨c, rfl, _⟩, h3⟩ := fits_cons h2
  obtain rfl := fits_nil h3
  exact ⟨⟨a, b, c⟩, trivial, rfl⟩

theorem procPlays_lifted (os : Os) (started : os.Started) (H : Type) (enc : TypeId × Value → H) :
    ReturnsInHanded {} Try.checked os 4 .any (Rows.procPlaysSpec.pre6 enc Try.prog Try.f4 Rows.procPlaysRow.domain false) (Rows.procPlaysSpec.post enc Try.prog Try.f4 false true false false) := by
  refine returnsInHanded_of_change_sized (C := Try.checked) ownK started (by kernel_rfl) Try.func4
    (ChangeSpec.witness6 (enc := enc) (C := Try.checked) false ⟨#[], #[.slice none 0 0, .slice none 0 0], []⟩ 8 (by kernel_rfl) (by kernel_rfl) (by kernel_rfl) (by kernel_rfl)) ?_
  intro W base args ds gs before hval0 hW hcnd hsz0 _
  have hsz : (DataW.weightsEach Try.prog (Try.f4.params.toList ++ Rows.procPlaysSpec.plain.varTypes Try.prog) (ds ++ gs)).all (· ≤ reachBytes) = true := hsz0
  have hval : ∀ (j : Nat) t v, Try.f4.params[j]? = some t → args[j]? = some v → Value.okWide Try.prog W .any base t v := hval0
  have hW' := hW
  obtain ⟨p, q, hA0, hV, rfl, hfz, hnd⟩ := hW
  have hA : DataW.TrodAll enc Try.prog W 0 (fun _ => true) true Try.f4.params.toList args.toList ds p := hA0
  rw [Try.params4] at hA hval hsz
  obtain ⟨v0, v1, d0, d1, p0, p1, rfl, rfl, rfl, h0, h1⟩ := trodAll_two hA
  obtain ⟨a0, xs0, c0, rfl, hs0, hcap0, hmax0, hq0⟩ := arg_slice (E := Enc.int .u8) (Q := fun p => 0 ≤ p ∧ p < 256) (e := 5) (by kernel_rfl) leafB (by kernel_rfl) rfl decB (hval 0 _ v0 rfl rfl) h0
  obtain ⟨a1, xs1, c1, rfl, hs1, hcap1, hmax1, hq1⟩ := arg_slice (E := encK) (Q := fun _ => True) (e := 46) (by kernel_rfl) leafP (by kernel_rfl) rfl decP (hval 1 _ v1 rfl rfl) h1
  have hr0 := arg_reach (e := 5) hsz (j := 0) rfl rfl (by kernel_rfl) h0
  rw [show Try.prog.bytesOf 5 = 1 by kernel_rfl] at hr0
  refine (ProcPlays_any hs0 hq0 (by omega) hs1).mono fun e W' ⟨v, he, hv, hc⟩ => ?_
  subst he; subst hv
  exact ⟨_, rfl, post_true laidOut (by kernel_rfl) (tb := 4) (by kernel_rfl) (by kernel_rfl) rfl (fun ds hd => by
    match ds, hd with
    | [_, _], _ => rfl) hW' hc⟩
theorem procPlays_holds : Rows.ProcPlaysSaid :=
  OpenClaim.holds_of_wide 4 Try.f4 rfl rfl rfl rfl rfl rfl rfl ⟨rfl, rfl, rfl, rfl, rfl⟩ rfl rfl rfl rfl rfl (by kernel_rfl) Try.func4 (by kernel_rfl)
    (of_decide_eq_true (by kernel_rfl)) (by unfold Func.isWrapper; first | (rw [if_pos (by decide +kernel)]; kernel_rfl) | (rw [if_neg (by decide +kernel)]; exact ⟨rfl, rfl⟩))
    (fun os started H enc _ => procPlays_lifted os started H enc)

end Go.Proofs.Ytecacohkkdhphaa
