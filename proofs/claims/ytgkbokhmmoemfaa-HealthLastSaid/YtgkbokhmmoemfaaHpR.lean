/- Logs of faults: the four rows hold. Conditions: none. -/
import Derived.Test.YtgkbokhmmoemfaaHpE
import Derived.Test.YtgkbokhmmoemfaaVcRow
import Derived.Test.YtgkbokhmmoemfaaRows
namespace Go.Proofs.Ytgkbokhmmoemfaa
open Go.Vc Go.ChangeShapes Go.WideShapes Go.ChangeAt Go.RowKit
set_option linter.unusedSimpArgs false
set_option linter.unusedVariables false
set_option maxRecDepth 100000

theorem own : ownKnob Try.prog.godebug = none := by kernel_rfl
theorem laidOut : laidOutB Try.prog = true := by kernel_rfl

theorem leaf34 : leafs Try.prog 40 34 = some [.int .i64, .int .i64, .int .i64, .int .u8, .int .u8] := by kernel_rfl
theorem decEntry (cs : List Value) (h : fits [.int .i64, .int .i64, .int .i64, .int .u8, .int .u8] cs) : ∃ x : Entry, True ∧ cs = encE.f x := by
  obtain ⟨_, _, rfl, ⟨a, rfl, _⟩, h1⟩ := fits_cons h
  obtain ⟨_, _, rfl, ⟨b, rfl, _⟩, h2⟩ := fits_cons h1
  obtain ⟨_, _, rfl, ⟨c, rfl, _⟩, h3⟩ := fits_cons h2
  obtain ⟨_, _, rfl, ⟨d, rfl, _⟩, h4⟩ := fits_cons h3
  obtain ⟨_, _, rfl, ⟨e, rfl, _⟩, h5⟩ := fits_cons h4
  obtain rfl := fits_nil h5
  exact ⟨⟨a, b, c, d, e⟩, trivial, rfl⟩

theorem healthPlays_lifted (os : Os) (started : os.Started) (H : Type) (enc : TypeId × Value → H) :
    ReturnsInHanded {} Try.checked os 3 .any (Rows.healthPlaysSpec.pre6 enc Try.prog Try.f3 Rows.healthPlaysRow.domain false) (Rows.healthPlaysSpec.post enc Try.prog Try.f3 false true false false) := by
  refine returnsInHanded_of_change (C := Try.checked) own started (by kernel_rfl) Try.func3
    (ChangeSpec.witness6 (enc := enc) (C := Try.checked) false ⟨#[], #[.int .i64 0, .slice none 0 0, .int .i64 0], []⟩ 8 (by kernel_rfl) (by kernel_rfl) (by kernel_rfl) (by kernel_rfl)) ?_
  intro W base args ds gs before hval0 hW hcnd _
  have hval : ∀ (j : Nat) t v, Try.f3.params[j]? = some t → args[j]? = some v → Value.okWide Try.prog W .any base t v := hval0
  have hW' := hW
  obtain ⟨p, q, hA0, hV, rfl, hfz, hnd⟩ := hW
  have hA : DataW.TrodAll enc Try.prog W 0 (fun _ => true) true Try.f3.params.toList args.toList ds p := hA0
  rw [Try.params3] at hA hval
  obtain ⟨v0, v1, v2, d0, d1, d2, p0, p1, p2, rfl, rfl, rfl, h0, h1, h2⟩ := trodAll_three hA
  obtain ⟨k0, rfl, _, _, wk0⟩ := open_int (k := .i64) (by kernel_rfl) (hval 0 _ v0 rfl rfl) h0
  obtain ⟨a1, xs1, c1, rfl, hs1, hcap1, hmax1, hq1⟩ := arg_slice (E := encE) (Q := fun _ => True) (e := 34) (by kernel_rfl) leaf34 (by kernel_rfl) rfl decEntry (hval 1 _ v1 rfl rfl) h1
  obtain ⟨k2, rfl, _, _, wk2⟩ := open_int (k := .i64) (by kernel_rfl) (hval 2 _ v2 rfl rfl) h2
  refine (HealthPlays_any hs1 (by simp [maxLen] at hmax1; omega)).mono fun e W' ⟨v, he, hv, hc⟩ => ?_
  subst he; subst hv
  exact ⟨_, rfl, post_true laidOut (by kernel_rfl) (tb := 4) (by kernel_rfl) (by kernel_rfl) rfl (fun ds hd => by
    match ds, hd with
    | [_, _, _], _ => rfl) hW' hc⟩
theorem healthPlays_holds : Rows.HealthPlaysSaid :=
  OpenClaim.holds_of_wide 3 Try.f3 rfl rfl rfl rfl rfl rfl rfl ⟨rfl, rfl, rfl, rfl, rfl⟩ rfl rfl rfl rfl rfl (by kernel_rfl) Try.func3 (by kernel_rfl)
    (of_decide_eq_true (by kernel_rfl)) (by unfold Func.isWrapper; first | (rw [if_pos (by decide +kernel)]; kernel_rfl) | (rw [if_neg (by decide +kernel)]; exact ⟨rfl, rfl⟩))
    (fun os started H enc _ => healthPlays_lifted os started H enc)

theorem healthActs_lifted (os : Os) (started : os.Started) (H : Type) (enc : TypeId × Value → H) :
    ReturnsInHanded {} Try.checked os 4 .any (Rows.healthActsSpec.pre6 enc Try.prog Try.f4 Rows.healthActsRow.domain false) (Rows.healthActsSpec.post enc Try.prog Try.f4 false true false false) := by
  refine returnsInHanded_of_change (C := Try.checked) own started (by kernel_rfl) Try.func4
    (ChangeSpec.witness6 (enc := enc) (C := Try.checked) false ⟨#[], #[.agg #[.int .u8 0, .int .u8 0, .int .u8 0], .int .i64 0], []⟩ 8 (by kernel_rfl) (by kernel_rfl) (by kernel_rfl) (by kernel_rfl)) ?_
  intro W base args ds gs before hval0 hW hcnd _
  have hval : ∀ (j : Nat) t v, Try.f4.params[j]? = some t → args[j]? = some v → Value.okWide Try.prog W .any base t v := hval0
  have hW' := hW
  obtain ⟨p, q, hA0, hV, rfl, hfz, hnd⟩ := hW
  have hA : DataW.TrodAll enc Try.prog W 0 (fun _ => true) true Try.f4.params.toList args.toList ds p := hA0
  rw [Try.params4] at hA hval
  obtain ⟨v0, v1, d0, d1, p0, p1, rfl, rfl, rfl, h0, h1⟩ := trodAll_two hA
  obtain ⟨cs0, rfl, g0_0⟩ := arg_agg (P := Try.prog) (n := 40) (ls := [.int .u8, .int .u8, .int .u8]) (by kernel_rfl) (by kernel_rfl) (by kernel_rfl) (hval 0 _ v0 rfl rfl) h0
  obtain ⟨_, _, rfl, ⟨x0, rfl, wx0⟩, g0_1⟩ := fits_cons g0_0
  obtain ⟨_, _, rfl, ⟨x1, rfl, wx1⟩, g0_2⟩ := fits_cons g0_1
  obtain ⟨_, _, rfl, ⟨x2, rfl, wx2⟩, g0_3⟩ := fits_cons g0_2
  obtain rfl := fits_nil g0_3
  obtain ⟨k1, rfl, _, _, wk1⟩ := open_int (k := .i64) (by kernel_rfl) (hval 1 _ v1 rfl rfl) h1
  refine (HealthActs_any (bounds_u8 wx0).1 (bounds_u8 wx1).1 (bounds_u8 wx2).1).mono fun e W' ⟨v, he, hv, hc⟩ => ?_
  subst he; subst hv
  exact ⟨_, rfl, post_true laidOut (by kernel_rfl) (tb := 4) (by kernel_rfl) (by kernel_rfl) rfl (fun ds hd => by
    match ds, hd with
    | [_, _], _ => rfl) hW' hc⟩
theorem healthActs_holds : Rows.HealthActsSaid :=
  OpenClaim.holds_of_wide 4 Try.f4 rfl rfl rfl rfl rfl rfl rfl ⟨rfl, rfl, rfl, rfl, rfl⟩ rfl rfl rfl rfl rfl (by kernel_rfl) Try.func4 (by kernel_rfl)
    (of_decide_eq_true (by kernel_rfl)) (by unfold Func.isWrapper; first | (rw [if_pos (by decide +kernel)]; kernel_rfl) | (rw [if_neg (by decide +kernel)]; exact ⟨rfl, rfl⟩))
    (fun os started H enc _ => healthActs_lifted os started H enc)

theorem healthTogether_lifted (os : Os) (started : os.Started) (H : Type) (enc : TypeId × Value → H) :
    ReturnsInHanded {} Try.checked os 5 .any (Rows.healthTogetherSpec.pre6 enc Try.prog Try.f5 Rows.healthTogetherRow.domain false) (Rows.healthTogetherSpec.post enc Try.prog Try.f5 false true false false) := by
  refine returnsInHanded_of_change (C := Try.checked) own started (by kernel_rfl) Try.func5
    (ChangeSpec.witness6 (enc := enc) (C := Try.checked) false ⟨#[], #[.int .u8 0, .slice none 0 0, .slice none 0 0], []⟩ 8 (by kernel_rfl) (by kernel_rfl) (by kernel_rfl) (by kernel_rfl)) ?_
  intro W base args ds gs before hval0 hW hcnd _
  have hval : ∀ (j : Nat) t v, Try.f5.params[j]? = some t → args[j]? = some v → Value.okWide Try.prog W .any base t v := hval0
  have hW' := hW
  obtain ⟨p, q, hA0, hV, rfl, hfz, hnd⟩ := hW
  have hA : DataW.TrodAll enc Try.prog W 0 (fun _ => true) true Try.f5.params.toList args.toList ds p := hA0
  rw [Try.params5] at hA hval
  obtain ⟨v0, v1, v2, d0, d1, d2, p0, p1, p2, rfl, rfl, rfl, h0, h1, h2⟩ := trodAll_three hA
  obtain ⟨k0, rfl, _, _, wk0⟩ := open_int (k := .u8) (by kernel_rfl) (hval 0 _ v0 rfl rfl) h0
  obtain ⟨a1, xs1, c1, rfl, hs1, hcap1, hmax1, hq1⟩ := arg_slice (E := encE) (Q := fun _ => True) (e := 34) (by kernel_rfl) leaf34 (by kernel_rfl) rfl decEntry (hval 1 _ v1 rfl rfl) h1
  obtain ⟨a2, xs2, c2, rfl, hs2, hcap2, hmax2, hq2⟩ := arg_slice (E := encE) (Q := fun _ => True) (e := 34) (by kernel_rfl) leaf34 (by kernel_rfl) rfl decEntry (hval 2 _ v2 rfl rfl) h2
  refine (HealthTogether_any (bounds_u8 wk0).1 (by have := (bounds_u8 wk0).2; omega) hs1 hs2 hcap2).mono fun e W' ⟨v, he, hv, hc⟩ => ?_
  subst he; subst hv
  exact ⟨_, rfl, post_true laidOut (by kernel_rfl) (tb := 4) (by kernel_rfl) (by kernel_rfl) rfl (fun ds hd => by
    match ds, hd with
    | [_, _, _], _ => rfl) hW' hc⟩
theorem healthTogether_holds : Rows.HealthTogetherSaid :=
  OpenClaim.holds_of_wide 5 Try.f5 rfl rfl rfl rfl rfl rfl rfl ⟨rfl, rfl, rfl, rfl, rfl⟩ rfl rfl rfl rfl rfl (by kernel_rfl) Try.func5 (by kernel_rfl)
    (of_decide_eq_true (by kernel_rfl)) (by unfold Func.isWrapper; first | (rw [if_pos (by decide +kernel)]; kernel_rfl) | (rw [if_neg (by decide +kernel)]; exact ⟨rfl, rfl⟩))
    (fun os started H enc _ => healthTogether_lifted os started H enc)

theorem healthLast_lifted (os : Os) (started : os.Started) (H : Type) (enc : TypeId × Value → H) :
    ReturnsInHanded {} Try.checked os 6 .any (Rows.healthLastSpec.pre6 enc Try.prog Try.f6 Rows.healthLastRow.domain false) (Rows.healthLastSpec.post enc Try.prog Try.f6 false true false false) := by
  refine returnsInHanded_of_change (C := Try.checked) own started (by kernel_rfl) Try.func6
    (ChangeSpec.witness6 (enc := enc) (C := Try.checked) false ⟨#[], #[.int .u8 0, .slice none 0 0, .slice none 0 0], []⟩ 8 (by kernel_rfl) (by kernel_rfl) (by kernel_rfl) (by kernel_rfl)) ?_
  intro W base args ds gs before hval0 hW hcnd _
  have hval : ∀ (j : Nat) t v, Try.f6.params[j]? = some t → args[j]? = some v → Value.okWide Try.prog W .any base t v := hval0
  have hW' := hW
  obtain ⟨p, q, hA0, hV, rfl, hfz, hnd⟩ := hW
  have hA : DataW.TrodAll enc Try.prog W 0 (fun _ => true) true Try.f6.params.toList args.toList ds p := hA0
  rw [Try.params6] at hA hval
  obtain ⟨v0, v1, v2, d0, d1, d2, p0, p1, p2, rfl, rfl, rfl, h0, h1, h2⟩ := trodAll_three hA
  obtain ⟨k0, rfl, _, _, wk0⟩ := open_int (k := .u8) (by kernel_rfl) (hval 0 _ v0 rfl rfl) h0
  obtain ⟨a1, xs1, c1, rfl, hs1, hcap1, hmax1, hq1⟩ := arg_slice (E := encE) (Q := fun _ => True) (e := 34) (by kernel_rfl) leaf34 (by kernel_rfl) rfl decEntry (hval 1 _ v1 rfl rfl) h1
  obtain ⟨a2, xs2, c2, rfl, hs2, hcap2, hmax2, hq2⟩ := arg_slice (E := encE) (Q := fun _ => True) (e := 34) (by kernel_rfl) leaf34 (by kernel_rfl) rfl decEntry (hval 2 _ v2 rfl rfl) h2
  refine (HealthLast_any (bounds_u8 wk0).1 (by have := (bounds_u8 wk0).2; omega) hs1 hs2 hcap2).mono fun e W' ⟨v, he, hv, hc⟩ => ?_
  subst he; subst hv
  exact ⟨_, rfl, post_true laidOut (by kernel_rfl) (tb := 4) (by kernel_rfl) (by kernel_rfl) rfl (fun ds hd => by
    match ds, hd with
    | [_, _, _], _ => rfl) hW' hc⟩
theorem healthLast_holds : Rows.HealthLastSaid :=
  OpenClaim.holds_of_wide 6 Try.f6 rfl rfl rfl rfl rfl rfl rfl ⟨rfl, rfl, rfl, rfl, rfl⟩ rfl rfl rfl rfl rfl (by kernel_rfl) Try.func6 (by kernel_rfl)
    (of_decide_eq_true (by kernel_rfl)) (by unfold Func.isWrapper; first | (rw [if_pos (by decide +kernel)]; kernel_rfl) | (rw [if_neg (by decide +kernel)]; exact ⟨rfl, rfl⟩))
    (fun os started H enc _ => healthLast_lifted os started H enc)

end Go.Proofs.Ytgkbokhmmoemfaa
