/- Calls: awake. Conditions: none. -/
import Derived.Test.YtmihgfhpmnomoaaDoorCaM
namespace Go.Proofs.YtmihgfhpmnomoaaDoor
open Go.Vc Go.Lib
set_option linter.unusedSimpArgs false
set_option linter.unusedVariables false
set_option maxRecDepth 100000

section
variable {e w : World} {m : Hp} {L : List HP}
theorem parse_is {t : List UInt8} {op a b op' a' b' er : Int} {s s' : ByteArray} (hr : rightE op a b s = 0) (ha : inR a) (hb : inR b) (ht : t = showL op a b s.data.toList) (h : parseR t op' a' b' s' er) : op' = op ∧ a' = a ∧ b' = b ∧ s' = s ∧ er = 0 :=
  parse_one h (.inl ⟨rfl, hr, ha, hb, ht⟩)
theorem parse_bad {t : List UInt8} {op' a' b' er : Int} {s' : ByteArray} (hb : Bad t) (h : parseR t op' a' b' s' er) : er = 223 := by
  rcases h with ⟨_, h1, h2, h3, h4⟩ | h
  · exact absurd h4 (hb _ _ _ _ h1 h2 h3)
  · exact h.1
theorem awake21_sp (H : St e m w L) (hv : LibV m) : Calls Tryd.prog 12 #[] w (Ret fun v w' => v = .bool true ∧ St e m w' L) := by
  apply purlinlaw21_awake.calls
  unfold purlinlaw21_awake.F
  refine Calls.ret (call_Show_sp H hv (op := 1) (a := 0) (b := -1) (s := ⟨#[]⟩) (in_small (by decide) (by decide)) (in_small (by decide) (by decide)) (by decide)) ?_
  rintro v w1 ⟨rfl, H⟩
  refine ⟨_, _, rfl, ?_⟩
  refine Calls.ret (call_Show_sp H hv (op := 23) (a := 2) (b := 0) (s := ⟨#[97, 32, 98]⟩) (in_small (by decide) (by decide)) (in_small (by decide) (by decide)) (by decide)) ?_
  rintro v w2 ⟨rfl, H⟩
  refine ⟨_, _, rfl, ?_⟩
  refine Calls.ret (call_Parse_sp H hv ⟨#[110, 111, 119]⟩ (by decide)) ?_
  rintro v w3 ⟨o3, a3, b3, s3, r3, rfl, p3, H⟩
  obtain ⟨rfl, rfl, rfl, rfl, rfl⟩ := parse_is (op := 17) (a := 0) (b := 0) (s := ⟨#[]⟩) (by decide +kernel) (in_small (by decide) (by decide)) (in_small (by decide) (by decide)) x3.symm p3
  refine ⟨_, _, _, _, _, rfl, ?_⟩
  refine H.new fun b1 w H => H.st fun w H => ?_
  refine Calls.ret (call_Parse_sp H hv ⟨#[110, 111, 119, 32, 49]⟩ (by decide)) ?_
  rintro v w4 ⟨o4, a4, b4, s4, r4, rfl, p4, H⟩
  obtain rfl := parse_bad n4 p4
  refine ⟨_, _, _, _, _, rfl, ?_⟩
  refine H.new fun b2 w H => H.st fun w H => ?_
  refine Calls.ret (call_Parse_sp H hv ⟨#[115, 108, 101, 101, 112, 32, 48, 49]⟩ (by decide)) ?_
  rintro v w5 ⟨o5, a5, b5, s5, r5, rfl, p5, H⟩
  obtain rfl := parse_bad n5 p5
  refine ⟨_, _, _, _, _, rfl, ?_⟩
  refine H.new fun b3 w H => H.st fun w H => ?_
  refine Calls.ret (call_Parse_sp H hv ⟨#[115, 101, 110, 100, 32, 50, 32, 97]⟩ (by decide)) ?_
  rintro v w6 ⟨o6, a6, b6, s6, r6, rfl, p6, H⟩
  obtain rfl := parse_bad n6 p6
  refine ⟨_, _, _, _, _, rfl, ?_⟩
  refine H.new fun b4 w H => H.st fun w H => ?_
  refine Calls.ret (call_Show_sp H hv (op := 17) (a := 1) (b := 0) (s := ⟨#[]⟩) (in_small (by decide) (by decide)) (in_small (by decide) (by decide)) (by decide)) ?_
  rintro v w7 ⟨rfl, H⟩
  refine ⟨_, _, rfl, ?_⟩
  refine Calls.ret (call_Number_sp H ⟨#[108, 111, 103, 101, 110, 116, 114, 121]⟩) ?_
  rintro v w8 ⟨nn, ok, rfl, hok, hno, rfl⟩
  have e30 : (⟨#[108, 111, 103, 101, 110, 116, 114, 121]⟩ : ByteArray) = nameB 30 := by decide +kernel
  obtain rfl : ok = true := by
    cases ok with
    | true => rfl
    | false => exact absurd e30 ((hno rfl).2 30 (by decide) (by decide))
  obtain ⟨k1, k2, k3⟩ := hok rfl
  obtain rfl : nn = 30 := nameB_inj k1 k2 (by decide) (by decide) (k3.symm.trans e30)
  have r1 : rightE 1 0 (-1) ⟨#[]⟩ = 0 := by decide +kernel
  have r2 : rightE 23 2 0 ⟨#[97, 32, 98]⟩ = 0 := by decide +kernel
  have r7 : rightE 17 1 0 ⟨#[]⟩ = 220 := by decide +kernel
  rw [r1, r2, r7]
  have y1 : (if (0 : Int) ≠ 0 then (⟨#[]⟩ : ByteArray) else baL (showL 1 0 (-1) (⟨#[]⟩ : ByteArray).data.toList)) = ⟨#[115, 101, 109, 119, 97, 105, 116, 32, 48, 32, 45, 49]⟩ := by
    rw [if_neg (by decide), show (⟨#[]⟩ : ByteArray).data.toList = [] from rfl, x1]; rfl
  have y2 : (if (0 : Int) ≠ 0 then (⟨#[]⟩ : ByteArray) else baL (showL 23 2 0 (⟨#[97, 32, 98]⟩ : ByteArray).data.toList)) = ⟨#[115, 101, 110, 100, 32, 50, 32, 61, 97, 32, 98]⟩ := by
    rw [if_neg (by decide), show (⟨#[97, 32, 98]⟩ : ByteArray).data.toList = [97, 32, 98] from rfl, x2]; rfl
  rw [y1, y2]
  refine ⟨_, _, rfl, ?_⟩
  refine br_t (by simp) (br_t rfl (br_t (by simp) (br_t rfl ⟨_, H.ld, _, H.ld, _, H.ld, _, H.ld, ?_⟩)))
  refine ⟨true, (eq_struct (P := Tryd.prog) (t := 30) (b := true) _ (by kernel_rfl) (by kernel_rfl) (by decide +kernel)).1, br_t rfl (br_t rfl (br_t rfl (br_t rfl (br_t rfl (br_t rfl (br_t rfl (br_t rfl ?_)))))))⟩
  refine Calls.ret (call_Name_sp H 31) ?_
  rintro v w9 ⟨rfl, rfl⟩
  refine ⟨_, rfl, ?_, H.drop.drop.drop.drop⟩
  rw [(nameB_out (op := 31) (by omega)).1]; simp
end
end Go.Proofs.YtmihgfhpmnomoaaDoor
