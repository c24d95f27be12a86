/- Calls: CallNames returns true. Conditions: none. -/
import Derived.Test.YtmihgfhpmnomoaaDoorCaO
import Derived.Test.YtmihgfhpmnomoaaDoorCl1
namespace Go.Proofs.YtmihgfhpmnomoaaDoor
open Go.Vc Go.Lib
set_option linter.unusedSimpArgs false
set_option linter.unusedVariables false
set_option maxRecDepth 100000

theorem CallNames_any {w0 : World} (hv : LibV (hpOf w0)) (op : Int) (name : ByteArray) : Calls Tryd.prog 3 #[.int .i64 op, .string name] w0 (Ret fun v w' => v = .bool true ∧ Ch [] w0 w') := by
  have H := St.init w0
  have hm := hle_refl (hpOf w0)
  apply purlinlaw21_CallNames.calls
  unfold purlinlaw21_CallNames.F
  refine Calls.ret (ref21_Name_sp H op) ?_
  rintro v w1 ⟨rfl, H⟩
  refine ⟨_, _, rfl, ?_⟩
  refine Calls.ret (call_Name_sp H op) ?_
  rintro v w2 ⟨rfl, rfl⟩
  refine ⟨_, rfl, ?_⟩
  refine Calls.ret (call_Number_sp H (nameB op)) ?_
  rintro v w3 ⟨n, ok, rfl, hok, hno, rfl⟩
  refine ⟨_, _, rfl, ?_⟩
  refine Calls.ret (awake21_sp H hv) ?_
  rintro v w4 ⟨rfl, H⟩
  refine ⟨_, rfl, br_f rfl (br_f (by simp) ?_)⟩
  have k0 : purlinlaw21_CallNames.K0 name (fun v w' => v = .bool true ∧ Ch [] w0 w') (nameB op) (nameB op) w4 := by
    unfold purlinlaw21_CallNames.K0
    refine br_dec (fun hl => ?_) fun hl => ?_
    · refine Calls.ret (awake21_sp H hv) ?_
      rintro v w5 ⟨rfl, H⟩
      exact ⟨_, rfl, br_t rfl (br_t (by simp) ⟨by simpa using hl, H.fin hm⟩)⟩
    · refine Calls.ret (call_Number_sp H name) ?_
      rintro v w5 ⟨k, ok2, rfl, hok2, hno2, rfl⟩
      refine ⟨_, _, rfl, ?_⟩
      cases ok2 with
      | true =>
        obtain ⟨k1, k2, k3⟩ := hok2 rfl
        refine br_t rfl ?_
        refine Calls.ret (call_Name_sp H k) ?_
        rintro v w6 ⟨rfl, rfl⟩
        have hne : name ≠ ⟨#[]⟩ := by rw [k3]; exact nameB_in k1 k2
        refine ⟨_, rfl, br_t (by rw [k3]; simp) ⟨?_, H.fin hm⟩⟩
        rw [ba_beq, decide_eq_false hne]; rfl
      | false =>
        obtain ⟨rfl, hnone⟩ := hno2 rfl
        refine br_f rfl ?_
        refine ⟨fun n j w' => ∃ q : Nat, j = q ∧ 1 ≤ q ∧ q ≤ 31 ∧ n = 31 - q ∧ St w0 (hpOf w0) w' [], ⟨_, 1, rfl, by omega, by omega, rfl, H⟩, ?_⟩
        rintro n9 dead w6 j ⟨q, rfl, hq1, hq2, rfl, H⟩
        unfold purlinlaw21_CallNames.L0
        refine br_dec (fun hlt => ?_) fun hge => ⟨rfl, H.fin hm⟩
        refine Calls.ret (ref21_Name_sp H q) ?_
        rintro v w7 ⟨rfl, H⟩
        refine ⟨_, _, rfl, ?_⟩
        rw [ba_beq]
        refine br_f (decide_eq_false fun h => hnone q (by omega) (by omega) h.symm) ?_
        exact ⟨31 - (q + 1), by omega, q + 1, by rw [← Int.natCast_succ, wrap64_nat (by omega)], by omega, by omega, rfl, H⟩
  have hokv : ok = !(decide (nameB op = ⟨#[]⟩)) := by
    cases ok with
    | true =>
      obtain ⟨k1, k2, k3⟩ := hok rfl
      rw [decide_eq_false (by rw [k3]; exact nameB_in k1 k2)]; rfl
    | false =>
      obtain ⟨_, h⟩ := hno rfl
      rw [decide_eq_true (nameB_empty.2 fun hin => h op hin.1 hin.2 rfl)]; rfl
  refine br_f (by rw [ba_beq, hokv]; simp) ?_
  cases ok with
  | true =>
    obtain ⟨k1, k2, k3⟩ := hok rfl
    have hin : 1 ≤ op ∧ op ≤ 30 := Classical.not_not.1 fun hn => by
      have := (nameB_out hn).1
      rw [k3] at this
      exact nameB_in k1 k2 this
    have : op = n := nameB_inj hin.1 hin.2 k1 k2 k3
    subst this
    exact br_t rfl (br_f (by simp) (br_f rfl k0))
  | false =>
    obtain ⟨rfl, _⟩ := hno rfl
    exact br_f rfl (br_t rfl (br_f rfl k0))
end Go.Proofs.YtmihgfhpmnomoaaDoor
