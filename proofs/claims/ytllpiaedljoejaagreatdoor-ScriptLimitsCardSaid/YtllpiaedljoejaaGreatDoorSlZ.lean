/- Scripts at their limits: the law. Conditions: the listed variables' cells; its two numbers are a byte's. -/
import Derived.Test.YtllpiaedljoejaaGreatDoorSlE
import Derived.Test.YtllpiaedljoejaaGreatDoorSc5
namespace Go.Proofs.YtllpiaedljoejaaGreatDoor
open Go.Vc Go.Lib
set_option linter.unusedSimpArgs false
set_option linter.unusedVariables false
set_option maxRecDepth 100000
theorem ScriptLimits_any {w : World} (hG : ∀ w', Ch [] w w' → GlobX w') (hL : ∀ w', Ch [] w w' → LibX w') {many bytes : Int} (hp : 0 ≤ many ∧ many < 256) (hq : 0 ≤ bytes ∧ bytes < 256) :
    Calls Tryz.prog 3 #[.int .u8 many, .int .u8 bytes] w (Ret fun v w' => v = .bool true ∧ Ch [] w w') := by
  obtain ⟨k, rfl⟩ : ∃ k : Nat, many = k := ⟨many.toNat, by omega⟩
  obtain ⟨j, rfl⟩ : ∃ j : Nat, bytes = j := ⟨bytes.toNat, by omega⟩
  have en : IntKind.wrap .i64 (490 + IntKind.wrap .i64 ((k : Int).tmod 20)) = ((490 + k % 20 : Nat) : Int) := by
    rw [show ((k : Int).tmod 20) = ((k % 20 : Nat) : Int) from rfl, wrap64_nat (by omega), show (490 : Int) + ((k % 20 : Nat) : Int) = ((490 + k % 20 : Nat) : Int) by omega]
    exact wrap64_nat (by omega)
  have em : IntKind.wrap .i64 (65530 + IntKind.wrap .i64 ((j : Int).tmod 12)) = ((65530 + j % 12 : Nat) : Int) := by
    rw [show ((j : Int).tmod 12) = ((j % 12 : Nat) : Int) from rfl, wrap64_nat (by omega), show (65530 : Int) + ((j % 12 : Nat) : Int) = ((65530 + j % 12 : Nat) : Int) by omega]
    exact wrap64_nat (by omega)
  obtain ⟨n, hn⟩ : ∃ n, n = 490 + k % 20 := ⟨_, rfl⟩
  obtain ⟨m, hm⟩ : ∃ m, m = 65530 + j % 12 := ⟨_, rfl⟩
  rw [← hn] at en
  rw [← hm] at em
  have hn1 : 490 ≤ n := by omega
  have hn2 : n ≤ 509 := by omega
  have hm1 : 65530 ≤ m := by omega
  have hm2 : m ≤ 65541 := by omega
  have e10 : IntKind.wrap .i64 (10 * (n : Int)) = ((10 * n : Nat) : Int) := by
    rw [show 10 * (n : Int) = ((10 * n : Nat) : Int) by omega]
    exact wrap64_nat (by omega)
  clear hn hm hp hq
  apply purlinlaw27_ScriptLimits.calls
  unfold purlinlaw27_ScriptLimits.F
  refine ⟨by decide, by decide, fun q s i w' => ∃ c : Nat, i = c ∧ c ≤ n ∧ q = n - c ∧ s = nowsB c ∧ w' = w, ⟨_, 0, rfl, Nat.zero_le _, rfl, rfl, rfl⟩, ?_⟩
  rintro q dead w1 s i ⟨c, rfl, hc, rfl, rfl, rfl⟩
  unfold purlinlaw27_ScriptLimits.L0
  rw [en]
  refine br_dec (fun hlt => ?_) fun hge => ?_
  · have hk1 : IntKind.wrap .i64 ((c : Int) + 1) = ((c + 1 : Nat) : Int) := by rw [← Int.natCast_succ, wrap64_nat (by omega)]
    have hz : (⟨#[110, 111, 119, 10]⟩ : ByteArray).size = 4 := rfl
    have hs := nows_size c
    exact ⟨by omega, n - (c + 1), by omega, c + 1, hk1, by omega, rfl, nowsB_add c, rfl⟩
  have hcn : c = n := by omega
  subst hcn
  refine ⟨fun q long w' => ∃ l : Nat, long = hashB l ∧ 1 ≤ l ∧ l ≤ m ∧ q = m - l ∧ w' = w1, ⟨_, 1, rfl, Nat.le_refl _, by omega, rfl, rfl⟩, ?_⟩
  rintro q dead w2 long ⟨l, rfl, hl1, hl2, rfl, rfl⟩
  unfold purlinlaw27_ScriptLimits.L1
  simp only [em, en, e10, hash_size]
  refine br_dec (fun hlt => ?_) fun hge => ?_
  · have ed : IntKind.wrap .i64 ((m : Int) - (l : Int)) = ((m - l : Nat) : Int) := by
      rw [show (m : Int) - (l : Int) = ((m - l : Nat) : Int) by omega]
      exact wrap64_nat (by omega)
    have ei : (if ((m - l : Nat) : Int) < (l : Int) then ((m - l : Nat) : Int) else (l : Int)) = ((min (m - l) l : Nat) : Int) := by split <;> omega
    rw [ed, ei, toNat_nat, hash_cut (Nat.min_le_right _ _), hash_add, hash_size]
    exact ⟨by omega, by omega, by omega, m - (l + min (m - l) l), by omega, l + min (m - l) l, rfl, by omega, by omega, by simp⟩
  have hlm : l = m := by omega
  subst hlm
  refine Calls.ret (run_now hG hL hn1 hn2) ?_
  rintro v w3 ⟨hv, hc3⟩
  have hrun : ∃ (a : ByteArray) (x : Int), v = .tuple #[.string a, .int .i64 0, .int .i64 x] ∧ (if 500 < c then a = ⟨#[]⟩ ∧ x = 281 else a.size = 10 * c ∧ x = 0) := by
    by_cases h : 500 < c
    · rw [if_pos h] at hv
      exact ⟨_, _, hv, by rw [if_pos h]; exact ⟨rfl, rfl⟩⟩
    · rw [if_neg h] at hv
      refine ⟨_, _, hv, ?_⟩
      rw [if_neg h]
      refine ⟨?_, rfl⟩
      show (outs c).toArray.size = _
      rw [List.size_toArray, outs_len]
  clear hv
  obtain ⟨a, x, rfl, hax⟩ := hrun
  refine ⟨_, _, _, rfl, ?_⟩
  refine Calls.ret (run_hash (hL _ hc3) (by omega)) ?_
  rintro _ w4 ⟨rfl, hc4⟩
  refine ⟨_, _, _, rfl, ?_⟩
  have hcw := hc3.trans0 hc4
  refine Calls.ret (awake_sp (fun w' h => hG w' (hcw.trans0 h)) (fun w' h => hL w' (hcw.trans0 h))) ?_
  rintro _ w5 ⟨rfl, hc5⟩
  have hall := hcw.trans0 hc5
  have hee : ((⟨#[]⟩ : ByteArray).toList == (⟨#[]⟩ : ByteArray).toList) = true := by simp
  refine ⟨_, rfl, br_f rfl (br_f rfl (br_f rfl (br_f (by rw [hee]; rfl) ?_)))⟩
  by_cases h5 : 500 < c
  · rw [if_pos h5] at hax
    obtain ⟨rfl, rfl⟩ := hax
    have d5 : decide ((c : Int) ≤ 500) = false := decide_eq_false (by omega)
    rw [d5]
    refine br_f rfl ?_
    by_cases h6 : 65536 < l
    · have d6 : decide ((l : Int) ≤ 65536) = false := decide_eq_false (by omega)
      rw [if_pos h6, d6]
      exact br_f rfl (br_f rfl (br_t rfl (br_t hee (br_f rfl ⟨by simp, hall⟩))))
    · have d6 : decide ((l : Int) ≤ 65536) = true := decide_eq_true (by omega)
      rw [if_neg h6, d6]
      exact br_f rfl (br_f rfl (br_t rfl (br_t hee (br_t rfl ⟨by simp, hall⟩))))
  · rw [if_neg h5] at hax
    obtain ⟨ha, rfl⟩ := hax
    have d5 : decide ((c : Int) ≤ 500) = true := decide_eq_true (by omega)
    rw [d5, ha]
    refine br_f rfl ?_
    by_cases h6 : 65536 < l
    · have d6 : decide ((l : Int) ≤ 65536) = false := decide_eq_false (by omega)
      rw [if_pos h6, d6]
      exact br_f rfl (br_t rfl (br_t (by simp) (br_f rfl ⟨by simp, hall⟩)))
    · have d6 : decide ((l : Int) ≤ 65536) = true := decide_eq_true (by omega)
      rw [if_neg h6, d6]
      exact br_f rfl (br_t rfl (br_t (by simp) (br_t rfl ⟨by simp, hall⟩)))
end Go.Proofs.YtllpiaedljoejaaGreatDoor
