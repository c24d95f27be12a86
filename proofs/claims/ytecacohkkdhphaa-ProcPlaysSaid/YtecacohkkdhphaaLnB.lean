/- Lines of those who wait: which of two comes first. Conditions: none. -/
import Derived.Test.YtecacohkkdhphaaLnA
import Derived.Test.YtecacohkkdhphaaNf
import Derived.Test.YtecacohkkdhphaaVcGr
namespace Go.Proofs.Ytecacohkkdhphaa
open Go.Vc
set_option linter.unusedSimpArgs false
set_option linter.unusedVariables false
set_option maxRecDepth 100000

def encW : Enc Wt := ⟨4, fun x => [.int .i64 x.id, .int .i64 x.prio, .int .i64 x.until_, .int .i64 x.came], fun _ => rfl, by decide, fun x v hv => by
  simp at hv; rcases hv with h | h | h | h <;> rw [h] <;> rfl⟩

theorem isNaN_any {w : World} (x : Int) : Calls Try.prog 99 #[.int .i64 x] w (Ret fun v w' => v = .bool false ∧ w' = w) := by
  apply cmp_isNaN_int.calls
  exact ⟨by simp, rfl⟩
theorem Compare_any {w : World} (x y : Int) : Calls Try.prog 68 #[.int .i64 x, .int .i64 y] w (Ret fun v w' => v = .int .i64 (cmpI x y) ∧ w' = w) := by
  apply cmp_Compare_int.calls
  unfold cmp_Compare_int.F
  refine Calls.ret (isNaN_any x) ?_
  rintro v w1 ⟨rfl, rfl⟩
  refine ⟨_, rfl, ?_⟩
  refine Calls.ret (isNaN_any y) ?_
  rintro v w2 ⟨rfl, rfl⟩
  refine ⟨_, rfl, br_f rfl (br_f rfl ?_)⟩
  refine br_dec (fun h => ⟨by simp [cmpI, h], rfl⟩) fun h => br_dec (fun h' => ⟨?_, rfl⟩) fun h' => ⟨?_, rfl⟩
  · have h2 : y < x := h'
    simp [cmpI, h, h2]
  · have h2 : ¬ y < x := h'
    simp [cmpI, h, h2]
theorem Or_any {w : World} {b : Nat} (x y : Int) (h : Row w b 3 [.int .i64 x, .int .i64 y]) : Calls Try.prog 67 #[.slice (some ⟨b, 0, none⟩) 2 2] w (Ret fun v w' => v = .int .i64 (orI x y) ∧ w' = w) := by
  apply cmp_Or_int.calls
  unfold cmp_Or_int.F
  refine ⟨fun n i w' => w' = w ∧ ((n = 2 ∧ i = 0) ∨ (n = 1 ∧ i = 1 ∧ x = 0) ∨ (n = 0 ∧ i = 2 ∧ x = 0 ∧ y = 0)), ⟨2, rfl, .inl ⟨rfl, rfl⟩⟩, ?_⟩
  rintro n dead w1 i ⟨rfl, h'⟩
  unfold cmp_Or_int.L0
  rcases h' with ⟨rfl, rfl⟩ | ⟨rfl, rfl, hx⟩ | ⟨rfl, rfl, hx, hy⟩
  · refine br_t rfl ⟨by omega, by decide, _, h.cell rfl, ?_⟩
    refine br_intro (fun hx => ⟨?_, rfl⟩) fun hx => ⟨1, by omega, rfl, .inr (.inl ⟨rfl, rfl, by simpa using hx⟩)⟩
    have : x ≠ 0 := by simpa using hx
    simp [orI, this]
  · refine br_t rfl ⟨by omega, by decide, _, h.cell rfl, ?_⟩
    refine br_intro (fun hy => ⟨?_, rfl⟩) fun hy => ⟨0, by omega, rfl, .inr (.inr ⟨rfl, rfl, hx, by simpa using hy⟩)⟩
    simp [orI, hx]
  · refine br_f rfl ⟨?_, rfl⟩
    simp [orI, hx, hy]

theorem order_any {w : World} (a b : Wt) : Calls Try.prog 82 #[.agg #[.int .i64 a.id, .int .i64 a.prio, .int .i64 a.until_, .int .i64 a.came], .agg #[.int .i64 b.id, .int .i64 b.prio, .int .i64 b.until_, .int .i64 b.came]] w
    (Ret fun v w' => v = .int .i64 (cfO a b) ∧ Gr w w') := by
  apply line_order.calls
  unfold line_order.F
  refine newBlk_gr fun b4 w1 hb4 hs1 hr1 hg1 => newBlk_gr fun b5 w2 hb5 hs2 hr2 hg2 => ?_
  refine drawS_gr fun w3 hg3 hh3 => ?_
  have r1 := hg3.ch.row (hg2.ch.row hr1 (by simp)) (by simp)
  have r2 := hg3.ch.row hr2 (by simp)
  refine ⟨_, r2.cell rfl, _, r1.cell rfl, _, fun w9 h9 => (h9.ch.row r1 (by simp)).cell rfl, _, fun w9 h9 => (h9.ch.row r2 (by simp)).cell rfl, ?_⟩
  refine Calls.ret (Compare_any _ _) ?_
  rintro v w4 ⟨rfl, rfl⟩
  refine ⟨_, rfl, Gr.refl _, ?_⟩
  refine Calls.ret (Compare_any _ _) ?_
  rintro v w5 ⟨rfl, rfl⟩
  refine ⟨_, rfl, ?_⟩
  refine newBlk_gr fun b6 w6 hb6 hs6 hr6 hg6 => ?_
  refine Calls.ret (Or_any _ _ hr6) ?_
  rintro v w7 ⟨rfl, rfl⟩
  exact ⟨_, rfl, rfl, ((hg1.trans hg2).trans hg3).trans hg6⟩

theorem orderE_any {w : World} (a b : Wt) : Calls Try.prog 81 #[.agg #[.int .i64 a.id, .int .i64 a.prio, .int .i64 a.until_, .int .i64 a.came], .agg #[.int .i64 b.id, .int .i64 b.prio, .int .i64 b.until_, .int .i64 b.came]] w
    (Ret fun v w' => v = .int .i64 (cfE a b) ∧ Gr w w') := by
  apply line_Line_Expire_2.calls
  unfold line_Line_Expire_2.F
  refine newBlk_gr fun b4 w1 hb4 hs1 hr1 hg1 => newBlk_gr fun b5 w2 hb5 hs2 hr2 hg2 => ?_
  refine drawS_gr fun w3 hg3 hh3 => ?_
  have r1 := hg3.ch.row (hg2.ch.row hr1 (by simp)) (by simp)
  have r2 := hg3.ch.row hr2 (by simp)
  have s1 : ∀ w9, Gr w3 w9 → Row w9 b4 139 _ := fun w9 h9 => h9.ch.row r1 (by simp)
  have s2 : ∀ w9, Gr w3 w9 → Row w9 b5 139 _ := fun w9 h9 => h9.ch.row r2 (by simp)
  refine ⟨_, r1.cell rfl, _, r2.cell rfl, _, fun w9 h9 => (s1 w9 h9).cell rfl, _, fun w9 h9 => (s1 w9 h9).cell rfl, _, fun w9 h9 => (s1 w9 h9).cell rfl, _, fun w9 h9 => (s1 w9 h9).cell rfl,
    _, fun w9 h9 => (s2 w9 h9).cell rfl, _, fun w9 h9 => (s2 w9 h9).cell rfl, _, fun w9 h9 => (s2 w9 h9).cell rfl, _, fun w9 h9 => (s2 w9 h9).cell rfl, ?_⟩
  refine Calls.ret (Compare_any _ _) ?_
  rintro v w4 ⟨rfl, rfl⟩
  refine ⟨_, rfl, Gr.refl _, ?_⟩
  refine Calls.ret (order_any a b) ?_
  rintro v w5 ⟨rfl, hg5⟩
  refine ⟨_, rfl, ?_⟩
  refine newBlk_gr fun b6 w6 hb6 hs6 hr6 hg6 => ?_
  refine Calls.ret (Or_any _ _ hr6) ?_
  rintro v w7 ⟨rfl, rfl⟩
  exact ⟨_, rfl, rfl, (((hg1.trans hg2).trans hg3).trans hg5).trans hg6⟩
end Go.Proofs.Ytecacohkkdhphaa
