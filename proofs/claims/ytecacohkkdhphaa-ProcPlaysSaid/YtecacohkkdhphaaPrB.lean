/- Processes: Start, Stop, Block, Wake, Suspend, Resume, Raise, Yield, Reset, New. Conditions: none. -/
import Derived.Test.YtecacohkkdhphaaPrA
namespace Go.Proofs.Ytecacohkkdhphaa
open Go.Vc
set_option linter.unusedSimpArgs false
set_option linter.unusedVariables false
set_option maxRecDepth 100000

theorem enter0 {f : Nat} {fn : Func} {args : Array Value} {w : World} (hf : Try.prog.funcs[f]? = some fn) (hn : (fn.name == "runtime.NumGoroutine") = false) (hb : fn.body.isNone = false) :
    (callV (.func (.func f) #[] #[]) args).run Try.prog w = .ok (.enter f args) w := by
  have := callV_run (cap := #[]) (args := args) (w := w) hf hn hb
  simpa using this

/-- What a call of a kind does to a process, if it is as told. 0 Start, 1 Stop, 2 Block, 3 Wake, 4 Suspend, 5 Resume, 6 Raise, 7 Yield. -/
def opIs (k : Int) (x : Pr) : Bool :=
  if k = 0 then x.st == 0 else if k = 1 then x.alive else if k = 2 then x.may else if k = 3 then x.st == 2 else if k = 4 then x.alive && !x.held else if k = 5 then x.held else if k = 6 then x.alive else x.may
def opDo (k : Int) (first prio : Int) (x : Pr) : Pr :=
  if k = 1 then dorm first else if k = 2 then ⟨2, x.held, x.prio, x.came⟩ else if k = 4 then ⟨x.st, true, x.prio, x.came⟩ else if k = 5 then ⟨x.st, false, x.prio, x.came⟩ else if k = 6 then ⟨x.st, x.held, prio, x.came⟩ else x
def opZ (k : Int) : Int := if k = 0 ∨ k = 3 then 1 else if k = 5 ∨ k = 6 ∨ k = 7 then 2 else 0
def PT.first (t : PT) (i : Int) : Int := t.pr[i.toNat]?.getD 0
def PT.opE (t : PT) (k i : Int) : Int := t.withE i (opIs k)
def PT.opS (t : PT) (k i prio : Int) : PT := t.withS i (opIs k) (opDo k (t.first i) prio) (opZ k)
def PT.reset (t : PT) : PT := ⟨t.pr, t.pr.map dorm, t.came⟩
def PT.raiseE (t : PT) (i prio : Int) : Int := if prio < 0 ∨ 63 < prio then (if i < 0 ∨ (t.l.length : Int) ≤ i then 170 else 172) else t.opE 6 i
def PT.raiseS (t : PT) (i prio : Int) : PT := if prio < 0 ∨ 63 < prio then t else t.opS 6 i prio

section
variable {e w : World} {m : Hp} {L : List HP} {b n : Nat} {t : PT}
theorem withS_congr {is is2 : Pr → Bool} {f f2 : Pr → Pr} {i z : Int} (h1 : ∀ (k : Nat) (x : Pr), i = k → t.l[k]? = some x → is x = is2 x) (h2 : ∀ (k : Nat) (x : Pr), i = k → t.l[k]? = some x → f x = f2 x) :
    t.withE i is = t.withE i is2 ∧ t.withS i is f z = t.withS i is2 f2 z := by
  unfold PT.withE PT.withS
  by_cases hi : i < 0 ∨ (t.l.length : Int) ≤ i
  · simp [hi]
  · obtain ⟨k, rfl⟩ := Int.eq_ofNat_of_zero_le (show 0 ≤ i by omega)
    have hk : k < t.l.length := by omega
    obtain ⟨x, hxk⟩ : ∃ x, t.l[k]? = some x := ⟨t.l[k], by simp [hk]⟩
    have hxe : t.l[k] = x := by have h := hxk; rw [List.getElem?_eq_getElem hk] at h; exact Option.some.inj h
    rw [if_neg hi, if_neg hi, if_neg hi, if_neg hi, toNat_nat, hxk, Option.getD_some, h1 k x rfl hxk, h2 k x rfl hxk]
    exact ⟨rfl, rfl⟩

theorem proc_Block_sp (H : St e m w (table b t :: L)) (hf : t.fit n) (hn : n ≤ 1000000) (i : Int) : Calls Try.prog 57 #[.pointer (some ⟨b, 0, none⟩), .int .i64 i] w (Ret fun v w' => v = .int .i64 (t.opE 2 i) ∧ St e m w' (table b (t.opS 2 i 0) :: L)) := by
  apply proc_Table_Block.calls
  unfold proc_Table_Block.F
  refine Calls.ret (with_sp Pr.may (fun x => ⟨2, x.held, x.prio, x.came⟩) H (by have := hf.cn; omega) hf.c0 (fun w k x _ hx H => ⟨_, _, _, enter0 Try.func64 (by kernel_rfl) (by kernel_rfl), may_sp H x⟩) (fun w k x a c g c2 _ hx H => ⟨_, _, _, enter0 Try.func87 (by kernel_rfl) (by kernel_rfl), ?_⟩)) ?_
  · apply proc_Table_Block_1.calls
    unfold proc_Table_Block_1.F
    exact St.setEl H hx (j := 0) (x' := ⟨2, x.held, x.prio, x.came⟩) (by show 0 + k * 4 = k * 4 + 0; omega) (Nat.le_of_ble_eq_true rfl) rfl fun w H => ⟨rfl, H⟩
  · rintro v w' ⟨rfl, H⟩
    exact ⟨_, rfl, rfl, H⟩
theorem proc_Yield_sp (H : St e m w (table b t :: L)) (hf : t.fit n) (hn : n ≤ 1000000) (i : Int) : Calls Try.prog 33 #[.pointer (some ⟨b, 0, none⟩), .int .i64 i] w (Ret fun v w' => v = .int .i64 (t.opE 7 i) ∧ St e m w' (table b (t.opS 7 i 0) :: L)) := by
  apply proc_Table_Yield.calls
  unfold proc_Table_Yield.F
  refine Calls.ret (with_sp Pr.may (fun x => x) H (by have := hf.cn; omega) hf.c0 (fun w k x _ hx H => ⟨_, _, _, enter0 Try.func64 (by kernel_rfl) (by kernel_rfl), may_sp H x⟩) (fun w k x a c g c2 _ hx H => ⟨_, _, _, enter0 Try.func70 (by kernel_rfl) (by kernel_rfl), ?_⟩)) ?_
  · apply proc_Table_Yield_1.calls
    unfold proc_Table_Yield_1.F
    refine ⟨rfl, ?_⟩
    have hs : t.l.set k x = t.l := by
      obtain ⟨hk, he⟩ := List.getElem?_eq_some_iff.1 hx
      rw [← he]; exact List.set_getElem_self hk
    rw [hs]; exact H
  · rintro v w' ⟨rfl, H⟩
    exact ⟨_, rfl, rfl, H⟩
theorem set_self {l : List Pr} {k : Nat} {x : Pr} (hx : l[k]? = some x) : l.set k x = l := by
  obtain ⟨hk, he⟩ := List.getElem?_eq_some_iff.1 hx
  rw [← he]; exact List.set_getElem_self hk
theorem proc_Wake_sp (H : St e m w (table b t :: L)) (hf : t.fit n) (hn : n ≤ 1000000) (i : Int) : Calls Try.prog 58 #[.pointer (some ⟨b, 0, none⟩), .int .i64 i] w (Ret fun v w' => v = .int .i64 (t.opE 3 i) ∧ St e m w' (table b (t.opS 3 i 0) :: L)) := by
  apply proc_Table_Wake.calls
  unfold proc_Table_Wake.F
  refine Calls.ret (with_sp (fun x => x.st == 2) (fun x => x) H (by have := hf.cn; omega) hf.c0 (fun w k x _ hx H => ⟨_, _, _, enter0 Try.func88 (by kernel_rfl) (by kernel_rfl), ?_⟩) (fun w k x a c g c2 _ hx H => ⟨_, _, _, enter0 Try.func89 (by kernel_rfl) (by kernel_rfl), ?_⟩)) ?_
  · apply proc_Table_Wake_1.calls
    unfold proc_Table_Wake_1.F
    exact H.new fun b w H => ⟨_, H.ld, rfl, H.re⟩
  · apply proc_Table_Wake_2.calls
    unfold proc_Table_Wake_2.F
    rw [set_self hx]; exact ⟨rfl, H⟩
  · rintro v w' ⟨rfl, H⟩
    exact ⟨_, rfl, rfl, H⟩
theorem proc_Suspend_sp (H : St e m w (table b t :: L)) (hf : t.fit n) (hn : n ≤ 1000000) (i : Int) : Calls Try.prog 60 #[.pointer (some ⟨b, 0, none⟩), .int .i64 i] w (Ret fun v w' => v = .int .i64 (t.opE 4 i) ∧ St e m w' (table b (t.opS 4 i 0) :: L)) := by
  apply proc_Table_Suspend.calls
  unfold proc_Table_Suspend.F
  refine Calls.ret (with_sp (fun x => x.alive && !x.held) (fun x => ⟨x.st, true, x.prio, x.came⟩) H (by have := hf.cn; omega) hf.c0 (fun w k x _ hx H => ⟨_, _, _, enter0 Try.func92 (by kernel_rfl) (by kernel_rfl), ?_⟩) (fun w k x a c g c2 _ hx H => ⟨_, _, _, enter0 Try.func93 (by kernel_rfl) (by kernel_rfl), ?_⟩)) ?_
  · apply proc_Table_Suspend_1.calls
    unfold proc_Table_Suspend_1.F
    refine H.new fun b w H => ⟨_, H.ld, _, H.ld, _, H.ld, _, H.ld, ?_⟩
    refine Calls.ret (alive_sp H x) ?_
    rintro v w1 ⟨rfl, H⟩
    refine ⟨_, rfl, br_intro (fun h => ⟨_, H.ld, ?_⟩) fun h => ?_⟩
    · exact ⟨by simp [h], H.re⟩
    · exact ⟨by simp [h], H.re⟩
  · apply proc_Table_Suspend_2.calls
    unfold proc_Table_Suspend_2.F
    exact St.setEl H hx (j := 1) (x' := ⟨x.st, true, x.prio, x.came⟩) (by show 0 + k * 4 + 1 = k * 4 + 1; omega) (Nat.le_of_ble_eq_true rfl) rfl fun w H => ⟨rfl, H⟩
  · rintro v w' ⟨rfl, H⟩
    exact ⟨_, rfl, rfl, H⟩
theorem proc_Resume_sp (H : St e m w (table b t :: L)) (hf : t.fit n) (hn : n ≤ 1000000) (i : Int) : Calls Try.prog 61 #[.pointer (some ⟨b, 0, none⟩), .int .i64 i] w (Ret fun v w' => v = .int .i64 (t.opE 5 i) ∧ St e m w' (table b (t.opS 5 i 0) :: L)) := by
  apply proc_Table_Resume.calls
  unfold proc_Table_Resume.F
  refine Calls.ret (with_sp (fun x => x.held) (fun x => ⟨x.st, false, x.prio, x.came⟩) H (by have := hf.cn; omega) hf.c0 (fun w k x _ hx H => ⟨_, _, _, enter0 Try.func94 (by kernel_rfl) (by kernel_rfl), ?_⟩) (fun w k x a c g c2 _ hx H => ⟨_, _, _, enter0 Try.func95 (by kernel_rfl) (by kernel_rfl), ?_⟩)) ?_
  · apply proc_Table_Resume_1.calls
    unfold proc_Table_Resume_1.F
    exact H.new fun b w H => ⟨_, H.ld, rfl, H.re⟩
  · apply proc_Table_Resume_2.calls
    unfold proc_Table_Resume_2.F
    exact St.setEl H hx (j := 1) (x' := ⟨x.st, false, x.prio, x.came⟩) (by show 0 + k * 4 + 1 = k * 4 + 1; omega) (Nat.le_of_ble_eq_true rfl) rfl fun w H => ⟨rfl, H⟩
  · rintro v w' ⟨rfl, H⟩
    exact ⟨_, rfl, rfl, H⟩
theorem proc_Raise_sp (H : St e m w (table b t :: L)) (hf : t.fit n) (hn : n ≤ 1000000) (i prio : Int) : Calls Try.prog 62 #[.pointer (some ⟨b, 0, none⟩), .int .i64 i, .int .i64 prio] w (Ret fun v w' => v = .int .i64 (t.raiseE i prio) ∧ St e m w' (table b (t.raiseS i prio) :: L)) := by
  apply proc_Table_Raise.calls
  unfold proc_Table_Raise.F PT.raiseE PT.raiseS
  refine H.new fun pb_ w H => ⟨_, H.ld, ?_⟩
  have bad : (prio < 0 ∨ 63 < prio) → br (decide (i < 0)) (Value.int .i64 170 = .int .i64 (if prio < 0 ∨ 63 < prio then (if i < 0 ∨ (t.l.length : Int) ≤ i then 170 else 172) else t.opE 6 i) ∧ St e m w (table b (if prio < 0 ∨ 63 < prio then t else t.opS 6 i prio) :: L))
      (∃ A : Option Addr, ∃ N : Nat, ∃ C : Nat, w.cell? ⟨b, 0 + 1, none⟩ = some (.slice A N C) ∧ br (decide (i ≥ ((N : Nat) : Int))) (Value.int .i64 170 = .int .i64 (if prio < 0 ∨ 63 < prio then (if i < 0 ∨ (t.l.length : Int) ≤ i then 170 else 172) else t.opE 6 i) ∧ St e m w (table b (if prio < 0 ∨ 63 < prio then t else t.opS 6 i prio) :: L))
        (Value.int .i64 172 = .int .i64 (if prio < 0 ∨ 63 < prio then (if i < 0 ∨ (t.l.length : Int) ≤ i then 170 else 172) else t.opE 6 i) ∧ St e m w (table b (if prio < 0 ∨ 63 < prio then t else t.opS 6 i prio) :: L))) := by
    intro hp
    simp only [if_pos hp]
    have H0 : St e m w (table b t :: L) := H.re
    refine br_dec (fun h => ⟨by rw [if_pos (.inl h)], H0⟩) fun h1 => ?_
    obtain ⟨a, c, a2, c2, H⟩ := table_open H0
    refine ⟨_, _, _, H.ld, ?_⟩
    exact br_dec (fun h => ⟨by rw [if_pos (.inr h)], H0⟩) fun h2 => ⟨by rw [if_neg (by omega)], H0⟩
  refine br_dec (fun h => bad (.inl h)) fun h1 => ⟨_, H.ld, br_dec (fun h => bad (.inr h)) fun h2 => ?_⟩
  have hp : ¬ (prio < 0 ∨ 63 < prio) := by omega
  simp only [if_neg hp]
  refine Calls.ret (with_sp Pr.alive (fun x => ⟨x.st, x.held, prio, x.came⟩) (H.at_ (A := table b t)) (by have := hf.cn; omega) hf.c0 (fun w k x _ hx H => ⟨_, _, _, enter0 Try.func90 (by kernel_rfl) (by kernel_rfl), alive_sp H x⟩) (fun w k x a c g c2 _ hx H => ⟨_, _, _, callV_run Try.func96 (by kernel_rfl) (by kernel_rfl), ?_⟩)) ?_
  · refine proc_Table_Raise_1.calls _ _ _ _ _ _ ?_
    unfold proc_Table_Raise_1.F
    refine ⟨_, H.ld, ?_⟩
    exact St.setEl H hx (j := 2) (x' := ⟨x.st, x.held, prio, x.came⟩) (by show 0 + k * 4 + 2 = k * 4 + 2; omega) (Nat.le_of_ble_eq_true rfl) rfl fun w H => ⟨rfl, H⟩
  · rintro v w' ⟨rfl, H⟩
    exact ⟨_, rfl, rfl, H.re⟩
end
end Go.Proofs.Ytecacohkkdhphaa
