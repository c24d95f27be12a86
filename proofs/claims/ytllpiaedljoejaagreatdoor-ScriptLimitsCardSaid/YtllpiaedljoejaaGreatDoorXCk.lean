/- The library's copy check of a strings.Builder. Conditions: none. -/
import Derived.Test.YtllpiaedljoejaaGreatDoorProg
import Derived.WalkKit
import Derived.Lib.UnsafeStr
import Derived.Lib.Builder
import Derived.Laws.Externs
namespace Go.Proofs.YtllpiaedljoejaaGreatDoor
open Go.RowKit
set_option maxHeartbeats 1000000
set_option maxRecDepth 100000
theorem ckSize : (Tryz.prog.info? 41).map (·.size) = some 2 := by kernel_rfl
theorem ckUnd : Tryz.prog.underlying 39 = some (.pointer 41) := by kernel_rfl
theorem ckUns : Tryz.prog.underlying 167 = some .unsafePointer := by kernel_rfl
theorem ckLies : liesAt Tryz.prog Tryz.prog.depth 41 (2 / Tryz.prog.cellsOf 41) 0 41 1 = true := by kernel_rfl
theorem check_used (b : Nat) (w : World) (h0 : w.cell? ⟨b, 0, none⟩ = some (.pointer (some ⟨b, 0, none⟩))) :
    Calls Tryz.prog 33 #[.pointer (some ⟨b, 0, none⟩)] w fun e w' => e = .returned (.tuple #[]) ∧ w' = w := by
  obtain ⟨j, hj, _⟩ := Option.map_eq_some_iff.1 ckSize
  go_enter Tryz.func33, Tryz.ntmps33
  go_wp2
  rw [Lib.run_neq_ptr_same w _ ckUnd hj]
  go_wp2
  go_end0
  exact ⟨rfl, rfl⟩
theorem check_fresh (b : Nat) (w : World) (h0 : w.cell? ⟨b, 0, none⟩ = some (.pointer none)) (hsh : w.shape? b = some (41, 2)) (hfz : w.frozen? ⟨b, 0, none⟩ = false) :
    Calls Tryz.prog 33 #[.pointer (some ⟨b, 0, none⟩)] w fun e w' => e = .returned (.tuple #[]) ∧ w' = w.setCell ⟨b, 0, none⟩ (.pointer (some ⟨b, 0, none⟩)) := by
  obtain ⟨j, hj, hjs⟩ := Option.map_eq_some_iff.1 ckSize
  go_enter Tryz.func33, Tryz.ntmps33
  go_wp2
  rw [Lib.run_to_unsafe w ⟨b, 0, none⟩ ckUnd ckUns hj (by rw [hjs]; decide) hsh (Nat.zero_lt_succ 1)]
  simp only [Result.andThen]
  rw [Oper.upon_value]
  go_wp2
  rw [run_callFunc_extern Tryz.func76 (by kernel_rfl) (by kernel_rfl) (by kernel_rfl) (e := Extern.AbiNoEscape.same) (by kernel_rfl)]
  rw [Lib.run_noEscape]
  simp only [Result.andThen]
  rw [Oper.upon_value]
  go_wp2
  rw [Lib.run_from_unsafe w ⟨b, 0, none⟩ ckUns ckUnd hj hsh ckLies]
  simp only [Result.andThen]
  rw [Oper.upon_value]
  go_wp2
  go_end0
  exact ⟨rfl, rfl⟩
end Go.Proofs.YtllpiaedljoejaaGreatDoor
