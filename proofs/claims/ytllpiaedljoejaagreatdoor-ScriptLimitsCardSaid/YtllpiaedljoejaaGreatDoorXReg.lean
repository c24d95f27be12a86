/- Closed runs: the schedules of the functions that are run are checked; methods. Conditions: none. -/
import Derived.Test.YtllpiaedljoejaaGreatDoorXEnv
import Derived.Test.YtllpiaedljoejaaGreatDoorVcYs
import Derived.Test.YtllpiaedljoejaaGreatDoorVcMeth
namespace Go.Proofs.YtllpiaedljoejaaGreatDoor
open Go.Vc
set_option linter.unusedSimpArgs false
set_option linter.unusedVariables false
set_option maxRecDepth 100000
noncomputable def okOne (f : Nat) : Bool :=
  match Tryz.prog.funcs[f]? with
  | some fn => match fn.body with | some c => regOkB Tryz.prog envX f c | none => true
  | none => true
theorem okAll : okL.all okOne = true := by kernel_rfl
theorem envX_reg (f : FuncId) (fn : Func) (c : Code) (ho : envX.okf f = true) (hf : Tryz.prog.funcs[f]? = some fn) (hb : fn.body = some c) : regOkB Tryz.prog envX f c = true := by
  have ho : okL.any (Nat.beq f) = true := ho
  obtain ⟨g, hg, he⟩ := List.any_eq_true.1 ho
  have := Nat.eq_of_beq_eq_true he
  subst this
  have h1 := List.all_eq_true.1 okAll f hg
  unfold okOne at h1
  simp only [hf, hb] at h1
  exact h1
theorem nm_line (b : Nat) (w : World) : (nilMethS "Expire" #[.iface 288 (.pointer (some ⟨b, 0, none⟩))] #[]).run Tryz.prog w = .ok (.func (.method "Expire") #[.iface 288 (.pointer (some ⟨b, 0, none⟩))] #[]) w := by kernel_rfl
theorem im_line (b : Nat) (args : Array Value) (w : World) : (callMethod (.iface 288 (.pointer (some ⟨b, 0, none⟩))) "Expire" args).run Tryz.prog w = .ok (.enter 368 (#[.pointer (some ⟨b, 0, none⟩)] ++ args)) w := by kernel_rfl
theorem envX_nm (t : TypeId) (m : String) (h : envX.nm t m = true) (b : Nat) (w : World) : (nilMethS m #[.iface t (.pointer (some ⟨b, 0, none⟩))] #[]).run Tryz.prog w = .ok (.func (.method m) #[.iface t (.pointer (some ⟨b, 0, none⟩))] #[]) w := by
  have h : (match Nat.beq t 288, m == "Expire" with | true, true => true | _, _ => false) = true := h
  split at h
  · rename_i h1 h2
    have e1 := Nat.eq_of_beq_eq_true h1
    have e2 := eq_of_beq h2
    subst e1; subst e2
    exact nm_line b w
  · cases h
theorem envX_im (t : TypeId) (m : String) (f : FuncId) (h : envX.im t m = some f) (b : Nat) (args : Array Value) (w : World) : (callMethod (.iface t (.pointer (some ⟨b, 0, none⟩))) m args).run Tryz.prog w = .ok (.enter f (#[.pointer (some ⟨b, 0, none⟩)] ++ args)) w := by
  have h : (match Nat.beq t 288, m == "Expire" with | true, true => some 368 | _, _ => none) = some f := h
  split at h
  · rename_i h1 h2
    have e1 := Nat.eq_of_beq_eq_true h1
    have e2 := eq_of_beq h2
    subst e1; subst e2
    cases h
    exact im_line b args w
  · cases h
theorem envX_ok : envX.Ok := ⟨envX_reg, envX_nm, envX_im⟩
end Go.Proofs.YtllpiaedljoejaaGreatDoor
