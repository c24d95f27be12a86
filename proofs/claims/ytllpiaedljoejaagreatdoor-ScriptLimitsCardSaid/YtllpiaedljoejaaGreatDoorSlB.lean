/- Scripts: one line is read, one answer is made: closed runs. Conditions: the listed variables' cells. -/
import Derived.Test.YtllpiaedljoejaaGreatDoorXAw
namespace Go.Proofs.YtllpiaedljoejaaGreatDoor
open Go.Vc Go.Lib
set_option linter.unusedSimpArgs false
set_option linter.unusedVariables false
set_option maxRecDepth 100000
def nowB : ByteArray := ⟨#[110, 111, 119]⟩
def badB : ByteArray := ⟨#[101, 114, 114, 111, 114, 32, 50, 56, 51]⟩
def nowV : Value := .tuple #[.agg #[.string nowB, .int .i64 0, .slice none 0 0, .int .i64 0, .int .i64 0, .int .i64 0, .string ⟨#[]⟩], .bool true]
theorem bad_run : (callF Tryz.prog envX 1000 12 [.int .i64 283] initX).map (·.1) = some (.string badB) := by kernel_rfl
theorem parse_run : (callF Tryz.prog envX 1000 21 [.string nowB] initX).map (·.1) = some nowV := by kernel_rfl
theorem bad_sp {w : World} (hG : GlobX w) (hL : LibX w) : Calls Tryz.prog 12 #[.int .i64 283] w (Ret fun u w' => u = .string badB ∧ Ch [] w w') := run_of hG hL bad_run rfl rfl
theorem two_of {ρ : RM} {p q : Value} {ys : List Value} (hp : plainV p = true) (hq : plainV q = true) (h : VRs ρ [p, q] ys) : ys = [p, q] := by
  cases h with
  | cons h1 h2 =>
    cases h2 with
    | cons h3 h4 =>
      cases h4
      rw [h1.of_plainV hp, h3.of_plainV hq]
theorem pair_of {ρ : RM} {p q x : Value} (hp : plainV p = true) (hq : plainV q = true) (h : VR ρ (.tuple #[p, q]) x) : x = .tuple #[p, q] := by
  cases h with
  | plain _ => rfl
  | tuple h2 =>
    rename_i b
    have h3 : b.toList = [p, q] := two_of hp hq h2
    cases b with
    | mk l => have h3 : l = [p, q] := h3
              subst h3
              rfl
theorem parse_sp {w : World} (hG : GlobX w) (hL : LibX w) : Calls Tryz.prog 21 #[.string nowB] w (Ret fun u w' => u = nowV ∧ Ch [] w w') := by
  cases hc : callF Tryz.prog envX 1000 21 [.string nowB] initX with
  | none => have hr := parse_run; rw [hc] at hr; cases hr
  | some q =>
    obtain ⟨u, h'⟩ := q
    have hr := parse_run
    rw [hc] at hr
    simp only [Option.map_some, Option.some.injEq] at hr
    subst hr
    have := callF_sound mixed envX_ok (envX_exts hL) 1000 21 [.string nowB] initX nowV h' hc rho0 w [.string nowB] (rel0 hG) (VRs.plain rfl)
    refine this.mono ?_
    rintro _ w' ⟨x, rfl, ρ', h1, h2, h3⟩
    exact ⟨x, rfl, pair_of rfl rfl h3, h2.ch⟩
end Go.Proofs.YtllpiaedljoejaaGreatDoor
