/- Calls: a plan among the arguments. Conditions: none. -/
import Derived.Test.YtmihgfhpmnomoaaDoorCaC
import Derived.Test.YtmihgfhpmnomoaaDoorVcLaid
namespace Go.Proofs.YtmihgfhpmnomoaaDoor
open Go.Vc Go.ChangeShapes Go.WideShapes Go.ChangeAt Go.RowKit
set_option linter.unusedSimpArgs false
set_option linter.unusedVariables false
set_option maxRecDepth 100000

theorem leafC : leafs Tryd.prog 40 49 = some [.int .u8, .int .u8, .int .u8, .int .u8, .int .u8, .int .u16] := by kernel_rfl
theorem decC (cs : List Value) (h : fits [.int .u8, .int .u8, .int .u8, .int .u8, .int .u8, .int .u16] cs) : ∃ x : Chan, (0 ≤ x.kind ∧ x.kind < 256) ∧ cs = encC.f x := by
  obtain ⟨_, _, rfl, ⟨a, rfl, wa⟩, h1⟩ := fits_cons h
  obtain ⟨_, _, rfl, ⟨b, rfl, wb⟩, h2⟩ := fits_cons h1
  obtain ⟨_, _, rfl, ⟨c, rfl, wc⟩, h3⟩ := fits_cons h2
  obtain ⟨_, _, rfl, ⟨d, rfl, wd⟩, h4⟩ := fits_cons h3
  obtain ⟨_, _, rfl, ⟨e, rfl, we⟩, h5⟩ := fits_cons h4
  obtain ⟨_, _, rfl, ⟨f, rfl, wf⟩, h6⟩ := fits_cons h5
  obtain rfl := fits_nil h6
  have := bounds_u8 wa
  exact ⟨⟨a, b, c, d, e, f⟩, show 0 ≤ a ∧ a < 256 by omega, rfl⟩
theorem arg_plan {H : Type} {enc : TypeId × Value → H} {w : World} {base : Nat} {spare : Nat → Bool} {held : Bool} {r : Reach} {b0 : Nat} {v : Value} {d : DataW H} {ps : List MemPlace}
    (hv : Value.okWide Tryd.prog w r b0 45 v) (h : DataW.Trod enc Tryd.prog w base spare held 45 v d ps) :
    ∃ (p0 : Int) (a1 : Option Addr) (n1 c1 : Nat) (a2 : Option Addr) (n2 c2 : Nat) (a3 : Option Addr) (cs : List Chan) (c3 : Nat) (a4 : Option Addr) (n4 c4 : Nat),
      v = .agg #[.int .u16 p0, .slice a1 n1 c1, .slice a2 n2 c2, .slice a3 cs.length c3, .slice a4 n4 c4] ∧ SlR encC w a3 cs ∧ ∀ x ∈ cs, 0 ≤ x.kind ∧ x.kind < 256 := by
  obtain ⟨cs, rfl, hlen, hf⟩ := arg_fields (l := [(39, 0), (40, 1), (41, 2), (42, 3), (43, 4)]) (by kernel_rfl) hv h
  rw [show Tryd.prog.cellsOf 45 = 5 by kernel_rfl] at hlen
  match cs, hlen with
  | [v0, v1, v2, v3, v4], _ =>
    obtain ⟨_, _, h0⟩ := hf 0 _ _ rfl
    obtain ⟨_, _, h1⟩ := hf 1 _ _ rfl
    obtain ⟨_, _, h2⟩ := hf 2 _ _ rfl
    obtain ⟨_, ⟨_, _⟩, h3⟩ := hf 3 _ _ rfl
    obtain ⟨_, _, h4⟩ := hf 4 _ _ rfl
    rw [show Tryd.prog.cellsOf 39 = 1 by kernel_rfl] at h0
    rw [show Tryd.prog.cellsOf 40 = 1 by kernel_rfl] at h1
    rw [show Tryd.prog.cellsOf 41 = 1 by kernel_rfl] at h2
    rw [show Tryd.prog.cellsOf 42 = 1 by kernel_rfl] at h3
    rw [show Tryd.prog.cellsOf 43 = 1 by kernel_rfl] at h4
    simp only [List.drop_succ_cons, List.drop_zero, List.take_succ_cons, List.take_zero] at h0 h1 h2 h3 h4
    obtain ⟨p0, e0, _⟩ := DataW.trod_int (k := .u16) (by kernel_rfl) h0
    obtain ⟨a1, n1, c1, e1⟩ := slice_shape (e := 124) (by kernel_rfl) h1
    obtain ⟨a2, n2, c2, e2⟩ := slice_shape (e := 129) (by kernel_rfl) h2
    obtain ⟨a4, n4, c4, e4⟩ := slice_shape (e := 131) (by kernel_rfl) h4
    obtain ⟨a3, xs, c3, e3, hs, _, _, hq⟩ := slice_trod (E := encC) (Q := fun x : Chan => 0 ≤ x.kind ∧ x.kind < 256) (e := 49) (by kernel_rfl) leafC (by kernel_rfl) rfl decC h3
    simp only [List.cons.injEq, and_true] at e0 e1 e2 e3 e4
    subst e0 e1 e2 e3 e4
    exact ⟨p0, a1, n1, c1, a2, n2, c2, a3, xs, c3, a4, n4, c4, rfl, hs, hq⟩
end Go.Proofs.YtmihgfhpmnomoaaDoor
