/- Calls: what the listed variables give, and the world in which the door leaves them. Conditions: none. -/
import Derived.Test.YtmihgfhpmnomoaaDoorRwB
import Derived.Test.YtmihgfhpmnomoaaDoorCaD
import Derived.Test.YtmihgfhpmnomoaaDoorVcLaid
import Derived.Test.YtmihgfhpmnomoaaDoorTie
import Derived.ChangeMaps5
namespace Go.Proofs.YtmihgfhpmnomoaaDoor
open Go.Vc Go.ChangeShapes Go.WideShapes Go.ChangeAt Go.RowKit
set_option linter.unusedSimpArgs false
set_option linter.unusedVariables false
set_option maxRecDepth 100000

theorem var_le {P : Program} {W w : World} (hl : hle (hpOf W) (hpOf w)) {n : String} {cs : Array Value} (h : W.var? P n = some cs) : w.var? P n = some cs := by
  unfold World.var? at h ⊢
  cases hg : P.globalNamed n with
  | none => simp [hg] at h
  | some g =>
    simp only [hg, Option.bind_some] at h ⊢
    have hb := hl g
    unfold hpOf at hb
    cases ho : W.heap[g]? with
    | none => simp [ho] at h
    | some o => rw [hb o ho]; rw [ho] at h; exact h

theorem door_met (os : Os) (args : Array Value) : laidMetH Tryd.prog Rows.callNamesRow.laid ((World.doorLaid Tryd.prog 82 os).forCall (fun _ _ => 0) ⟨#[], args, []⟩).memory :=
  laidMetH_of_parts3 (fuel := 8) (laidMet_of_run' 8 (by kernel_rfl) (by kernel_rfl)) (by kernel_rfl) (by kernel_rfl)

theorem libV_of {W : World} (hs : W.ShapedOpen Tryd.prog) (h : laidMetH Tryd.prog Rows.callNamesRow.laid W) : LibV (hpOf W) := by
  rw [MakeChecks.laidMetH_plain _ _ _ (by kernel_rfl)] at h
  have flat : ∀ {n : String} {d : DataW Unit} {g t : Nat} {ls : List Lk}, (n, d) ∈ Rows.callNamesRow.laid → Tryd.prog.globalNamed n = some g → (Tryd.prog.globals[g]?).map (·.type) = some t → leafs Tryd.prog 40 t = some ls → Tryd.prog.cellsOf t = ls.length → W.var? Tryd.prog n = some (flatD d).toArray :=
    fun hm hg ht hl hc => laid_flat h hm hg ht hl hc
  have b2 : W.var? Tryd.prog "purlin/call.two" = some [Value.bool true, Value.bool true, Value.bool false].toArray := flat (n := "purlin/call.two") (d := Rows.laid_purlin_call_two) (List.mem_of_getElem? (i := 7) rfl) (g := 0) (t := 53) (ls := [.bool, .bool, .bool]) (by kernel_rfl) (by kernel_rfl) (by kernel_rfl) (by kernel_rfl)
  have b3 : W.var? Tryd.prog "purlin/call.texts" = some [Value.bool true, Value.bool false, Value.bool true].toArray := flat (n := "purlin/call.texts") (d := Rows.laid_purlin_call_texts) (List.mem_of_getElem? (i := 8) rfl) (g := 1) (t := 53) (ls := [.bool, .bool, .bool]) (by kernel_rfl) (by kernel_rfl) (by kernel_rfl) (by kernel_rfl)
  have b0 : W.var? Tryd.prog "purlin/call.nothing" = some [Value.bool false, Value.bool false, Value.bool false].toArray := flat (n := "purlin/call.nothing") (d := Rows.laid_purlin_call_nothing) (List.mem_of_getElem? (i := 5) rfl) (g := 2) (t := 53) (ls := [.bool, .bool, .bool]) (by kernel_rfl) (by kernel_rfl) (by kernel_rfl) (by kernel_rfl)
  have b1 : W.var? Tryd.prog "purlin/call.one" = some [Value.bool true, Value.bool false, Value.bool false].toArray := flat (n := "purlin/call.one") (d := Rows.laid_purlin_call_one) (List.mem_of_getElem? (i := 6) rfl) (g := 3) (t := 53) (ls := [.bool, .bool, .bool]) (by kernel_rfl) (by kernel_rfl) (by kernel_rfl) (by kernel_rfl)
  have bp : W.var? Tryd.prog "internal/strconv.uint64pow10" = some (Lib.pow10Tab.map fun z => Value.int .u64 z).toArray := by
    obtain ⟨ps, hv, _⟩ := h
    obtain ⟨g, t, cs, fuel, p, e1, e2, e3, e4⟩ := laid_mem hv (n := "internal/strconv.uint64pow10") (d := Rows.laid_internal_strconv_uint64pow10) (List.mem_of_getElem? (i := 2) rfl)
    have hg : Tryd.prog.globalNamed "internal/strconv.uint64pow10" = some 5 := by kernel_rfl
    obtain rfl := Option.some.inj (hg.symm.trans e1)
    obtain ⟨t0, ht0⟩ : ∃ t0, t0 = ((Tryd.prog.globals[5]?).map (·.type)).getD 0 := ⟨_, rfl⟩
    have e5 : leafs Tryd.prog 40 (((Tryd.prog.globals[5]?).map (·.type)).getD 0) = some (List.replicate 20 (.int .u64)) := by kernel_rfl
    have e6 : Tryd.prog.cellsOf (((Tryd.prog.globals[5]?).map (·.type)).getD 0) = 20 := by kernel_rfl
    have e7 : t = ((Tryd.prog.globals[5]?).map (·.type)).getD 0 := by rw [e2]; rfl
    rw [← e7] at e5 e6
    have e8 := trod_flat e5 (by rw [e6]; rfl) e4
    rw [e3, show cs = (flatD (Rows.laid_internal_strconv_uint64pow10 (H := Unit))).toArray by rw [← e8]]
    rfl
  have ie : ∀ {n : String} {d : DataW Unit} {g : Nat}, (n, .iface "*errors.errorString" d) ∈ Rows.callNamesRow.laid → Tryd.prog.globalNamed n = some g → (Tryd.prog.globals[g]?).map (·.type) = some 72 → ∃ t p, mcell (hpOf W) g 0 = some (.iface t p) := fun hm hg ht => by
    obtain ⟨u, v, hv, _⟩ := laid_iface h hm hg ht (ms := Tryd.prog.methodsAt 72) (by kernel_rfl)
    exact ⟨u, v, var_mcell hg hv rfl⟩
  refine ⟨⟨fun o v e => ?_, fun o v e => ?_, fun o v e => ?_, fun o v e => ?_⟩, fun w hl => var_le hl bp, ?_, ?_, ?_⟩
  · exact var_mcell (by kernel_rfl) b2 (by simpa using e)
  · exact var_mcell (by kernel_rfl) b3 (by simpa using e)
  · exact var_mcell (by kernel_rfl) b0 (by simpa using e)
  · exact var_mcell (by kernel_rfl) b1 (by simpa using e)
  · obtain ⟨k, hk⟩ := cell_of_shapedOpen_int (P := Tryd.prog) (w := W) (g := 4) (t := 3) (zero := #[.int .i64 0]) (k := .i64) hs (of_decide_eq_true (by kernel_rfl)) (by kernel_rfl) rfl (by kernel_rfl) (by kernel_rfl) (by kernel_rfl)
    exact ⟨k, hk⟩
  · exact ie (n := "strconv.ErrSyntax") (g := 6) (List.mem_of_getElem? (i := 4) rfl) (by kernel_rfl) (by kernel_rfl)
  · exact ie (n := "strconv.ErrRange") (g := 7) (List.mem_of_getElem? (i := 3) rfl) (by kernel_rfl) (by kernel_rfl)

theorem lit_i64 {n : Int} (h : (Lit.int .i64 n).wf = true) : inR n := by
  have := bounds_i64 h
  unfold inR; omega
end Go.Proofs.YtmihgfhpmnomoaaDoor
