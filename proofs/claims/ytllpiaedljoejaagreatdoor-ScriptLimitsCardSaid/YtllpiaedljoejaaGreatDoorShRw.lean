/- Scripts: what the listed variables give, and the world in which the door leaves them. Conditions: none. -/
import Derived.Test.YtllpiaedljoejaaGreatDoorRwB
import Derived.Test.YtllpiaedljoejaaGreatDoorXAw
import Derived.Test.YtllpiaedljoejaaGreatDoorVcLaid
import Derived.Test.YtllpiaedljoejaaGreatDoorTie
import Derived.ChangeMaps5
import Derived.LaidHandle
import Derived.Lay
namespace Go.Proofs.YtllpiaedljoejaaGreatDoor
open Go.Vc Go.ChangeShapes Go.WideShapes Go.ChangeAt Go.RowKit
set_option linter.unusedSimpArgs false
set_option linter.unusedVariables false
set_option maxRecDepth 100000

theorem var_le {P : Program} {W w : World} (hl : hle (hpOf W) (hpOf w)) {n : String} {cs : Array Value} (h : W.var? P n = some cs) : w.var? P n = some cs := by
  unfold World.var? at h ⊢
  cases hg : P.globalNamed n with
  | none => simp [hg] at h
  | some g =>
    simp only [hg, Option.bind_some] at h ⊢
    have hb := hl g
    unfold hpOf at hb
    cases ho : W.heap[g]? with
    | none => simp [ho] at h
    | some o => rw [hb o ho]; rw [ho] at h; exact h

/-- The world that the door leaves, and one of Go's own tables, which the door does not lay here. -/
noncomputable def scrW (os : Os) : World := (World.doorLaid Tryz.prog 104 os).layVars Tryz.prog [("unicode/utf8.first", Pinned.utf8First)]
theorem door_met (os : Os) (args : Array Value) : laidMetH Tryz.prog Rows.scriptHexRow.laid ((scrW os).forCall (fun _ _ => 0) ⟨#[], args, []⟩).memory :=
  laidMetH_of_parts3 (fuel := 8) (laidMet_of_run' 8 (by kernel_rfl) (by kernel_rfl)) (by kernel_rfl) (by kernel_rfl)

theorem err_row : (List.range Tryz.prog.types.size).all (fun ty => !Tryz.prog.rowNamed ty [101, 114, 114, 111, 114] || ty == 51) = true := by kernel_rfl

theorem lib_of {W : World} (hs : W.ShapedOpen Tryz.prog) (h0 : laidMetH Tryz.prog Rows.scriptHexRow.laid W) : (∀ w', Ch [] W w' → GlobX w') ∧ (∀ w', Ch [] W w' → LibX w') := by
  have h2 : laidMet Tryz.prog (Rows.scriptHexRow.laid.filter fun x => x.2.handleName?.isNone) W ∧ handlesMet Tryz.prog [("errors.errorType", Rows.laid_errors_errorType)] W := h0
  obtain ⟨h, hh⟩ := h2
  have mem : ∀ {n : String} {d : DataW Unit}, (n, d) ∈ Rows.scriptHexRow.laid → d.handleName?.isNone = true → (n, d) ∈ Rows.scriptHexRow.laid.filter fun x => x.2.handleName?.isNone := fun hm hn => List.mem_filter.2 ⟨hm, hn⟩
  have flat : ∀ {n : String} {d : DataW Unit} {g t : Nat} {ls : List Lk}, (n, d) ∈ Rows.scriptHexRow.laid → d.handleName?.isNone = true → Tryz.prog.globalNamed n = some g → (Tryz.prog.globals[g]?).map (·.type) = some t → leafs Tryz.prog 40 t = some ls → Tryz.prog.cellsOf t = ls.length → W.var? Tryz.prog n = some (flatD d).toArray :=
    fun hm hn hg ht hl hc => laid_flat h (mem hm hn) hg ht hl hc
  have b2 : W.var? Tryz.prog "purlin/call.two" = some [Value.bool true, Value.bool true, Value.bool false].toArray := flat (n := "purlin/call.two") (d := Rows.laid_purlin_call_two) (List.mem_of_getElem? (i := 10) rfl) (by kernel_rfl) (g := 2) (t := 172) (ls := [.bool, .bool, .bool]) (by kernel_rfl) (by kernel_rfl) (by kernel_rfl) (by kernel_rfl)
  have b3 : W.var? Tryz.prog "purlin/call.texts" = some [Value.bool true, Value.bool false, Value.bool true].toArray := flat (n := "purlin/call.texts") (d := Rows.laid_purlin_call_texts) (List.mem_of_getElem? (i := 11) rfl) (by kernel_rfl) (g := 3) (t := 172) (ls := [.bool, .bool, .bool]) (by kernel_rfl) (by kernel_rfl) (by kernel_rfl) (by kernel_rfl)
  have b0 : W.var? Tryz.prog "purlin/call.nothing" = some [Value.bool false, Value.bool false, Value.bool false].toArray := flat (n := "purlin/call.nothing") (d := Rows.laid_purlin_call_nothing) (List.mem_of_getElem? (i := 8) rfl) (by kernel_rfl) (g := 4) (t := 172) (ls := [.bool, .bool, .bool]) (by kernel_rfl) (by kernel_rfl) (by kernel_rfl) (by kernel_rfl)
  have b1 : W.var? Tryz.prog "purlin/call.one" = some [Value.bool true, Value.bool false, Value.bool false].toArray := flat (n := "purlin/call.one") (d := Rows.laid_purlin_call_one) (List.mem_of_getElem? (i := 9) rfl) (by kernel_rfl) (g := 5) (t := 172) (ls := [.bool, .bool, .bool]) (by kernel_rfl) (by kernel_rfl) (by kernel_rfl) (by kernel_rfl)
  have bl : W.var? Tryz.prog "purlin/mem.look" = some [Value.int .u32 4294967295, Value.int .u32 0, Value.int .u32 0].toArray := flat (n := "purlin/mem.look") (d := Rows.laid_purlin_mem_look) (List.mem_of_getElem? (i := 7) rfl) (by kernel_rfl) (g := 9) (t := ((Tryz.prog.globals[9]?).map (·.type)).getD 0) (ls := [.int .u32, .int .u32, .int .u32]) (by kernel_rfl) (by kernel_rfl) (by kernel_rfl) (by kernel_rfl)
  have bp : W.var? Tryz.prog "internal/strconv.uint64pow10" = some (Lib.pow10Tab.map fun z => Value.int .u64 z).toArray := by
    obtain ⟨ps, hv, _⟩ := h
    obtain ⟨g, t, cs, fuel, p, e1, e2, e3, e4⟩ := laid_mem hv (n := "internal/strconv.uint64pow10") (d := Rows.laid_internal_strconv_uint64pow10) (mem (List.mem_of_getElem? (i := 2) rfl) (by kernel_rfl))
    have hg : Tryz.prog.globalNamed "internal/strconv.uint64pow10" = some 6 := by kernel_rfl
    obtain rfl := Option.some.inj (hg.symm.trans e1)
    obtain ⟨t0, ht0⟩ : ∃ t0, t0 = ((Tryz.prog.globals[6]?).map (·.type)).getD 0 := ⟨_, rfl⟩
    have e5 : leafs Tryz.prog 40 (((Tryz.prog.globals[6]?).map (·.type)).getD 0) = some (List.replicate 20 (.int .u64)) := by kernel_rfl
    have e6 : Tryz.prog.cellsOf (((Tryz.prog.globals[6]?).map (·.type)).getD 0) = 20 := by kernel_rfl
    have e7 : t = ((Tryz.prog.globals[6]?).map (·.type)).getD 0 := by rw [e2]; rfl
    rw [← e7] at e5 e6
    have e8 := trod_flat e5 (by rw [e6]; rfl) e4
    rw [e3, show cs = (flatD (Rows.laid_internal_strconv_uint64pow10 (H := Unit))).toArray by rw [← e8]]
    rfl
  have be : W.var? Tryz.prog "errors.errorType" = some #[.iface 266 (.agg #[.pointer (some ⟨14, 51, none⟩)])] := by
    have hx := hh ("errors.errorType", Rows.laid_errors_errorType) (by simp)
    have hf : (Rows.laid_errors_errorType : DataW Unit).funcsIn? = none := by kernel_rfl
    simp only [hf] at hx
    obtain ⟨name, u, ty, e1, e2, e3, e4, e5⟩ := hx
    have hn : (Rows.laid_errors_errorType : DataW Unit).handleName? = some [101, 114, 114, 111, 114] := by kernel_rfl
    have hu : (Tryz.prog.cutTypes.find? (·.1 == "internal/reflectlite.rtype")).map (·.2) = some 266 := by kernel_rfl
    obtain rfl := Option.some.inj (hn.symm.trans e1)
    obtain rfl := Option.some.inj (hu.symm.trans e2)
    have h3 := List.all_eq_true.1 err_row ty (List.mem_range.2 e3)
    rw [e4] at h3
    simp only [Bool.not_true, Bool.false_or, beq_iff_eq] at h3
    subst h3
    rw [e5]
    have hg : Tryz.prog.globals.size = 14 := by kernel_rfl
    unfold typeHandle
    rw [hg]
  have cell : ∀ {w : World} {n : String} {cs : Array Value} {g o : Nat} {v : Value}, Ch [] W w → Tryz.prog.globalNamed n = some g → W.var? Tryz.prog n = some cs → cs[o]? = some v → w.cell? ⟨g, o, none⟩ = some v :=
    fun hc hg hv ho => ((St.init W).ch0 hc).mc (var_mcell hg hv ho)
  refine ⟨fun w hc p hp o v hv => ?_, fun w hc => ⟨fun w2 hc2 => ?_, fun w2 hc2 => ?_, fun w2 hc2 => ?_⟩⟩
  · simp only [globL, List.mem_cons, List.not_mem_nil, or_false] at hp
    rcases hp with rfl | rfl | rfl | rfl | rfl
    · exact cell hc (by kernel_rfl) b2 (by simpa using hv)
    · exact cell hc (by kernel_rfl) b3 (by simpa using hv)
    · exact cell hc (by kernel_rfl) b0 (by simpa using hv)
    · exact cell hc (by kernel_rfl) b1 (by simpa using hv)
    · exact cell hc (by kernel_rfl) bl (by simpa using hv)
  · exact var_le ((St.init W).ch0 (hc.trans0 hc2)).le bp
  · obtain ⟨k, hk⟩ := cell_of_shapedOpen_int (P := Tryz.prog) (w := W) (g := 1) (t := 3) (zero := #[.int .i64 0]) (k := .i64) hs (of_decide_eq_true (by kernel_rfl)) (by kernel_rfl) rfl (by kernel_rfl) (by kernel_rfl) (by kernel_rfl)
    exact ⟨k, ((St.init W).ch0 (hc.trans0 hc2)).mc hk⟩
  · exact cell (hc.trans0 hc2) (by kernel_rfl) be rfl
end Go.Proofs.YtllpiaedljoejaaGreatDoor
