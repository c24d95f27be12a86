/- Methods that come by an embedded field: who is called. Conditions: none. -/
import Derived.Test.YtllpiaedljoejaaGreatDoorVcMem
namespace Go.Vc
set_option linter.unusedSimpArgs false
set_option linter.unusedVariables false

def plainD (d : TypeDesc) : Bool := match d with | .struct _ | .array _ _ => false | _ => true
section
variable {P : Program} {w : World}
theorem follow_one {t : TypeId} {b : Nat} {s : FieldStep} {fs : Array Field} {fld : Field} (hd : s.deref = true) (hs : P.underlying s.struct = some (.struct fs)) (hf : fs[s.index]? = some fld) (hfo : fld.offset = 0)
    (hsz : ((P.info? fld.type).map (·.size)) = some 1) : (follow [s] t (.val (.pointer (some ⟨b, 0, none⟩)))).run P w = .ok (fld.type, .var ⟨b, 0, none⟩) w := by
  obtain ⟨inf, hi, h1⟩ := Option.map_eq_some_iff.1 hsz
  have hso : (sizeOf fld.type).run P w = .ok 1 w := by simp [sizeOf, typeInfo, hi, h1]
  simp [follow, underlying, hs, hf, hd, Place.get, asAddr, fieldPlace, hso, hfo, Addr.add]
theorem get_one {t : TypeId} {b : Nat} {v : Value} {d : TypeDesc} (hu : P.underlying t = some d) (hna : plainD d = true) (hc : w.cell? ⟨b, 0, none⟩ = some v) : (Place.get t (.var ⟨b, 0, none⟩)).run P w = .ok v w := by
  have hag : (isAgg t).run P w = .ok false w := by
    unfold isAgg
    cases d <;> simp_all [underlying, plainD]
  simp [Place.get, loadVar, hag, hc]
/-- The method of an embedded pointer. -/
theorem meth_emb {n : Nat} {t et : TypeId} {b : Nat} {name : String} {s : FieldStep} {fs : Array Field} {fld : Field} {f : FuncId} {v : Value}
    (hk : (P.info? t).map (fun i => (i.methods.find? (·.name == name)).map fun m => (m.path.toList, m.func)) = some (some ([s], some (f, true)))) (hd : s.deref = true) (hs : P.underlying s.struct = some (.struct fs)) (hf : fs[s.index]? = some fld) (hfo : fld.offset = 0)
    (hsz : ((P.info? fld.type).map (·.size)) = some 1) (hu : P.underlying fld.type = some (.pointer et)) (hc : w.cell? ⟨b, 0, none⟩ = some v) : (method (n + 1) t (.pointer (some ⟨b, 0, none⟩)) name).run P w = .ok (f, v) w := by
  obtain ⟨i, hi, h1⟩ := Option.map_eq_some_iff.1 hk
  obtain ⟨m, hm, h2⟩ := Option.map_eq_some_iff.1 h1
  simp only [Prod.mk.injEq] at h2
  have hfl := follow_one (P := P) (w := w) (t := t) (b := b) hd hs hf hfo hsz
  have hg := get_one (P := P) (w := w) hu rfl hc
  have hpe : m.path.isEmpty = false := by
    cases hp : m.path with
    | mk l => rw [hp] at h2; simp at h2; simp [h2.1]
  unfold method
  simp only [Sem.run_bind, typeInfo, run_program, Result.andThen, hi, hm, h2.1, h2.2, hfl, receiverAt, underlying, hu, hg, Sem.run_pure]
/-- The method of an embedded interface value. -/
theorem meth_embI {n : Nat} {t t2 : TypeId} {b : Nat} {name : String} {s : FieldStep} {fs : Array Field} {fld : Field} {v : Value} {r : FuncId × Value} {d : TypeDesc}
    (hk : (P.info? t).map (fun i => (i.methods.find? (·.name == name)).map fun m => (m.path.toList, m.func)) = some (some ([s], none))) (hd : s.deref = true) (hs : P.underlying s.struct = some (.struct fs)) (hf : fs[s.index]? = some fld) (hfo : fld.offset = 0)
    (hsz : ((P.info? fld.type).map (·.size)) = some 1) (hu : P.underlying fld.type = some d) (hna : plainD d = true) (hc : w.cell? ⟨b, 0, none⟩ = some (.iface t2 v))
    (hr : (method n t2 v name).run P w = .ok r w) : (method (n + 1) t (.pointer (some ⟨b, 0, none⟩)) name).run P w = .ok r w := by
  obtain ⟨i, hi, h1⟩ := Option.map_eq_some_iff.1 hk
  obtain ⟨m, hm, h2⟩ := Option.map_eq_some_iff.1 h1
  simp only [Prod.mk.injEq] at h2
  have hfl := follow_one (P := P) (w := w) (t := t) (b := b) hd hs hf hfo hsz
  have hg := get_one (P := P) (w := w) hu hna hc
  unfold method
  simp [typeInfo, hi, hm, h2.1, h2.2, hfl, hg, hr]
/-- By name: who is called. -/
theorem callMethod_of {t : TypeId} {v : Value} {name : String} {args : Array Value} {f : FuncId} {r : Value} {fn : Func} (hm : (method (P.types.size + Made.depth) t v name).run P w = .ok (f, r) w) (hf : P.funcs[f]? = some fn) (hn : (fn.name == "runtime.NumGoroutine") = false) (hb : fn.body.isNone = false) :
    (callMethod (.iface t v) name args).run P w = .ok (.enter f (#[r] ++ args)) w := by
  have h1 : ¬ fn.name = "runtime.NumGoroutine" := fun h => by rw [h] at hn; cases hn
  have h2 : ¬ fn.body = none := fun h => by rw [h] at hb; cases hb
  simp [callMethod, hm, callFunc, hf, h1, h2]
end
end Go.Vc
