/- errors.As at an error that is nil, and at a *api.Failure into a variable of that type (turned from the kit's worked proof ToyasAs to this seat's numbers). Conditions: none. -/
import Derived.Test.YtllpiaedljoejaaGreatDoorProg
import Derived.WalkKit
import Derived.LaidEql
import Derived.Stop.Asserts
import Derived.RowKitTokens
namespace Go.Proofs.YtllpiaedljoejaaGreatDoor
open Go.RowKit Go.Extern.Stop Go.Stop Go.Extern
set_option maxRecDepth 100000

theorem as_nil (t : Value) (w : World) :
    Calls Tryz.prog 55 #[.nilIface, t] w fun e w' => e = .returned (.bool false) ∧ w' = w := by
  go_enter Tryz.func55, Tryz.ntmps55
  go_wp2
  go_ret
  exact ⟨rfl, rfl⟩

theorem asx_valueOf27 (t : Addr) (w : World) : (ReflectliteValue.unpack (.iface 124 (.pointer (some t)))).run Tryz.prog w
    = .ok (.agg #[.pointer (some ⟨14, 124, none⟩), .pointer (some ⟨w.heap.size, 0, none⟩), .int .u64 150]) (w.alloc (.cells #[.pointer (some t)] 124)) := by kernel_rfl
theorem asx_type27 (a : Addr) (w : World) : (ReflectliteValue.methodAny (ReflectliteValue.valueError "reflectlite.Value.Type" 0) (fun t _ _ _ => ReflectliteType.toType t) #[.agg #[.pointer (some ⟨14, 124, none⟩), .pointer (some a), .int .u64 150]]).run Tryz.prog w
    = .ok (.iface 266 (.agg #[.pointer (some ⟨14, 124, none⟩)])) w := by kernel_rfl
theorem asx_methodKind (h : Value) (w : World) : (Go.method 598 266 (.agg #[h]) "Kind").run Tryz.prog w = .ok (341, h) w := by kernel_rfl
theorem asx_kind27 (w : World) : ((ReflectliteType.abiMethod fun t => (fun a : Nat => Value.int IntKind.u8 (a : Int)) <$> Rtype.kind t) #[.pointer (some ⟨14, 124, none⟩)]).run Tryz.prog w = .ok (.int .u8 22) w := by kernel_rfl
theorem asx_kind25 (w : World) : ((ReflectliteType.abiMethod fun t => (fun a : Nat => Value.int IntKind.u8 (a : Int)) <$> Rtype.kind t) #[.pointer (some ⟨14, 99, none⟩)]).run Tryz.prog w = .ok (.int .u8 22) w := by kernel_rfl

theorem rlm (z : Sem Value) (f : TypeId → Addr → Nat → Nat → Sem Value) (v : Value) :
    ReflectliteValue.method z f #[v] = (do match ← ReflectliteValue.parts v with | none => z | some (t, a, fl) => f t a fl (fl % 32)) := rfl
theorem asx_parts27 (a : Addr) (w : World) : (ReflectliteValue.parts (.agg #[.pointer (some ⟨14, 124, none⟩), .pointer (some a), .int .u64 150])).run Tryz.prog w = .ok (some (124, a, 150)) w := by kernel_rfl
theorem asx_isNil27 (a p : Addr) (W : World) (ha : W.cell? a = some (.pointer (some p))) :
    (ReflectliteValue.method (ReflectliteValue.valueError "reflectlite.Value.IsNil" 0) ReflectliteValue.isNil #[.agg #[.pointer (some ⟨14, 124, none⟩), .pointer (some a), .int .u64 150]]).run Tryz.prog W = .ok (.bool false) W := by
  rw [rlm]
  simp only [Sem.run_bind, asx_parts27, Result.andThen]
  simp [ReflectliteValue.isNil, loadVar, isAgg, underlying, Tryz.underlying124, ha, Result.andThen]

theorem asx_methodElem (h : Value) (w : World) : (Go.method 598 266 (.agg #[h]) "Elem").run Tryz.prog w = .ok (359, .agg #[h]) w := by kernel_rfl
theorem asx_methodImplements (h : Value) (w : World) : (Go.method 598 266 (.agg #[h]) "Implements").run Tryz.prog w = .ok (360, .agg #[h]) w := by kernel_rfl
theorem asx_methodAssignableTo (h : Value) (w : World) : (Go.method 598 266 (.agg #[h]) "AssignableTo").run Tryz.prog w = .ok (357, .agg #[h]) w := by kernel_rfl
theorem asx_elem27 (w : World) : (ReflectliteType.method ReflectliteType.elem #[.agg #[.pointer (some ⟨14, 124, none⟩)]]).run Tryz.prog w = .ok (.iface 266 (.agg #[.pointer (some ⟨14, 99, none⟩)])) w := by kernel_rfl
theorem asx_implements25 (w : World) : (ReflectliteType.relation "Implements" ReflectliteType.implements_ #[.agg #[.pointer (some ⟨14, 99, none⟩)], .iface 266 (.agg #[.pointer (some ⟨14, 51, none⟩)])]).run Tryz.prog w = .ok (.bool true) w := by kernel_rfl
theorem asx_typeOf25 (v : Value) (w : World) : (ReflectliteType.typeOf #[.iface 99 v]).run Tryz.prog w = .ok (.iface 266 (.agg #[.pointer (some ⟨14, 99, none⟩)])) w := by kernel_rfl
theorem asx_assignable25 (w : World) : (ReflectliteType.relation "AssignableTo" ReflectliteType.assignableTo #[.agg #[.pointer (some ⟨14, 99, none⟩)], .iface 266 (.agg #[.pointer (some ⟨14, 99, none⟩)])]).run Tryz.prog w = .ok (.bool true) w := by kernel_rfl
theorem asx_valueOf25 (e : Addr) (w : World) : (ReflectliteValue.unpack (.iface 99 (.pointer (some e)))).run Tryz.prog w
    = .ok (.agg #[.pointer (some ⟨14, 99, none⟩), .pointer (some ⟨w.heap.size, 0, none⟩), .int .u64 150]) (w.alloc (.cells #[.pointer (some e)] 99)) := by kernel_rfl

theorem asx_elemOf27 (w : World) : (Rtype.elem? 124).run Tryz.prog w = .ok (some 99) w := by kernel_rfl
theorem asx_mk25 (p : Addr) (w : World) : (ReflectliteValue.mk 99 p ReflectliteValue.flagAddr).run Tryz.prog w = .ok (.agg #[.pointer (some ⟨14, 99, none⟩), .pointer (some p), .int .u64 406]) w := by kernel_rfl
theorem asx_elemV27 (a p : Addr) (W : World) (ha : W.cell? a = some (.pointer (some p))) :
    (ReflectliteValue.method (ReflectliteValue.valueError "reflectlite.Value.Elem" 0) ReflectliteValue.elem #[.agg #[.pointer (some ⟨14, 124, none⟩), .pointer (some a), .int .u64 150]]).run Tryz.prog W
      = .ok (.agg #[.pointer (some ⟨14, 99, none⟩), .pointer (some p), .int .u64 406]) W := by
  rw [rlm]
  simp only [Sem.run_bind, asx_parts27, Result.andThen]
  simp [ReflectliteValue.elem, loadVar, isAgg, underlying, Tryz.underlying124, ha, Result.andThen, asx_elemOf27, asx_mk25]
theorem rls (v x : Value) : ReflectliteValue.set #[v, x] = (do
    let (some (dst, a, fl), some (src, b, _)) := (← ReflectliteValue.parts v, ← ReflectliteValue.parts x)
      | unsupported (.noEntry "extern/(internal/reflectlite.Value).Set.zeroValue")
    if fl / ReflectliteValue.flagAddr % 2 == 0 then unsupported (.noEntry "extern/(internal/reflectlite.Value).Set.unaddressable")
    let val ← loadVar src b
    if ← Rtype.directlyAssignable dst src then storeVar dst a val
    else if ← Rtype.implements dst src then
      if (← Rtype.kind src) == 20 then
        match val with
        | .nilIface => unsupported (.noEntry "extern/reflectlite: a nil value of one interface type handed on as a value of another")
        | _ => storeVar dst a val
      else storeVar dst a (.iface src val)
    else panicString ("reflectlite.Set: value of type " ++ (← Rtype.spelt src) ++ " is not assignable to type " ++ (← Rtype.spelt dst))
    pure (.tuple #[])) := rfl
theorem asx_parts25a (a : Addr) (w : World) : (ReflectliteValue.parts (.agg #[.pointer (some ⟨14, 99, none⟩), .pointer (some a), .int .u64 406])).run Tryz.prog w = .ok (some (99, a, 406)) w := by kernel_rfl
theorem asx_parts25 (a : Addr) (w : World) : (ReflectliteValue.parts (.agg #[.pointer (some ⟨14, 99, none⟩), .pointer (some a), .int .u64 150])).run Tryz.prog w = .ok (some (99, a, 150)) w := by kernel_rfl
theorem asx_direct25 (w : World) : (Rtype.directlyAssignable 99 99).run Tryz.prog w = .ok true w := by kernel_rfl
theorem asx_size25 (w : World) : (sizeOf 99).run Tryz.prog w = .ok 1 w := by kernel_rfl
theorem asx_set25 (ta b e : Addr) (old : Value) (W : World) (hb : W.cell? b = some (.pointer (some e))) (ht : W.cell? ta = some old) (hf : W.frozen? ta = false) :
    (ReflectliteValue.set #[.agg #[.pointer (some ⟨14, 99, none⟩), .pointer (some ta), .int .u64 406], .agg #[.pointer (some ⟨14, 99, none⟩), .pointer (some b), .int .u64 150]]).run Tryz.prog W
      = .ok (.tuple #[]) (W.setCell ta (.pointer (some e))) := by
  rw [rls]
  simp only [Sem.run_bind, asx_parts25a, asx_parts25, Result.andThen]
  simp [ReflectliteValue.flagAddr, loadVar, isAgg, underlying, Tryz.underlying99, hb, Result.andThen, asx_direct25, storeVar, Value.cells, storeCells, Addr.add]
  rw [run_store Tryz.prog W ta _ _ (by rfl)]
  simp [ht, hf]

set_option maxHeartbeats 4000000 in
theorem as_hit (e t : Addr) (old : Value) (w : World) (hg : w.cell? ⟨0, 0, none⟩ = some (.iface 266 (.agg #[.pointer (some ⟨14, 51, none⟩)]))) (ht0 : w.cell? t = some old) (hf0 : w.frozen? t = false) :
    Calls Tryz.prog 55 #[.iface 99 (.pointer (some e)), .iface 124 (.pointer (some t))] w fun ev w' => ev = .returned (.bool true) ∧ w' = ((((w.alloc (.cells #[.pointer (some t)] 124)).alloc (.cells #[.pointer (some ⟨14, 124, none⟩), .pointer (some ⟨w.heap.size, 0, none⟩), .int .u64 150] 194)).alloc (.cells #[.pointer (some ⟨14, 124, none⟩), .pointer (some ⟨w.heap.size, 0, none⟩), .int .u64 150] 194)).alloc (.cells #[.pointer (some e)] 99)).setCell t (.pointer (some e)) := by
  have h6 := @run_callFunc_extern Tryz.prog 95 _ (fun args => ReflectliteValue.unpack (args.getD 0 (.tuple #[]))) Tryz.func95 (by kernel_rfl) (by kernel_rfl) (by kernel_rfl) (by kernel_rfl)
  have h7 := @run_callFunc_extern Tryz.prog 96 _ (ReflectliteValue.methodAny (ReflectliteValue.valueError "reflectlite.Value.Type" 0) (fun t _ _ _ => ReflectliteType.toType t)) Tryz.func96 (by kernel_rfl) (by kernel_rfl) (by kernel_rfl) (by kernel_rfl)
  have h8 := @run_callFunc_extern Tryz.prog 97 _ (ReflectliteValue.method (ReflectliteValue.valueError "reflectlite.Value.IsNil" 0) ReflectliteValue.isNil) Tryz.func97 (by kernel_rfl) (by kernel_rfl) (by kernel_rfl) (by kernel_rfl)
  have h27 := @run_callFunc_extern Tryz.prog 341 _ (ReflectliteType.abiMethod fun t => do pure (.int .u8 (← Rtype.kind t))) Tryz.func341 (by kernel_rfl) (by kernel_rfl) (by kernel_rfl) (by kernel_rfl)
  have h37 := @run_callFunc_extern Tryz.prog 359 _ (ReflectliteType.method ReflectliteType.elem) Tryz.func359 (by kernel_rfl) (by kernel_rfl) (by kernel_rfl) (by kernel_rfl)
  have h38 := @run_callFunc_extern Tryz.prog 360 _ (ReflectliteType.relation "Implements" ReflectliteType.implements_) Tryz.func360 (by kernel_rfl) (by kernel_rfl) (by kernel_rfl) (by kernel_rfl)
  have h10 := @run_callFunc_extern Tryz.prog 135 _ ReflectliteType.typeOf Tryz.func135 (by kernel_rfl) (by kernel_rfl) (by kernel_rfl) (by kernel_rfl)
  have h35 := @run_callFunc_extern Tryz.prog 357 _ (ReflectliteType.relation "AssignableTo" ReflectliteType.assignableTo) Tryz.func357 (by kernel_rfl) (by kernel_rfl) (by kernel_rfl) (by kernel_rfl)
  have h11 := @run_callFunc_extern Tryz.prog 137 _ (ReflectliteValue.method (ReflectliteValue.valueError "reflectlite.Value.Elem" 0) ReflectliteValue.elem) Tryz.func137 (by kernel_rfl) (by kernel_rfl) (by kernel_rfl) (by kernel_rfl)
  have h12 := @run_callFunc_extern Tryz.prog 138 _ ReflectliteValue.set Tryz.func138 (by kernel_rfl) (by kernel_rfl) (by kernel_rfl) (by kernel_rfl)
  have tO := asx_typeOf25
  have mA := asx_methodAssignableTo
  have a25 := asx_assignable25
  have v25 := asx_valueOf25
  have f6 := asx_valueOf27
  have f7 := asx_type27
  have mK := asx_methodKind
  have mE := asx_methodElem
  have mI := asx_methodImplements
  have k27 := asx_kind27
  have k25 := asx_kind25
  have e27 := asx_elem27
  have i25 := asx_implements25
  have n8 := asx_isNil27 ⟨w.heap.size, 0, none⟩ t ((w.alloc (.cells #[.pointer (some t)] 124)).alloc (.cells #[.pointer (some ⟨14, 124, none⟩), .pointer (some ⟨w.heap.size, 0, none⟩), .int .u64 150] 194)) (by simp)
  have hlt : 0 < w.heap.size := by
    rcases Nat.eq_zero_or_pos w.heap.size with h0 | h
    · simp [World.cell?, h0] at hg
    · exact h
  have hg2 : ((w.alloc (.cells #[.pointer (some t)] 124)).alloc (.cells #[.pointer (some ⟨14, 124, none⟩), .pointer (some ⟨w.heap.size, 0, none⟩), .int .u64 150] 194)).cell? ⟨0, 0, none⟩ = some (.iface 266 (.agg #[.pointer (some ⟨14, 51, none⟩)])) := by
    rw [World.cell?_alloc_lt _ _ ⟨0, 0, none⟩ (by simp), World.cell?_alloc_lt _ _ ⟨0, 0, none⟩ hlt]; exact hg
  have htl : t.block < w.heap.size := by
    rcases Nat.lt_or_ge t.block w.heap.size with h | h
    · exact h
    · simp [World.cell?, Array.getElem?_eq_none h] at ht0
  have el := asx_elemV27 ⟨w.heap.size, 0, none⟩ t (((w.alloc (.cells #[.pointer (some t)] 124)).alloc (.cells #[.pointer (some ⟨14, 124, none⟩), .pointer (some ⟨w.heap.size, 0, none⟩), .int .u64 150] 194)).alloc (.cells #[.pointer (some ⟨14, 124, none⟩), .pointer (some ⟨w.heap.size, 0, none⟩), .int .u64 150] 194)) (by rw [World.cell?_alloc_lt _ _ ⟨w.heap.size, 0, none⟩ (by simp; omega)]; simp)
  have st := asx_set25 t ⟨w.heap.size + 1 + 1 + 1, 0, none⟩ e old ((((w.alloc (.cells #[.pointer (some t)] 124)).alloc (.cells #[.pointer (some ⟨14, 124, none⟩), .pointer (some ⟨w.heap.size, 0, none⟩), .int .u64 150] 194)).alloc (.cells #[.pointer (some ⟨14, 124, none⟩), .pointer (some ⟨w.heap.size, 0, none⟩), .int .u64 150] 194)).alloc (.cells #[.pointer (some e)] 99))
    (by rw [World.cell?_alloc_at _ _ _ _ (by simp)]; rfl)
    (by rw [World.cell?_alloc_lt _ _ t (by simp; omega), World.cell?_alloc_lt _ _ t (by simp; omega), World.cell?_alloc_lt _ _ t (by simp; omega), World.cell?_alloc_lt _ _ t htl]; exact ht0)
    (by rw [World.frozen?_alloc_old _ _ t (by simp; omega), World.frozen?_alloc_old _ _ t (by simp; omega), World.frozen?_alloc_old _ _ t (by simp; omega), World.frozen?_alloc_old _ _ t (Nat.ne_of_lt htl)]; exact hf0)
  go_enter Tryz.func55, Tryz.ntmps55
  go_wp2
  refine wp_loop_rounds 1 ?_
  rw [rounds_succ]
  go_wp2
  go_ret
  exact ⟨rfl, rfl⟩
end Go.Proofs.YtllpiaedljoejaaGreatDoor

namespace Go.Proofs.YtllpiaedljoejaaGreatDoor
open Go.RowKit Go.Extern.Stop Go.Stop Go.Extern Go.Extern.Rtype
set_option maxRecDepth 100000
theorem isx_typeOf (v : Value) (w : World) : (ReflectliteType.typeOf #[.iface 22 v]).run Tryz.prog w = .ok (.iface 266 (.agg #[.pointer (some ⟨14, 22, none⟩)])) w := by kernel_rfl
theorem isx_methodC (h : Value) (w : World) : (Go.method 598 266 (.agg #[h]) "Comparable").run Tryz.prog w = .ok (358, .agg #[h]) w := by kernel_rfl
theorem isx_methodU (a : Addr) (w : World) : (Go.method 598 99 (.pointer (some a)) "Unwrap").run Tryz.prog w = .ok (349, .pointer (some a)) w := by kernel_rfl
theorem isx_neq (a : Addr) (n : Int) (x y : Operand) (w : World) : (do eqGuard .eql 51 x y (.iface 99 (.pointer (some a))) (.iface 22 (.int .i64 n)); binOp .eql 51 (.iface 99 (.pointer (some a))) (.iface 22 (.int .i64 n)) : Sem Value).run Tryz.prog w = .ok (.bool false) w := by kernel_rfl
theorem isx_eq (n : Int) (w : World) : (binOp .eql 51 (.iface 22 (.int .i64 n)) (.iface 22 (.int .i64 n)) : Sem Value).run Tryz.prog w = .ok (.bool (n == n)) w := by kernel_rfl
theorem least_some : ∀ {l : List String}, l ≠ [] → ∃ m, Instr.least l = some m
  | [], h => (h rfl).elim
  | _ :: _, _ => ⟨_, rfl⟩
theorem missing_some {want : Array (String × TypeId)} {got : Array Method} (h : (want.toList.filter fun (name, sig) => !got.any fun m => m.name == name && m.sig == sig) ≠ []) : ∃ m, Instr.missingMethod want got = some m := by
  unfold Instr.missingMethod
  generalize hl : (want.toList.filter fun (name, sig) => !got.any fun m => m.name == name && m.sig == sig) = l at h
  have hne : l.map (·.1) ≠ [] := by intro e; exact h (List.map_eq_nil_iff.1 e)
  simp only [List.partition_eq_filter_filter]
  by_cases h1 : (l.map (·.1)).filter (fun x => !(x.contains (Char.ofNat 46))) = []
  · have h2 : (l.map (·.1)).filter (fun x => x.contains (Char.ofNat 46)) ≠ [] := by
      intro h3
      obtain ⟨x, r, e⟩ := List.exists_cons_of_ne_nil hne
      have hx : x ∈ l.map (·.1) := by rw [e]; simp
      cases hc : x.contains (Char.ofNat 46) with
      | true => have : x ∈ (l.map (·.1)).filter (fun x => x.contains (Char.ofNat 46)) := List.mem_filter.2 ⟨hx, hc⟩; rw [h3] at this; cases this
      | false => have : x ∈ (l.map (·.1)).filter (fun x => !(x.contains (Char.ofNat 46))) := List.mem_filter.2 ⟨hx, by simp [hc]⟩; rw [h1] at this; cases this
    have h4 : ((l.map (·.1)).filter (fun x => x.contains (Char.ofNat 46))).map (fun id => (id.splitOn ".").getLastD id) ≠ [] := fun e => h2 (List.map_eq_nil_iff.1 e)
    obtain ⟨m, hm⟩ := least_some h4
    exact ⟨m, by
      have e0 : Instr.least ((l.map (·.1)).filter (not ∘ fun x => x.contains (Char.ofNat 46))) = none := by
        have : (l.map (·.1)).filter (not ∘ fun x => x.contains (Char.ofNat 46)) = [] := h1
        rw [this]; rfl
      rw [e0, hm]; rfl⟩
  · obtain ⟨m, hm⟩ := least_some h1
    exact ⟨m, by
      have e0 : Instr.least ((l.map (·.1)).filter (not ∘ fun x => x.contains (Char.ofNat 46))) = some m := hm
      rw [e0]; rfl⟩
noncomputable def isWant : Option (Array (String × TypeId)) := match Tryz.prog.underlying 338 with | some (.interface w) => some w | _ => none
theorem isx_noIs (a : Addr) (w : World) : (Instr.typeAssert (.iface 99 (.pointer (some a))) 51 338 true).run Tryz.prog w = .ok (.tuple #[.nilIface, .bool false]) w := by
  have hz : (zeroValue 338).run Tryz.prog w = .ok .nilIface w := by kernel_rfl
  have hk : ((Tryz.prog.info? 99).bind fun i => isWant.map fun want => (want.toList.filter fun (name, sig) => !i.methods.any fun m => m.name == name && m.sig == sig).length) = some 1 := by kernel_rfl
  cases hi : Tryz.prog.info? 99 with
  | none => rw [hi] at hk; cases hk
  | some i =>
    rw [hi] at hk
    unfold isWant at hk
    cases hu : Tryz.prog.underlying 338 with
    | none => rw [hu] at hk; cases hk
    | some d =>
      cases d with
      | interface want =>
        rw [hu] at hk
        simp only [Option.bind_some, Option.map_some, Option.some.injEq] at hk
        obtain ⟨m, hm⟩ := missing_some (want := want) (got := i.methods) (by intro e; rw [e] at hk; cases hk)
        simp [Instr.typeAssert, underlying, hu, typeInfo, hi, hm, hz]
      | _ => rw [hu] at hk; cases hk
theorem isx_un (a : Addr) (w : World) : (Instr.typeAssert (.iface 99 (.pointer (some a))) 51 273 true).run Tryz.prog w = .ok (.tuple #[.iface 99 (.pointer (some a)), .bool true]) w := by kernel_rfl

theorem isx_cmp (w : World) : (ReflectliteType.method (fun t => do noPackHeld "Comparable" t; pure (.bool (← typeInfo t).comparable)) #[.agg #[.pointer (some ⟨14, 22, none⟩)]]).run Tryz.prog w = .ok (.bool true) w := by kernel_rfl
set_option maxHeartbeats 4000000 in
theorem unwrap_sp (b : Nat) (n : Int) (w : World) (hc : w.cell? ⟨b, 1, none⟩ = some (.int .i64 n)) : Calls Tryz.prog 349 #[.pointer (some ⟨b, 0, none⟩)] w fun e w' => e = .returned (.iface 22 (.int .i64 n)) ∧ w' = w := by
  go_enter Tryz.func349, Tryz.ntmps349
  go_wp2
  go_ret
  exact ⟨rfl, rfl⟩
end Go.Proofs.YtllpiaedljoejaaGreatDoor

namespace Go.Proofs.YtllpiaedljoejaaGreatDoor
open Go.RowKit Go.Extern.Stop Go.Stop Go.Extern Go.Extern.Rtype
set_option maxRecDepth 100000
theorem isx_neq2 (a : Addr) (n : Int) (w : World) : (binOp .eql 51 (.iface 99 (.pointer (some a))) (.iface 22 (.int .i64 n)) : Sem Value).run Tryz.prog w = .ok (.bool false) w := by kernel_rfl
theorem isx_eq2 (n : Int) (w : World) : (binOp .eql 51 (.iface 22 (.int .i64 n)) (.iface 22 (.int .i64 n)) : Sem Value).run Tryz.prog w = .ok (.bool true) w := by rw [isx_eq]; simp
set_option maxHeartbeats 4000000 in
theorem is_inner (b : Nat) (n : Int) (w : World) (hc : w.cell? ⟨b, 1, none⟩ = some (.int .i64 n)) : Calls Tryz.prog 136 #[.iface 99 (.pointer (some ⟨b, 0, none⟩)), .iface 22 (.int .i64 n), .bool true] w fun e w' => e = .returned (.bool true) ∧ w' = w := by
  have f1 := isx_neq2 ⟨b, 0, none⟩ n
  have f2 := isx_eq2 n
  have f3 := isx_noIs ⟨b, 0, none⟩
  have f4 := isx_un ⟨b, 0, none⟩
  have f5 := isx_methodU ⟨b, 0, none⟩
  go_enter Tryz.func136, Tryz.ntmps136
  go_wp2
  refine wp_loop_rounds 2 ?_
  rw [rounds_succ]
  go_wp2
  rw [rounds_succ]
  go_wp2
  go_ret
  exact ⟨rfl, rfl⟩
theorem isx_cmp2 (w : World) : (ReflectliteType.method (fun t => do noPackHeld "Comparable" t; (fun a => Value.bool a.comparable) <$> typeInfo t) #[.agg #[.pointer (some ⟨14, 22, none⟩)]]).run Tryz.prog w = .ok (.bool true) w := by kernel_rfl
set_option maxHeartbeats 4000000 in
theorem is_hit (b : Nat) (n : Int) (w : World) (hc : w.cell? ⟨b, 1, none⟩ = some (.int .i64 n)) : Calls Tryz.prog 88 #[.iface 99 (.pointer (some ⟨b, 0, none⟩)), .iface 22 (.int .i64 n)] w fun e w' => e = .returned (.bool true) ∧ w' = w := by
  have h135 := @run_callFunc_extern Tryz.prog 135 _ ReflectliteType.typeOf Tryz.func135 (by kernel_rfl) (by kernel_rfl) (by kernel_rfl) (by kernel_rfl)
  have h358 := @run_callFunc_extern Tryz.prog 358 _ (ReflectliteType.method fun t => do noPackHeld "Comparable" t; pure (.bool (← typeInfo t).comparable)) Tryz.func358 (by kernel_rfl) (by kernel_rfl) (by kernel_rfl) (by kernel_rfl)
  have f1 := isx_typeOf
  have f2 := isx_methodC
  have f3 := isx_cmp2
  go_enter Tryz.func88, Tryz.ntmps88
  go_wp2_with (first | (go_at_call 136; refine (is_inner b n _ (by assumption)).mono ?_; rintro e w' ⟨rfl, rfl⟩))
  go_ret
  exact ⟨rfl, rfl⟩
end Go.Proofs.YtllpiaedljoejaaGreatDoor
