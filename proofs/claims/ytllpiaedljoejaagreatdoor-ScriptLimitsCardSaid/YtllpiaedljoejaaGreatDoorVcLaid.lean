/- Rows whose condition lists what package variables hold: the builder, and what a listed plain variable's cells are. Conditions: none. -/
import Derived.Test.YtllpiaedljoejaaGreatDoorVcRow
import Derived.Test.YtllpiaedljoejaaGreatDoorVcSL3
import Derived.SizedLaws
import Derived.Shelf.Vars
import Derived.LaidMore
import Derived.LaidHandle
import Derived.Lib.LaidTab
namespace Go.Vc
open Go.ChangeShapes Go.WideShapes Go.ChangeAt Go.RowKit
set_option linter.unusedSimpArgs false
set_option linter.unusedVariables false

/-! ### The data of a plain variable, flat -/
def litV : Lit → Option Value
  | .int k n => some (.int k n)
  | .bool b => some (.bool b)
  | .string bs => some (.string ⟨bs.toArray⟩)
  | _ => none
mutual
def flatD {H : Type} : DataW H → List Value
  | .lit l => (litV l).toList
  | .agg ds => flatDs ds
  | _ => []
def flatDs {H : Type} : List (DataW H) → List Value
  | [] => []
  | d :: r => flatD d ++ flatDs r
end
theorem flatDs_append {H : Type} : ∀ {a b : List (DataW H)}, flatDs (a ++ b) = flatDs a ++ flatDs b
  | [], _ => rfl
  | x :: a, b => by show flatD x ++ flatDs (a ++ b) = _; rw [flatDs_append, ← List.append_assoc]; rfl

section
variable {H : Type} {enc : TypeId × Value → H} {P : Program} {w : World} {base : Nat} {spare : Nat → Bool} {held : Bool}

theorem array_flat {m k : Nat} {cs : List Value} {ds : List (DataW H)} (hl : ds.length = m) (h : ∀ (i : Nat) (d : DataW H), ds[i]? = some d → flatD d = (cs.drop (i * k)).take k) : flatDs ds = cs.take (m * k) := by
  induction m generalizing ds with
  | zero => obtain rfl : ds = [] := List.length_eq_zero_iff.1 hl; simp [flatDs]
  | succ m ih =>
    have h1 := ih (ds := ds.take m) (by simp; omega) (fun i d hd => h i d (by
      rw [List.getElem?_take] at hd
      split at hd
      · exact hd
      · cases hd))
    have hm : m < ds.length := by omega
    have h2 := h m ds[m] (by simp [hm])
    have e : ds = ds.take m ++ [ds[m]] := by
      rw [List.take_append_getElem hm, List.take_of_length_le (by omega)]
    have e2 : cs.take ((m + 1) * k) = cs.take (m * k) ++ (cs.drop (m * k)).take k := by
      rw [Nat.add_mul, Nat.one_mul, List.take_add]
    rw [e, flatDs_append, h1, e2, ← h2]
    simp [flatDs]

mutual
theorem trod_flat {n fuel : Nat} {t : TypeId} {cs : List Value} {x : DataW H × List MemPlace} {ls : List Lk} (hl : leafs P n t = some ls) (hc : P.cellsOf t = ls.length) (h : DataW.trod enc P w base spare held fuel t cs = some x) : cs = flatD x.1 := by
  match n with
  | 0 => simp [leafs] at hl
  | n + 1 =>
    unfold leafs at hl
    cases hu : P.underlying t with
    | none => simp [hu] at hl
    | some d =>
      cases d <;> simp only [hu] at hl <;> try (cases hl; done)
      case int k =>
        obtain ⟨m, rfl, rfl, hw⟩ := DataW.trod_int hu h
        rfl
      case bool =>
        obtain ⟨b, rfl, rfl⟩ := DataW.trod_bool hu h
        rfl
      case string =>
        obtain ⟨s, rfl, rfl, hw⟩ := DataW.trod_string hu h
        simp [flatD, litV]
      case struct fs =>
        obtain ⟨xs, m, _, rfl, hlen, hxl, hf⟩ := DataW.trod_struct hu h
        have := trod_flatF (fuel := m) (cs := cs) (xs := xs) hl (by simp [hxl]) (fun i f hf' => hf i f (by simpa using hf'))
        have hls : ls.length = cs.length := by omega
        rw [List.drop_zero, List.take_of_length_le (by omega)] at this
        exact this
      case array m e =>
        obtain ⟨xs, f, _, rfl, hlen, hxl, hf⟩ := DataW.trod_array hu h
        cases hle : leafs P n e with
        | none => simp [hle] at hl
        | some l =>
          simp only [hle] at hl
          split at hl <;> simp only [Option.some.injEq, reduceCtorEq] at hl
          rename_i hce
          subst hl
          have hall := array_flat (cs := cs) (m := m) (k := P.cellsOf e) (ds := xs.map (·.1)) (by simp [hxl]) (fun i d hd => by
            rw [List.getElem?_map, Option.map_eq_some_iff] at hd
            obtain ⟨y, hy, rfl⟩ := hd
            have hi : i < m := by rw [← hxl]; exact (List.getElem?_eq_some_iff.1 hy).1
            have := hf i hi
            rw [hy] at this
            exact (trod_flat hle hce this).symm)
          have hlen2 : cs.length ≤ m * P.cellsOf e := by
            rw [hlen, hc, List.length_flatten]; simp [hce]
          rw [List.take_of_length_le hlen2] at hall
          exact hall.symm
theorem trod_flatF {n fuel at_ : Nat} {fs : List Field} {cs : List Value} {ls : List Lk} {xs : List (DataW H × List MemPlace)} (hl : leafsF P n fs at_ = some ls) (hn : xs.length = fs.length)
    (h : ∀ (i : Nat) (f : Field), fs[i]? = some f → DataW.trod enc P w base spare held fuel f.type ((cs.drop f.offset).take (P.cellsOf f.type)) = xs[i]?) : (cs.drop at_).take ls.length = flatDs (xs.map (·.1)) := by
  match fs, n, xs with
  | [], n, [] =>
    have : ls = [] := by unfold leafsF at hl; simpa using hl.symm
    subst this; simp [flatDs]
  | [], _, _ :: _ => simp at hn
  | _ :: _, _, [] => simp at hn
  | _ :: _, 0, _ :: _ => simp [leafsF] at hl
  | f :: r, n + 1, x :: xs =>
    unfold leafsF at hl
    cases h1 : leafs P n f.type with
    | none => simp [h1] at hl
    | some l =>
      cases h2 : leafsF P n r (at_ + P.cellsOf f.type) with
      | none => simp [h1, h2] at hl
      | some l2 =>
        simp only [h1, h2] at hl
        split at hl <;> simp only [Option.some.injEq, reduceCtorEq] at hl
        rename_i hoff
        obtain ⟨ho, hce⟩ := hoff
        subst hl
        have ha := trod_flat h1 hce (h 0 f rfl)
        have hb := trod_flatF (xs := xs) h2 (by simpa using hn) (fun i f' hf' => h (i + 1) f' hf')
        rw [List.length_append, drop_take, List.map_cons]
        show _ = flatD x.1 ++ flatDs (xs.map (·.1))
        rw [← hb, ← ha, ho, hce]
end
end

/-- A listed variable, alone. -/
theorem laid_mem {P : Program} {w : World} {l : List (String × DataW Unit)} {ps : List MemPlace} (h : DataW.LaidVars P w l ps) {n : String} {d : DataW Unit} (hm : (n, d) ∈ l) :
    ∃ g t cs fuel p, P.globalNamed n = some g ∧ (P.globals[g]?).map (·.type) = some t ∧ w.var? P n = some cs ∧ DataW.trod (fun _ => ()) P w 0 (fun _ => true) false fuel t cs.toList = some (d, p) := by
  induction l generalizing ps with
  | nil => cases hm
  | cons x l ih =>
    obtain ⟨n0, d0⟩ := x
    obtain ⟨g, t, cs, fuel, p, q, h1, h2, h3, h4, h5, _⟩ := h
    rcases List.mem_cons.1 hm with e | hm
    · cases e; exact ⟨g, t, cs, fuel, p, h1, h2, h3, h4⟩
    · exact ih h5 hm
/-- The cells of a listed plain variable. -/
theorem laid_flat {P : Program} {W : World} {l : List (String × DataW Unit)} (h : laidMet P l W) {n : String} {d : DataW Unit} (hm : (n, d) ∈ l) {g t : Nat} {ls : List Lk}
    (hg : P.globalNamed n = some g) (ht : (P.globals[g]?).map (·.type) = some t) (hl : leafs P 40 t = some ls) (hc : P.cellsOf t = ls.length) : W.var? P n = some (flatD d).toArray := by
  obtain ⟨ps, hv, _⟩ := h
  obtain ⟨g', t', cs, fuel, p, e1, e2, e3, e4⟩ := laid_mem hv hm
  obtain rfl := Option.some.inj (hg.symm.trans e1)
  obtain rfl := Option.some.inj (ht.symm.trans e2)
  rw [e3, ← trod_flat hl hc e4]
/-- The cell of a listed interface variable. -/
theorem laid_iface {P : Program} {W : World} {l : List (String × DataW Unit)} (h : laidMet P l W) {n nm : String} {d : DataW Unit} (hm : (n, .iface nm d) ∈ l) {g t : Nat} {ms : Array (String × TypeId)}
    (hg : P.globalNamed n = some g) (ht : (P.globals[g]?).map (·.type) = some t) (hi : P.underlying t = some (.interface ms)) : ∃ u v, W.var? P n = some #[.iface u v] ∧ P.typeName? 3 u = some nm := by
  obtain ⟨ps, hv, _⟩ := h
  obtain ⟨g', t', cs, fuel, p, e1, e2, e3, e4⟩ := laid_mem hv hm
  obtain rfl := Option.some.inj (hg.symm.trans e1)
  obtain rfl := Option.some.inj (ht.symm.trans e2)
  obtain ⟨_, u, v, e5, e6, _⟩ := iface_of_trod hi e4
  exact ⟨u, v, by rw [e3]; congr 1; exact Array.eq_one_of_toList e5, e6⟩
theorem var_mcell {P : Program} {W : World} {n : String} {cs : Array Value} {g : Nat} (hg : P.globalNamed n = some g) (h : W.var? P n = some cs) {o : Nat} {v : Value} (ho : cs[o]? = some v) : mcell (hpOf W) g o = some v := by
  have := World.var?_cell hg h o
  rw [ho] at this
  exact this

/-! ### Slices and structs among the arguments -/
section
variable {H : Type} {enc : TypeId × Value → H} {P : Program} {w : World} {base : Nat} {spare : Nat → Bool} {held : Bool}
/-- A slice of plain elements, wherever it stands. -/
theorem slice_trod {α : Type} {E : Enc α} {Q : α → Prop} {n : Nat} {t e : TypeId} {cs : List Value} {d : DataW H} {ps : List MemPlace} {ls : List Lk} (ht : P.underlying t = some (.slice e)) (hl : leafs P n e = some ls) (hc : P.cellsOf e = ls.length)
    (hk : E.k = ls.length) (dec : ∀ cs, fits ls cs → ∃ x, Q x ∧ cs = E.f x) {fuel : Nat} (hf : DataW.trod enc P w base spare held fuel t cs = some (d, ps)) :
    ∃ (a : Option Addr) (xs : List α) (c : Nat), cs = [.slice a xs.length c] ∧ SlR E w a xs ∧ xs.length ≤ c ∧ c ≤ maxLen ∧ ∀ x ∈ xs, Q x := by
  obtain ⟨a0, l0, c0, rfl⟩ : ∃ a l c, cs = [.slice a l c] := by
    rcases DataW.trod_slice ht hf with ⟨h, _⟩ | ⟨a, l, c, _, _, _, _, h, _⟩
    · exact ⟨none, 0, 0, h⟩
    · exact ⟨some a, l, c, h⟩
  rcases Go.Deep.open_slice ht hf with ⟨h0, _⟩ | ⟨a, len, cap, m, n', D, Pl, h0, _, hle, hmax, hm, _, hx⟩
  · simp at h0; obtain ⟨rfl, rfl, rfl⟩ := h0
    exact ⟨none, [], 0, rfl, SlR.nil _ _ _, Nat.le_refl _, Nat.zero_le _, by simp⟩
  · simp at h0; obtain ⟨rfl, rfl, rfl⟩ := h0
    have hlm : l0 ≤ m := by rw [hm]; split <;> omega
    have : ∀ i, i < l0 → ∃ x, Q x ∧ w.cells? base (a.add (i * P.cellsOf e)) (P.cellsOf e) = some (E.f x) := fun i hi => by
      obtain ⟨cs', h1, h2⟩ := hx i (by omega)
      obtain ⟨x, hq, rfl⟩ := dec cs' (trod_leafs hl hc h2)
      exact ⟨x, hq, h1⟩
    obtain ⟨xs, rfl, hx1⟩ := list_of this
    have kp := E.pos
    have rd : ∀ i x, xs[i]? = some x → ∀ j v, (E.f x)[j]? = some v → w.cell? (a.add (i * E.k + j)) = some v := fun i x hx' j v hv => by
      obtain ⟨_, hcs⟩ := hx1 i x hx'
      obtain ⟨_, hlen, hall⟩ := World.cells?_some hcs
      have hj : j < P.cellsOf e := by rw [← hlen]; exact (List.getElem?_eq_some_iff.1 hv).1
      have := hall j hj
      rw [hv, Go.Deep.add_add, hc, ← hk] at this
      exact this
    refine ⟨some a, xs, c0, rfl, fun i x hx' => ?_, hle, hmax, fun x hx' => ?_⟩
    · have hl0 : 0 < (E.f x).length := by rw [E.len]; exact kp
      have hlt := (List.getElem?_eq_some_iff.1 hx').1
      obtain ⟨x0, hx0⟩ : ∃ x0, xs[0]? = some x0 := ⟨xs[0]'(by omega), List.getElem?_eq_getElem (by omega)⟩
      have h00 := rd 0 x0 hx0 0 ((E.f x0)[0]'(by rw [E.len]; exact kp)) (List.getElem?_eq_getElem _)
      have ha : a = ⟨a.block, a.off, none⟩ := by
        have : a.add (0 * E.k + 0) = a := by simp [Addr.add]
        rw [this] at h00
        exact Addr.plain h00
      refine ⟨a.block, a.off, by rw [← ha], fun j v hv => ?_⟩
      have := rd i x hx' j v hv
      rw [ha, addr_add] at this
      rw [Nat.add_assoc]; exact this
    · obtain ⟨i, hi⟩ := List.getElem?_of_mem hx'
      exact (hx1 i x hi).1
/-- A struct among the arguments: its fields, one by one. -/
theorem arg_struct {r : Reach} {b0 : Nat} {t : TypeId} {v : Value} {d : DataW H} {ps : List MemPlace} {fs : Array Field} (ht : P.underlying t = some (.struct fs)) (hv : Value.okWide P w r b0 t v) (h : DataW.Trod enc P w base spare held t v d ps) :
    ∃ cs : List Value, v = .agg cs.toArray ∧ cs.length = P.cellsOf t ∧ ∀ (i : Nat) (f : Field), fs[i]? = some f → ∃ fuel x, DataW.trod enc P w base spare held fuel f.type ((cs.drop f.offset).take (P.cellsOf f.type)) = some x := by
  have : ∃ cs, v = .agg cs := by
    unfold Value.okWide at hv
    simp [ht] at hv
    exact ⟨_, hv.choose_spec.1⟩
  obtain ⟨cs, rfl⟩ := this
  obtain ⟨fuel, hf⟩ := h
  obtain ⟨xs, n, rfl, _, hlen, hxl, hfx⟩ := DataW.trod_struct ht (show DataW.trod enc P w base spare held fuel t cs.toList = some _ by simpa [Value.cells] using hf)
  refine ⟨cs.toList, by simp, hlen, fun i f hi => ?_⟩
  have h1 := hfx i f hi
  have hlt : i < xs.length := by rw [hxl]; exact (Array.getElem?_eq_some_iff.1 hi).1
  exact ⟨n, xs[i], by rw [h1]; simp [hlt]⟩
/-- A slice, of whatever: its shape. -/
theorem slice_shape {t e : TypeId} {cs : List Value} {fuel : Nat} {x : DataW H × List MemPlace} (ht : P.underlying t = some (.slice e)) (hf : DataW.trod enc P w base spare held fuel t cs = some x) : ∃ a l c, cs = [.slice a l c] := by
  rcases DataW.trod_slice ht hf with ⟨h, _⟩ | ⟨a, l, c, _, _, _, _, h, _⟩
  · exact ⟨none, 0, 0, h⟩
  · exact ⟨some a, l, c, h⟩
/-- A struct's fields: their types and places. -/
def fieldsOf (P : Program) (t : TypeId) : Option (List (TypeId × Nat)) :=
  match P.underlying t with
  | some (.struct fs) => some (fs.toList.map fun f => (f.type, f.offset))
  | _ => none
theorem arg_fields {r : Reach} {b0 : Nat} {t : TypeId} {v : Value} {d : DataW H} {ps : List MemPlace} {l : List (TypeId × Nat)} (hl : fieldsOf P t = some l) (hv : Value.okWide P w r b0 t v) (h : DataW.Trod enc P w base spare held t v d ps) :
    ∃ cs : List Value, v = .agg cs.toArray ∧ cs.length = P.cellsOf t ∧ ∀ (i : Nat) (ty o : Nat), l[i]? = some (ty, o) → ∃ fuel x, DataW.trod enc P w base spare held fuel ty ((cs.drop o).take (P.cellsOf ty)) = some x := by
  unfold fieldsOf at hl
  split at hl
  · rename_i fs hfs
    simp only [Option.some.injEq] at hl
    subst hl
    obtain ⟨cs, rfl, hc, hx⟩ := arg_struct hfs hv h
    refine ⟨cs, rfl, hc, fun i ty o hi => ?_⟩
    rw [List.getElem?_map, Option.map_eq_some_iff] at hi
    obtain ⟨f, hf, he⟩ := hi
    cases he
    exact hx i f (by simpa using hf)
  · cases hl
end

/-- The builder: the condition, the memory's shape and the reach handed on. -/
theorem returnsInHanded_laid {H : Type} {enc : TypeId × Value → H} {a : Assume} {C : Checked} {os : Os} {f : FuncId} {fn : Func} {s : ChangeSpec} {conds : List PathCond} {apart fresh handsOn again : Bool} {X : World → Array Value → Prop}
    (hX : ∀ (w w' : World) (args : Array Value), w.heap = w'.heap → X w args → X w' args)
    (own : ownKnob C.prog.godebug = none) (started : os.Started) (noInit : C.prog.inits.idxOf? f = none) (hfn : C.prog.funcs[f]? = some fn)
    (witness : ∃ (w : World) (tape : Tape) (i : Input), w.os = os ∧ (w.forCall tape i).Shaped C.prog ∧ i.vars = [] ∧ Input.okWide C.prog (w.forCall tape i) .any w.heap.size f i ∧
      ((s.pre enc C.prog fn conds apart (w.forCall tape i).memory i.args ∧ X (w.forCall tape i).memory i.args) ∧ sizedMet enc C.prog fn (OpenSpec.ofChange s) apart (w.forCall tape i).memory i.args) ∧ a.holds C.prog (lone (Frame.enter C.prog f i.args .normal) [] (w.forCall tape i)))
    (contract : ∀ (W : World) (base : Nat) (args : Array Value) (ds gs : List (DataW H)) (before : List MemPlace),
      (∀ (j : Nat) t v, fn.params[j]? = some t → args[j]? = some v → Value.okWide C.prog W .any base t v) →
      DataW.Whole enc C.prog fn.params.toList s.vars apart W args.toList ds gs before →
      conds.all (PathCond.test C.prog ⟨fn.params.toList, ds, s.plain.varTypes C.prog, gs⟩) = true →
      (DataW.weightsEach C.prog (fn.params.toList ++ s.plain.varTypes C.prog) (ds ++ gs)).all (· ≤ reachBytes) = true → W.ShapedOpen C.prog → X W args →
      Calls C.prog f args W fun e W' => ∃ v, e = .returned v ∧ s.post enc C.prog fn apart fresh handsOn again W args v W') :
    ReturnsInHanded a C os f .any (fun w args => (s.pre enc C.prog fn conds apart w args ∧ X w args) ∧ sizedMet enc C.prog fn (OpenSpec.ofChange s) apart w args) (s.post enc C.prog fn apart fresh handsOn again) := by
  refine returnsInHanded_of_calls own started noInit witness fun w tape i _ hsh _ hok hpre _ => ?_
  obtain ⟨_, _, _, fn', hfn', _, _, _, _, hval⟩ := hok
  obtain rfl : fn' = fn := Option.some.inj (hfn'.symm.trans hfn)
  obtain ⟨⟨⟨ds, gs, before, hw, hc⟩, hx⟩, hz⟩ := hpre
  refine (contract (w.forCall tape i) w.heap.size i.args ds gs before hval (DataW.Whole.of_heap (w' := w.forCall tape i) (by rfl) hw) hc (hz.weights hw) hsh (hX _ _ _ (by rfl) hx)).mono ?_
  rintro _ W' ⟨v, rfl, hp⟩
  exact ChangeSpec.post_blind hp
end Go.Vc
