/- A row's two ends: what an argument is, and that an answer 'true' that leaves all as it was keeps the row. Conditions: none. -/
import Derived.Test.YtllpiaedljoejaaGreatDoorVcMem
import Derived.ProofKit
import Derived.Deep.Slices
import Derived.OpenShut
namespace Go.Vc
open Go.ChangeShapes Go.WideShapes Go.ChangeAt Go.RowKit
set_option linter.unusedSimpArgs false
set_option linter.unusedVariables false

/-! ### Plain values -/
inductive Lk where
  | int (k : IntKind) | bool | str
def fit : Lk → Value → Prop
  | .int k, v => ∃ n, v = .int k n ∧ (Lit.int k n).wf = true
  | .bool, v => ∃ b, v = .bool b
  | .str, v => ∃ s : ByteArray, v = .string s ∧ s.size ≤ maxLen
def fits : List Lk → List Value → Prop
  | [], [] => True
  | k :: ks, v :: vs => fit k v ∧ fits ks vs
  | _, _ => False
theorem fits_cons {k : Lk} {ks : List Lk} {cs : List Value} (h : fits (k :: ks) cs) : ∃ v vs, cs = v :: vs ∧ fit k v ∧ fits ks vs := by
  cases cs with
  | nil => exact h.elim
  | cons v vs => exact ⟨v, vs, rfl, h⟩
theorem fits_nil {cs : List Value} (h : fits [] cs) : cs = [] := by
  cases cs with
  | nil => rfl
  | cons v vs => exact h.elim
theorem fits_length : ∀ {ks : List Lk} {vs : List Value}, fits ks vs → ks.length = vs.length
  | [], [], _ => rfl
  | _ :: _, _ :: _, h => by simp [fits_length h.2]
  | [], _ :: _, h => h.elim
  | _ :: _, [], h => h.elim
theorem fits_append : ∀ {ks ks2 : List Lk} {vs vs2 : List Value}, fits ks vs → fits ks2 vs2 → fits (ks ++ ks2) (vs ++ vs2)
  | [], _, [], _, _, h2 => h2
  | _ :: _, _, _ :: _, _, h, h2 => ⟨h.1, fits_append h.2 h2⟩
  | [], _, _ :: _, _, h, _ => h.elim
  | _ :: _, _, [], _, h, _ => h.elim

mutual
def leafs (P : Program) : Nat → TypeId → Option (List Lk)
  | 0, _ => none
  | n + 1, t =>
    match P.underlying t with
    | some (.int k) => some [.int k]
    | some .bool => some [.bool]
    | some .string => some [.str]
    | some (.struct fs) => leafsF P n fs.toList 0
    | some (.array m e) =>
      match leafs P n e with
      | some l => if P.cellsOf e = l.length then some (List.replicate m l).flatten else none
      | none => none
    | _ => none
def leafsF (P : Program) : Nat → List Field → Nat → Option (List Lk)
  | _, [], _ => some []
  | 0, _ :: _, _ => none
  | n + 1, f :: r, at_ =>
    match leafs P n f.type, leafsF P n r (at_ + P.cellsOf f.type) with
    | some l, some l2 => if f.offset = at_ ∧ P.cellsOf f.type = l.length then some (l ++ l2) else none
    | _, _ => none
end

section
variable {H : Type} {enc : TypeId × Value → H} {P : Program} {w : World} {base : Nat} {spare : Nat → Bool} {held : Bool}

theorem drop_take {cs : List Value} {a b c : Nat} : (cs.drop a).take (b + c) = (cs.drop a).take b ++ (cs.drop (a + b)).take c := by
  rw [List.take_add, List.drop_drop]

theorem array_fits {l : List Lk} {m k : Nat} {cs : List Value} (hk : k = l.length) (h : ∀ i, i < m → fits l ((cs.drop (i * k)).take k)) : fits (List.replicate m l).flatten (cs.take (m * k)) := by
  induction m with
  | zero => simp [fits]
  | succ m ih =>
    have h1 := ih (fun i hi => h i (by omega))
    have h2 := h m (by omega)
    have e : (List.replicate (m + 1) l).flatten = (List.replicate m l).flatten ++ l := by
      rw [List.replicate_succ']; simp
    have e2 : cs.take ((m + 1) * k) = cs.take (m * k) ++ (cs.drop (m * k)).take k := by
      rw [Nat.add_mul, Nat.one_mul, List.take_add]
    rw [e, e2]; exact fits_append h1 h2

mutual
theorem trod_leafs {n fuel : Nat} {t : TypeId} {cs : List Value} {x : DataW H × List MemPlace} {ls : List Lk} (hl : leafs P n t = some ls) (hc : P.cellsOf t = ls.length) (h : DataW.trod enc P w base spare held fuel t cs = some x) : fits ls cs := by
  match n with
  | 0 => simp [leafs] at hl
  | n + 1 =>
    unfold leafs at hl
    cases hu : P.underlying t with
    | none => simp [hu] at hl
    | some d =>
      cases d <;> simp only [hu] at hl <;> try (cases hl; done)
      case int k =>
        simp only [Option.some.injEq] at hl; subst hl
        obtain ⟨m, rfl, _, hw⟩ := DataW.trod_int hu h
        exact ⟨⟨m, rfl, hw⟩, trivial⟩
      case bool =>
        simp only [Option.some.injEq] at hl; subst hl
        obtain ⟨b, rfl, _⟩ := DataW.trod_bool hu h
        exact ⟨⟨b, rfl⟩, trivial⟩
      case string =>
        simp only [Option.some.injEq] at hl; subst hl
        obtain ⟨s, rfl, _, hw⟩ := DataW.trod_string hu h
        exact ⟨⟨s, rfl, hw⟩, trivial⟩
      case struct fs =>
        obtain ⟨xs, m, _, _, hlen, hxl, hf⟩ := DataW.trod_struct hu h
        have := trod_leafsF (fuel := m) (cs := cs) hl (fun f hf' => by
          obtain ⟨i, hi⟩ := List.getElem?_of_mem hf'
          have hi' : fs[i]? = some f := by simpa using hi
          have := hf i f hi'
          have hlt : i < xs.length := by rw [hxl]; have := (Array.getElem?_eq_some_iff.1 hi').1; exact this
          exact ⟨xs[i], by rw [this]; simp [hlt]⟩)
        have hls : ls.length = cs.length := by omega
        rw [List.drop_zero, List.take_of_length_le (by omega)] at this
        exact this
      case array m e =>
        obtain ⟨xs, f, _, _, hlen, hxl, hf⟩ := DataW.trod_array hu h
        cases hle : leafs P n e with
        | none => simp [hle] at hl
        | some l =>
          simp only [hle] at hl
          split at hl <;> simp only [Option.some.injEq, reduceCtorEq] at hl
          rename_i hce
          subst hl
          have hall := array_fits (cs := cs) (m := m) hce (fun i hi => by
            have := hf i hi
            have hlt : i < xs.length := by omega
            rw [List.getElem?_eq_getElem hlt] at this
            exact trod_leafs hle hce this)
          have : cs.length ≤ m * P.cellsOf e := by
            rw [hlen, hc, List.length_flatten]; simp [hce]
          rw [List.take_of_length_le this] at hall
          exact hall
theorem trod_leafsF {n fuel at_ : Nat} {fs : List Field} {cs : List Value} {ls : List Lk} (hl : leafsF P n fs at_ = some ls)
    (h : ∀ f ∈ fs, ∃ x, DataW.trod enc P w base spare held fuel f.type ((cs.drop f.offset).take (P.cellsOf f.type)) = some x) : fits ls ((cs.drop at_).take ls.length) := by
  match fs, n with
  | [], n =>
    have : ls = [] := by unfold leafsF at hl; simpa using hl.symm
    subst this; simp [fits]
  | _ :: _, 0 => simp [leafsF] at hl
  | f :: r, n + 1 =>
    unfold leafsF at hl
    cases h1 : leafs P n f.type with
    | none => simp [h1] at hl
    | some l =>
      cases h2 : leafsF P n r (at_ + P.cellsOf f.type) with
      | none => simp [h1, h2] at hl
      | some l2 =>
        simp only [h1, h2] at hl
        split at hl <;> simp only [Option.some.injEq, reduceCtorEq] at hl
        rename_i hoff
        subst hl
        obtain ⟨x, hx⟩ := h f (by simp)
        have a1 := trod_leafs h1 hoff.2 hx
        have a2 := trod_leafsF (fuel := fuel) (cs := cs) h2 (fun g hg => h g (by simp [hg]))
        rw [hoff.1, hoff.2] at a1
        rw [hoff.2] at a2
        rw [List.length_append, drop_take]
        exact fits_append a1 a2
end

/-- An argument that is an array or a struct of plain values. -/
theorem arg_agg {r : Reach} {b0 n : Nat} {t : TypeId} {v : Value} {d : DataW H} {ps : List MemPlace} {ls : List Lk} (hag : (match P.underlying t with | some (.struct _) | some (.array _ _) => true | _ => false) = true)
    (hl : leafs P n t = some ls) (hc : P.cellsOf t = ls.length) (hv : Value.okWide P w r b0 t v) (h : DataW.Trod enc P w base spare held t v d ps) : ∃ cs : List Value, v = .agg cs.toArray ∧ fits ls cs := by
  have : ∃ cs, v = .agg cs := by
    unfold Value.okWide at hv
    cases hu : P.underlying t with
    | none => simp [hu] at hag
    | some d => cases d <;> simp [hu] at hag hv <;> exact ⟨_, hv.choose_spec.1⟩
  obtain ⟨cs, rfl⟩ := this
  obtain ⟨fuel, hf⟩ := h
  exact ⟨cs.toList, by simp, trod_leafs hl hc (by simpa [Value.cells] using hf)⟩

theorem Addr.plain {w : World} {a : Addr} {v : Value} (h : w.cell? a = some v) : a = ⟨a.block, a.off, none⟩ := by
  unfold World.cell? at h
  split at h
  · split at h
    · cases h
    · rename_i hs; cases a; simp at hs; simp [hs]
  · cases h

theorem list_of {α : Type} {p : Nat → α → Prop} : ∀ {n : Nat}, (∀ i, i < n → ∃ x, p i x) → ∃ xs : List α, xs.length = n ∧ ∀ i x, xs[i]? = some x → p i x
  | 0, _ => ⟨[], rfl, by simp⟩
  | k + 1, this => by
    obtain ⟨xs, hl1, hx1⟩ := list_of (n := k) (fun i hi => this i (by omega))
    obtain ⟨x, hc1⟩ := this k (by omega)
    refine ⟨xs ++ [x], by simp [hl1], fun i y hy => ?_⟩
    rcases Nat.lt_or_ge i xs.length with hlt | hge
    · rw [List.getElem?_append_left hlt] at hy; exact hx1 i y hy
    · rw [List.getElem?_append_right hge] at hy
      have : i - xs.length = 0 := by
        rcases Nat.eq_zero_or_pos (i - xs.length) with h | h
        · exact h
        · rw [List.getElem?_eq_none (by simp; omega)] at hy; cases hy
      rw [this] at hy; simp at hy; subst hy
      rw [show i = k by omega]; exact hc1

/-- An argument that is a slice of plain elements. -/
theorem arg_slice {α : Type} {E : Enc α} {Q : α → Prop} {n : Nat} {t e : TypeId} {v : Value} {d : DataW H} {ps : List MemPlace} {ls : List Lk} (ht : P.underlying t = some (.slice e)) (hl : leafs P n e = some ls) (hc : P.cellsOf e = ls.length)
    (hk : E.k = ls.length) (dec : ∀ cs, fits ls cs → ∃ x, Q x ∧ cs = E.f x) {r : Reach} {b0 : Nat} (hv : Value.okWide P w r b0 t v) (h : DataW.Trod enc P w base spare held t v d ps) :
    ∃ (a : Option Addr) (xs : List α) (c : Nat), v = .slice a xs.length c ∧ SlR E w a xs ∧ xs.length ≤ c ∧ c ≤ maxLen ∧ ∀ x ∈ xs, Q x := by
  obtain ⟨a0, len0, cap0, rfl⟩ := okWide_slice ht hv
  obtain ⟨fuel, hf⟩ := h
  simp only [Value.cells] at hf
  rcases Go.Deep.open_slice ht hf with ⟨h0, _⟩ | ⟨a, len, cap, m, n', D, Pl, h0, _, hle, hmax, hm, _, hx⟩
  · simp at h0; obtain ⟨rfl, rfl, rfl⟩ := h0
    exact ⟨none, [], 0, rfl, SlR.nil _ _ _, Nat.le_refl _, Nat.zero_le _, by simp⟩
  · simp at h0; obtain ⟨rfl, rfl, rfl⟩ := h0
    have hlm : len0 ≤ m := by rw [hm]; split <;> omega
    have : ∀ i, i < len0 → ∃ x, Q x ∧ w.cells? base (a.add (i * P.cellsOf e)) (P.cellsOf e) = some (E.f x) := fun i hi => by
      obtain ⟨cs', h1, h2⟩ := hx i (by omega)
      obtain ⟨x, hq, rfl⟩ := dec cs' (trod_leafs hl hc h2)
      exact ⟨x, hq, h1⟩
    obtain ⟨xs, rfl, hx1⟩ := list_of this
    have kp := E.pos
    have rd : ∀ i x, xs[i]? = some x → ∀ j v, (E.f x)[j]? = some v → w.cell? (a.add (i * E.k + j)) = some v := fun i x hx' j v hv => by
      obtain ⟨_, hcs⟩ := hx1 i x hx'
      obtain ⟨_, hlen, hall⟩ := World.cells?_some hcs
      have hj : j < P.cellsOf e := by rw [← hlen]; exact (List.getElem?_eq_some_iff.1 hv).1
      have := hall j hj
      rw [hv, Go.Deep.add_add, hc, ← hk] at this
      exact this
    refine ⟨some a, xs, cap0, rfl, fun i x hx' => ?_, hle, hmax, fun x hx' => ?_⟩
    · have hl0 : 0 < (E.f x).length := by rw [E.len]; exact kp
      have hlt := (List.getElem?_eq_some_iff.1 hx').1
      obtain ⟨x0, hx0⟩ : ∃ x0, xs[0]? = some x0 := ⟨xs[0]'(by omega), List.getElem?_eq_getElem (by omega)⟩
      have h00 := rd 0 x0 hx0 0 ((E.f x0)[0]'(by rw [E.len]; exact kp)) (List.getElem?_eq_getElem _)
      have ha : a = ⟨a.block, a.off, none⟩ := by
        have : a.add (0 * E.k + 0) = a := by simp [Addr.add]
        rw [this] at h00
        exact Addr.plain h00
      refine ⟨a.block, a.off, by rw [← ha], fun j v hv => ?_⟩
      have := rd i x hx' j v hv
      rw [ha, addr_add] at this
      rw [Nat.add_assoc]; exact this
    · obtain ⟨i, hi⟩ := List.getElem?_of_mem hx'
      exact (hx1 i x hi).1
end

/-! ### The end -/
def paramsRowed (P : Program) (ts : List TypeId) : Bool := ts.all fun t => P.readableRec t && decide (t < P.types.size)
theorem trodAll_stays {H : Type} {enc : TypeId × Value → H} {P : Program} (hl : laidOutB P = true) {W W' : World} (hb : Below W.heap.size W W') :
    ∀ {ts : List TypeId} {vs : List Value} {ds : List (DataW H)} {ps : List MemPlace}, paramsRowed P ts = true → (∀ x ∈ ps, x.block < W.heap.size) →
      DataW.TrodAll enc P W 0 (fun _ => true) true ts vs ds ps → DataW.TrodAll enc P W' 0 (fun b => decide (b < W.heap.size)) true ts vs ds ps
  | [], [], [], _, _, _, h => h
  | [], [], _ :: _, _, _, _, h => h.elim
  | [], _ :: _, _, _, _, _, h => h.elim
  | _ :: _, [], _, _, _, _, h => h.elim
  | _ :: _, _ :: _, [], _, _, _, h => h.elim
  | t :: ts, v :: vs, d :: ds, ps, hp, hlt, ⟨p, q, h1, h2, e⟩ => by
    simp only [paramsRowed, List.all_cons, Bool.and_eq_true, decide_eq_true_eq] at hp
    subst e
    exact ⟨p, q, Below.trod hl hp.1.1 hp.1.2 h1 hb (fun x hx => hlt x (by simp [hx])), trodAll_stays hl hb (by simpa [paramsRowed] using hp.2) (fun x hx => hlt x (by simp [hx])) h2, rfl⟩

/-- The answer true, and nothing that was there has changed: the row's 'post'. -/
theorem post_true {H : Type} {enc : TypeId × Value → H} {P : Program} {f : Func} {s : ChangeSpec} {W W' : World} {args : Array Value} {ds gs : List (DataW H)} {before : List MemPlace} {tb : TypeId}
    (hl : laidOutB P = true) (hp : paramsRowed P f.params.toList = true) (hr : f.resultTypes = #[tb]) (hb : P.underlying tb = some .bool) (hv : s.vars = [])
    (hfn : ∀ ds : List (DataW H), ds.length = f.params.size → s.fn H ds = { results := [.lit (.bool true)], args := ds })
    (hW : DataW.Whole enc P f.params.toList s.vars false W args.toList ds gs before) (hc : Ch [] W W') :
    s.post enc P f false true false false W args (.bool true) W' := by
  have hW' := hW
  obtain ⟨p, q, hA, hV, rfl, _, _⟩ := hW
  rw [hv] at hV
  cases gs with
  | cons _ _ => exact hV.elim
  | nil =>
  have hq : q = [] := hV
  subst hq
  have len : ∀ {ts : List TypeId} {vs : List Value} {ds : List (DataW H)} {ps : List MemPlace}, DataW.TrodAll enc P W 0 (fun _ => true) true ts vs ds ps → ds.length = ts.length := by
    intro ts
    induction ts with
    | nil => intro vs ds ps h; cases vs <;> cases ds <;> first | rfl | exact h.elim
    | cons t ts ih =>
      intro vs ds ps h
      cases vs with
      | nil => exact h.elim
      | cons v vs =>
        cases ds with
        | nil => exact h.elim
        | cons d ds => obtain ⟨_, _, _, h2, _⟩ := h; simp [ih h2]
  have hd : s.fn H (ds ++ []) = { results := [.lit (.bool true)], args := ds } := by rw [List.append_nil]; exact hfn ds (by rw [len hA]; simp)
  have hbel := hc.below
  refine ⟨ds, [], p ++ [], [], p, [], hW', ?_, ?_, ?_, ?_, fun h => by cases h⟩
  · rw [hd, hr]
    exact trodAll_mk1 (shut_bool hb true)
  · rw [hd]
    exact trodAll_stays hl hbel hp (fun x hx => hW'.lt x (by simp [hx])) hA
  · rw [hd, hv]; exact rfl
  · exact hbel.frame _
end Go.Vc
