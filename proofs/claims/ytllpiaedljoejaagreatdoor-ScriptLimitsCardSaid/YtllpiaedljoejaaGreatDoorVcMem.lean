/- Words of the printed formulas, and memory: rows of cells, slices, what a step may change. Conditions: none. -/
import Derived.Test.YtllpiaedljoejaaGreatDoorVcCode
import Derived.Test.YtllpiaedljoejaaGreatDoorProg
import Derived.Laws.AppendOwn
import Derived.Laws.OwnMore
import Derived.Laws.MakeOwn
import Derived.Below
namespace Go.Vc
set_option linter.unusedSimpArgs false
set_option linter.unusedVariables false
def newBlk (w : World) (o : Obj) (K : Nat → World → Prop) : Prop := K w.heap.size (w.alloc o)
def storeC (w : World) (b o : Nat) (vs : List Value) (K : World → Prop) : Prop := room w b o vs.length ∧ K (w.setCells b o vs)
def drawC (w : World) (K : World → Prop) : Prop := K w.drew
def zcells (P : Program) (t : TypeId) : Array Value :=
  match (P.info? t).bind (·.zero) with
  | some v => v.cells
  | none => #[]
def eqRun (op : BinOp) (t : TypeId) (x y : Operand) (a b : Value) : Sem Value := do eqGuard op t x y a b; binOp op t a b
def callV (f : Value) (args : Array Value) : Sem Next := do let d ← Deferred.ofValue f args; invoke d.target d.args

/-! ### What may have changed -/
/-- From w to w' only the blocks of D may have changed; new ones may have come. -/
structure Ch (D : List Nat) (w w' : World) : Prop where
  os : w'.os = w.os
  tape : w'.tape = w.tape
  output : w'.output = w.output
  size : w.heap.size ≤ w'.heap.size
  block : ∀ b, b < w.heap.size → b ∉ D → w'.heap[b]? = w.heap[b]?
theorem Ch.refl (D : List Nat) (w : World) : Ch D w w := ⟨rfl, rfl, rfl, Nat.le_refl _, fun _ _ _ => rfl⟩
theorem Ch.trans {D D2 : List Nat} {w w1 w2 : World} (h : Ch D w w1) (h2 : Ch D2 w1 w2) (hs : ∀ x ∈ D2, x ∈ D ∨ w.heap.size ≤ x) : Ch D w w2 :=
  ⟨h2.os.trans h.os, h2.tape.trans h.tape, h2.output.trans h.output, Nat.le_trans h.size h2.size, fun b hb hd =>
    (h2.block b (Nat.lt_of_lt_of_le hb h.size) (fun hm => by rcases hs b hm with h' | h'; exact hd h'; omega)).trans (h.block b hb hd)⟩
theorem Ch.trans0 {D : List Nat} {w w1 w2 : World} (h : Ch D w w1) (h2 : Ch [] w1 w2) : Ch D w w2 := h.trans h2 (fun _ h => by cases h)
theorem Ch.mono {D D2 : List Nat} {w w' : World} (h : Ch D w w') (hs : ∀ x ∈ D, x ∈ D2) : Ch D2 w w' :=
  ⟨h.os, h.tape, h.output, h.size, fun b hb hd => h.block b hb fun hm => hd (hs b hm)⟩
theorem Ch.new {D D2 : List Nat} {w w' : World} (h : Ch D w w') (hs : ∀ x ∈ D, x ∈ D2 ∨ w.heap.size ≤ x) : Ch D2 w w' :=
  ⟨h.os, h.tape, h.output, h.size, fun b hb hd => h.block b hb fun hm => by rcases hs b hm with h' | h'; exact hd h'; omega⟩
theorem size_alloc (w : World) (o : Obj) : (w.alloc o).heap.size = w.heap.size + 1 := by show (w.heap.push o).size = _; simp
theorem heap_alloc (w : World) (o : Obj) : (w.alloc o).heap[w.heap.size]? = some o := by show (w.heap.push o)[w.heap.size]? = _; simp
theorem Ch.alloc (w : World) (o : Obj) : Ch [] w (w.alloc o) := ⟨rfl, rfl, rfl, by rw [size_alloc]; omega, fun b hb _ => Go.RowKit.Below.heap_alloc w o b hb⟩
theorem Ch.drew (w : World) : Ch [] w w.drew := ⟨rfl, rfl, rfl, Nat.le_refl _, fun _ _ _ => rfl⟩
theorem size_setCells (b : Nat) : ∀ (vs : List Value) (o : Nat) (w : World), (w.setCells b o vs).heap.size = w.heap.size
  | [], _, _ => rfl
  | v :: r, o, w => by rw [World.setCells, size_setCells b r]; simp [World.setCell]
theorem heap_setCells (b : Nat) : ∀ (vs : List Value) (o : Nat) (w : World) (k : Nat), k ≠ b → (w.setCells b o vs).heap[k]? = w.heap[k]?
  | [], _, _, _, _ => rfl
  | v :: r, o, w, k, h => by rw [World.setCells, heap_setCells b r _ _ k h]; exact Go.RowKit.Below.heap_setCell _ _ _ _ h
theorem rest_setCells (b : Nat) : ∀ (vs : List Value) (o : Nat) (w : World), (w.setCells b o vs).os = w.os ∧ (w.setCells b o vs).tape = w.tape ∧ (w.setCells b o vs).output = w.output
  | [], _, _ => ⟨rfl, rfl, rfl⟩
  | v :: r, o, w => rest_setCells b r (o + 1) (w.setCell ⟨b, o, none⟩ v)
theorem Ch.setCells (w : World) (b o : Nat) (vs : List Value) : Ch [b] w (w.setCells b o vs) :=
  ⟨(rest_setCells b vs o w).1, (rest_setCells b vs o w).2.1, (rest_setCells b vs o w).2.2, by rw [size_setCells]; exact Nat.le_refl _, fun k _ hk => heap_setCells b vs o w k (by simpa using hk)⟩
theorem Ch.below {w w' : World} (h : Ch [] w w') : Go.RowKit.Below w.heap.size w w' := ⟨h.os, h.tape, h.output, h.size, fun k hk => h.block k hk (by simp)⟩
theorem Ch.of_grown {w w' : World} {row : Option Nat} (h : w.grownBy w' row) : Ch row.toList w w' :=
  ⟨h.os, h.tape, h.output, h.size, fun k hk hd => h.block k hk (fun e => hd (by rw [← e]; simp))⟩
theorem Ch.obj {D : List Nat} {w w' : World} {b : Nat} {o : Obj} (h : Ch D w w') (hr : w.heap[b]? = some o) (hb : b ∉ D) : w'.heap[b]? = some o := by
  have hlt : b < w.heap.size := by
    rcases Nat.lt_or_ge b w.heap.size with h | h
    · exact h
    · rw [Array.getElem?_eq_none h] at hr; cases hr
  rw [h.block b hlt hb]; exact hr

/-! ### A row of cells -/
/-- Block b is this row of cells, none frozen. -/
def Row (w : World) (b : Nat) (t : TypeId) (cs : List Value) : Prop := w.heap[b]? = some (.cells cs.toArray t (0, 0))
theorem Row.lt {w : World} {b : Nat} {t : TypeId} {cs : List Value} (h : Row w b t cs) : b < w.heap.size := by
  rcases Nat.lt_or_ge b w.heap.size with h' | h'
  · exact h'
  · unfold Row at h; rw [Array.getElem?_eq_none h'] at h; cases h
theorem Row.at {w : World} {b : Nat} {t : TypeId} {cs : List Value} (h : Row w b t cs) (o : Nat) : w.cell? ⟨b, o, none⟩ = cs[o]? := by
  unfold Row at h; simp [World.cell?, h]
theorem Row.cell {w : World} {b : Nat} {t : TypeId} {cs : List Value} {o : Nat} {v : Value} (h : Row w b t cs) (hv : cs[o]? = some v) : w.cell? ⟨b, o, none⟩ = some v := by rw [h.at, hv]
theorem Row.frozen {w : World} {b : Nat} {t : TypeId} {cs : List Value} (h : Row w b t cs) (o : Nat) : w.frozen? ⟨b, o, none⟩ = false := by
  unfold Row at h; simp [World.frozen?, h]
theorem Row.room {w : World} {b : Nat} {t : TypeId} {cs : List Value} (h : Row w b t cs) {o n : Nat} (ho : o + n ≤ cs.length) : room w b o n :=
  fun i hi => ⟨by rw [h.at]; simp; omega, h.frozen _⟩
theorem Ch.row {D : List Nat} {w w' : World} {b : Nat} {t : TypeId} {cs : List Value} (h : Ch D w w') (hr : Row w b t cs) (hb : b ∉ D) : Row w' b t cs := h.obj hr hb

def splice (cs : List Value) (o : Nat) (vs : List Value) : List Value := cs.take o ++ vs ++ cs.drop (o + vs.length)
theorem Row.set {b : Nat} {t : TypeId} : ∀ (vs : List Value) (o : Nat) (cs : List Value) (w : World), Row w b t cs → o + vs.length ≤ cs.length → Row (w.setCells b o vs) b t (splice cs o vs)
  | [], o, cs, w, h, ho => by simpa [World.setCells, splice] using h
  | v :: r, o, cs, w, h, ho => by
    have h1 : Row (w.setCell ⟨b, o, none⟩ v) b t (cs.set o v) := by
      unfold Row at h ⊢
      simp [World.setCell, Array.getElem?_modify, h]
    have h2 := Row.set r (o + 1) _ _ h1 (by simp at ho ⊢; omega)
    rw [World.setCells]
    have e : splice (cs.set o v) (o + 1) r = splice cs o (v :: r) := by
      unfold splice
      have hlt : o < cs.length := by simp at ho; omega
      have e1 : (cs.set o v).take (o + 1) = cs.take o ++ [v] := by
        rw [List.set_eq_take_append_cons_drop]; simp [hlt]
        rw [List.take_append]; simp [Nat.min_eq_left (Nat.le_of_lt hlt)]
        rw [List.take_take, Nat.min_eq_right (by omega)]
      have e2 : (cs.set o v).drop (o + 1 + r.length) = cs.drop (o + (v :: r).length) := by
        rw [List.drop_set_of_lt (by omega)]; congr 1; simp; omega
      rw [e1, e2]; simp
    rw [← e]; exact h2

theorem newBlk_row {w : World} {cs : Array Value} {t : TypeId} {K : Nat → World → Prop}
    (h : ∀ b w', b = w.heap.size → w'.heap.size = b + 1 → Row w' b t cs.toList → Ch [] w w' → K b w') : newBlk w (.cells cs t (0, 0)) K :=
  h _ _ rfl (size_alloc _ _) (by unfold Row; rw [heap_alloc]) (Ch.alloc _ _)
theorem newBlk_map {w : World} {es : Array MapEntry} {n : Nat} {K : Nat → World → Prop}
    (h : ∀ b w', b = w.heap.size → w'.heap.size = b + 1 → w'.heap[b]? = some (.map es n) → Ch [] w w' → K b w') : newBlk w (.map es n) K :=
  h _ _ rfl (size_alloc _ _) (heap_alloc _ _) (Ch.alloc _ _)
theorem storeC_row {w : World} {b o : Nat} {t : TypeId} {cs vs : List Value} {K : World → Prop} (hr : Row w b t cs) (ho : o + vs.length ≤ cs.length)
    (h : ∀ w', Row w' b t (splice cs o vs) → Ch [b] w w' → w'.heap.size = w.heap.size → K w') : storeC w b o vs K :=
  ⟨hr.room ho, h _ (Row.set vs o cs w hr ho) (Ch.setCells _ _ _ _) (size_setCells _ _ _ _)⟩
theorem drawC_intro {w : World} {K : World → Prop} (h : ∀ w', Ch [] w w' → w'.heap = w.heap → K w') : drawC w K := h _ (Ch.drew w) rfl

theorem br_f {b : Bool} {X Y : Prop} (h : b = false) (y : Y) : br b X Y := by subst h; exact y
theorem br_t {b : Bool} {X Y : Prop} (h : b = true) (x : X) : br b X Y := by subst h; exact x
/-- A region that draws and of which something is asked throughout: that only the blocks of D change. -/
theorem drawS_intro (D : List Nat) {w : World} {K : (World → Prop) → World → Prop} (h : ∀ w', Ch [] w w' → w'.heap = w.heap → K (fun w9 => Ch D w' w9) w') :
    ∃ S : World → Prop, S w.drew ∧ drawC w (K S) := ⟨fun w9 => Ch D w.drew w9, Ch.refl _ _, h _ (Ch.drew w) rfl⟩

/-! ### Elements -/
/-- How the elements of a type lie in cells. -/
structure Enc (α : Type) where
  k : Nat
  f : α → List Value
  len : ∀ x, (f x).length = k
  pos : 0 < k
  one : ∀ x, ∀ v ∈ f x, v.oneCell' = true
def Enc.int (q : IntKind) : Enc Int := ⟨1, fun n => [.int q n], fun _ => rfl, Nat.one_pos, fun x v hv => by simp at hv; rw [hv]; rfl⟩
def Enc.str : Enc ByteArray := ⟨1, fun s => [.string s], fun _ => rfl, Nat.one_pos, fun x v hv => by simp at hv; rw [hv]; rfl⟩
def Enc.bool : Enc Bool := ⟨1, fun s => [.bool s], fun _ => rfl, Nat.one_pos, fun x v hv => by simp at hv; rw [hv]; rfl⟩
def Enc.flat {α : Type} (E : Enc α) (xs : List α) : List Value := xs.flatMap E.f
theorem Enc.flat_length {α : Type} (E : Enc α) (xs : List α) : (E.flat xs).length = xs.length * E.k := by
  induction xs with
  | nil => simp [Enc.flat]
  | cons x r ih => simp only [Enc.flat, List.flatMap_cons, List.length_append, E.len] at ih ⊢; rw [ih]; simp [Nat.add_mul]; omega
theorem Enc.flat_append {α : Type} (E : Enc α) (xs ys : List α) : E.flat (xs ++ ys) = E.flat xs ++ E.flat ys := by simp [Enc.flat]
theorem Enc.flat_get {α : Type} (E : Enc α) : ∀ (xs : List α) (i j : Nat) (x : α) (v : Value), xs[i]? = some x → (E.f x)[j]? = some v → (E.flat xs)[i * E.k + j]? = some v
  | y :: r, 0, j, x, v, hx, hv => by
    simp at hx; subst hx
    simp only [Enc.flat, List.flatMap_cons, Nat.zero_mul, Nat.zero_add]
    rw [List.getElem?_append_left (by have := (List.getElem?_eq_some_iff.1 hv).1; exact this)]
    exact hv
  | y :: r, i + 1, j, x, v, hx, hv => by
    have := E.flat_get r i j x v (by simpa using hx) hv
    simp only [Enc.flat, List.flatMap_cons] at this ⊢
    rw [List.getElem?_append_right (by rw [E.len, Nat.add_mul]; omega), E.len]
    rw [show (i + 1) * E.k + j - E.k = i * E.k + j by rw [Nat.add_mul]; omega]
    exact this
theorem Enc.flat_one {α : Type} (E : Enc α) (xs : List α) : ∀ v ∈ E.flat xs, v.oneCell' = true := by
  intro v hv
  simp only [Enc.flat, List.mem_flatMap] at hv
  obtain ⟨x, _, hx⟩ := hv
  exact E.one x v hx

theorem Enc.flat_set {α : Type} (E : Enc α) {xs : List α} {i : Nat} (hi : i < xs.length) (x : α) (tl : List Value) :
    splice (E.flat xs ++ tl) (i * E.k) (E.f x) = E.flat (xs.set i x) ++ tl := by
  have hx : (E.f x).length = E.k := E.len x
  have h1 : xs.set i x = xs.take i ++ x :: xs.drop (i + 1) := by rw [List.set_eq_take_append_cons_drop]; simp [hi]
  have h3 : xs.drop i = xs[i] :: xs.drop (i + 1) := List.drop_eq_getElem_cons hi
  have ft : (E.flat (xs.take i)).length = i * E.k := by rw [E.flat_length]; simp; rw [Nat.min_eq_left (Nat.le_of_lt hi)]
  have e0 : E.flat xs = E.flat (xs.take i) ++ (E.f xs[i] ++ E.flat (xs.drop (i + 1))) := by
    have : E.flat xs = E.flat (xs.take i ++ xs.drop i) := by rw [List.take_append_drop]
    rw [this, E.flat_append, h3]; simp only [Enc.flat, List.flatMap_cons]
  have f1 : E.flat (xs.take i ++ x :: xs.drop (i + 1)) = E.flat (xs.take i) ++ (E.f x ++ E.flat (xs.drop (i + 1))) := by simp [Enc.flat]
  unfold splice
  rw [h1, e0, f1]
  have hd : i * E.k + (E.f x).length = (E.flat (xs.take i) ++ E.f xs[i]).length := by rw [List.length_append, ft, hx, E.len]
  rw [hd]
  have e1 : E.flat (xs.take i) ++ (E.f xs[i] ++ E.flat (xs.drop (i + 1))) ++ tl = (E.flat (xs.take i) ++ E.f xs[i]) ++ (E.flat (xs.drop (i + 1)) ++ tl) := by simp
  have e2 : E.flat (xs.take i) ++ (E.f xs[i] ++ E.flat (xs.drop (i + 1))) ++ tl = E.flat (xs.take i) ++ (E.f xs[i] ++ (E.flat (xs.drop (i + 1)) ++ tl)) := by simp
  have t1 : List.take (i * E.k) (E.flat (xs.take i) ++ (E.f xs[i] ++ E.flat (xs.drop (i + 1))) ++ tl) = E.flat (xs.take i) := by rw [e2, ← ft, List.take_left]
  rw [t1, e1, List.drop_left]
  simp

/-- From the base a on the elements xs can be read. -/
def SlR {α : Type} (E : Enc α) (w : World) (a : Option Addr) (xs : List α) : Prop :=
  ∀ i x, xs[i]? = some x → ∃ b o, a = some ⟨b, o, none⟩ ∧ ∀ j v, (E.f x)[j]? = some v → w.cell? ⟨b, o + i * E.k + j, none⟩ = some v
theorem SlR.nil {α : Type} (E : Enc α) (w : World) (a : Option Addr) : SlR E w a [] := fun i x h => by simp at h
theorem Ch.cell {D : List Nat} {w w' : World} (h : Ch D w w') {a : Addr} {v : Value} (hc : w.cell? a = some v) (hd : a.block ∉ D) : w'.cell? a = some v := by
  have hlt : a.block < w.heap.size := by
    rcases Nat.lt_or_ge a.block w.heap.size with h | h
    · exact h
    · simp [World.cell?, Array.getElem?_eq_none h] at hc
  have := h.block a.block hlt hd
  rw [World.cell?_of_block this]; exact hc
theorem Ch.slr {α : Type} {E : Enc α} {D : List Nat} {w w' : World} {a : Option Addr} {xs : List α} (h : Ch D w w') (hs : SlR E w a xs) (hd : xs = [] ∨ pb a ∉ D) : SlR E w' a xs := by
  intro i x hx
  obtain ⟨b, o, ha, hc⟩ := hs i x hx
  refine ⟨b, o, ha, fun j v hv => h.cell (hc j v hv) ?_⟩
  rcases hd with rfl | hd
  · simp at hx
  · rw [ha] at hd; exact hd

theorem SlR.row {α : Type} {E : Enc α} {w : World} {b : Nat} {t : TypeId} {xs : List α} (h : Row w b t (E.flat xs)) : SlR E w (some ⟨b, 0, none⟩) xs := by
  intro i x hx
  exact ⟨b, 0, rfl, fun j v hv => by rw [Nat.zero_add]; exact h.cell (E.flat_get xs i j x v hx hv)⟩
theorem SlR.one {α : Type} {E : Enc α} {w : World} {b : Nat} {t : TypeId} {x : α} (h : Row w b t (E.f x)) : SlR E w (some ⟨b, 0, none⟩) [x] :=
  SlR.row (t := t) (by simpa [Enc.flat] using h)

/-- The slice's row is the call's own: it may grow in place. -/
def Own {α : Type} (E : Enc α) (t : TypeId) (base : Nat) (w : World) (a : Option Addr) (c : Nat) (xs : List α) : Prop :=
  w.ownsRow base t E.k (.slice a xs.length c) xs.length (E.flat xs)
theorem Own.slr {α : Type} {E : Enc α} {t : TypeId} {base : Nat} {w : World} {a : Option Addr} {c : Nat} {xs : List α} (h : Own E t base w a c xs) : SlR E w a xs := by
  intro i x hx
  obtain ⟨hl, h | ⟨g, cap, cur, hv, hb, hg, _, _, hs, ht⟩⟩ := h
  · have : xs = [] := List.eq_nil_of_length_eq_zero h.2
    subst this; simp at hx
  · simp only [Value.slice.injEq] at hv
    obtain ⟨rfl, _, _⟩ := hv
    refine ⟨g, 0, rfl, fun j v hv => ?_⟩
    have := E.flat_get xs i j x v hx hv
    rw [← ht] at this
    have hlt : i * E.k + j < xs.length * E.k := by
      have h1 := (List.getElem?_eq_some_iff.1 this).1
      simp at h1; omega
    rw [List.getElem?_take, if_pos hlt] at this
    simp only [World.cell?, hg, Nat.zero_add]
    simpa using this
theorem Own.base {α : Type} {E : Enc α} {t : TypeId} {base : Nat} {w : World} {a : Option Addr} {c : Nat} {xs : List α} (h : Own E t base w a c xs) : a = none ∨ base ≤ pb a := by
  obtain ⟨hl, h | ⟨g, cap, cur, hv, hb, _⟩⟩ := h
  · simp only [Value.slice.injEq] at h; exact .inl h.1.1
  · simp only [Value.slice.injEq] at hv; rw [hv.1]; exact .inr hb
theorem Own.lt {α : Type} {E : Enc α} {t : TypeId} {base : Nat} {w : World} {a : Option Addr} {c : Nat} {xs : List α} (h : Own E t base w a c xs) : a = none ∨ pb a < w.heap.size := by
  obtain ⟨hl, h | ⟨g, cap, cur, hv, hb, hg, _⟩⟩ := h
  · simp only [Value.slice.injEq] at h; exact .inl h.1.1
  · simp only [Value.slice.injEq] at hv; rw [hv.1]; exact .inr (Row.lt (cs := cur.toList) (t := t) (by simpa [Row] using hg))
theorem Ch.own {α : Type} {E : Enc α} {t : TypeId} {base : Nat} {D : List Nat} {w w' : World} {a : Option Addr} {c : Nat} {xs : List α} (h : Ch D w w') (hs : Own E t base w a c xs) (hd : a = none ∨ pb a ∉ D) : Own E t base w' a c xs := by
  obtain ⟨hl, hs⟩ := hs
  refine ⟨hl, ?_⟩
  rcases hs with hs | ⟨g, cap, cur, hv, hb, hg, r⟩
  · exact .inl hs
  · refine .inr ⟨g, cap, cur, hv, hb, h.obj hg ?_, r⟩
    simp only [Value.slice.injEq] at hv
    rcases hd with hd | hd
    · rw [hd] at hv; cases hv.1
    · rw [hv.1] at hd; exact hd
theorem Own.nil {α : Type} (E : Enc α) (t : TypeId) (base : Nat) (w : World) : Own E t base w none 0 [] := ⟨by simp [Enc.flat], .inl ⟨rfl, rfl⟩⟩
theorem Own.row {α : Type} {E : Enc α} {t : TypeId} {base : Nat} {w : World} {b : Nat} {xs : List α} (h : Row w b t (E.flat xs)) (hb : base ≤ b) (hl : xs.length ≤ maxLen) : Own E t base w (some ⟨b, 0, none⟩) xs.length xs :=
  ⟨E.flat_length xs, .inr ⟨b, xs.length, (E.flat xs).toArray, rfl, hb, h, Nat.le_refl _, hl, by simp [E.flat_length], by simp [← E.flat_length]⟩⟩
theorem Own.mono {α : Type} {E : Enc α} {t : TypeId} {base base' : Nat} {w : World} {a : Option Addr} {c : Nat} {xs : List α} (h : Own E t base w a c xs) (hb : base' ≤ base) : Own E t base' w a c xs := by
  obtain ⟨hl, h | ⟨g, cap, cur, hv, hb', r⟩⟩ := h
  · exact ⟨hl, .inl h⟩
  · exact ⟨hl, .inr ⟨g, cap, cur, hv, Nat.le_trans hb hb', r⟩⟩

/-- A slice's type and its element's. -/
structure ElT {α : Type} (P : Program) (t e : TypeId) (E : Enc α) (bytes : Nat) : Prop where
  ht : P.underlying t = some (.slice e)
  hi : ∃ i z, P.info? e = some i ∧ i.zero = some z ∧ i.size = E.k ∧ i.bytes = bytes ∧ z.cells.size = E.k

theorem run_append {α : Type} {P : Program} {t e ty : TypeId} {E : Enc α} {bytes : Nat} (hT : ElT P t e E bytes) {w : World} {base : Nat} {a : Option Addr} {c : Nat} {xs : List α} (h : Own E e base w a c xs)
    {a2 : Option Addr} {c2 : Nat} {ys : List α} (hy : SlR E w a2 ys) (hn : xs.length + ys.length ≤ maxLen) (hb : (xs.length + ys.length) * bytes ≤ 140737488355328) (hbase : base ≤ w.heap.size) :
    ∃ a' c' w', (Builtin.append_ #[t, t] ty #[.slice a xs.length c, .slice a2 ys.length c2]).run P w = .ok (.slice a' (xs ++ ys).length c') w' ∧ Own E e base w' a' c' (xs ++ ys) ∧ Ch (Value.ownBlock (.slice a xs.length c)).toList w w' := by
  obtain ⟨ht, i, z, hi, hz, hsz, hby, hzc⟩ := hT
  cases hy0 : ys with
  | cons y r =>
    obtain ⟨b, o, rfl, _⟩ := hy 0 y (by rw [hy0]; rfl)
    rw [← hy0]
    obtain ⟨v', w', hr, hown, hg, _⟩ := run_append_own (P := P) w base t ty e i z E.k bytes ht hi hz hsz hby hzc E.pos _ _ _ h ⟨b, o, none⟩ ys.length c2 (E.flat ys) (E.flat_length ys) (fun j u hu => by
      have hlt := (List.getElem?_eq_some_iff.1 hu).1
      rw [E.flat_length] at hlt
      have hk := E.pos
      have hi' : j / E.k < ys.length := (Nat.div_lt_iff_lt_mul hk).2 hlt
      obtain ⟨b', o', ha, hc⟩ := hy (j / E.k) ys[j / E.k] (by simp [hi'])
      simp only [Option.some.injEq, Addr.mk.injEq, and_true] at ha
      obtain ⟨rfl, rfl⟩ := ha
      have hmod : j % E.k < (E.f ys[j / E.k]).length := by rw [E.len]; exact Nat.mod_lt _ hk
      have hg := E.flat_get ys (j / E.k) (j % E.k) ys[j / E.k] (E.f ys[j / E.k])[j % E.k] (by simp [hi']) (by simp [hmod])
      rw [Nat.div_add_mod' j E.k] at hg
      rw [hu] at hg
      have := hc (j % E.k) _ (List.getElem?_eq_some_iff.2 ⟨hmod, rfl⟩)
      rw [← Option.some.inj hg] at this
      rw [addr_add, show o + j = o + j / E.k * E.k + j % E.k by rw [Nat.add_assoc, Nat.div_add_mod' j E.k]]
      exact this) (E.flat_one ys) hn hb hbase
    have hv : ∃ a' c', v' = .slice a' (xs.length + ys.length) c' := by
      obtain ⟨_, h | ⟨g, cap, cur, hv, _⟩⟩ := hown
      · rw [h.1]; exact ⟨none, 0, by rw [h.2]⟩
      · exact ⟨_, _, hv⟩
    obtain ⟨a', c', rfl⟩ := hv
    refine ⟨a', c', w', by rw [List.length_append]; exact hr, ?_, Ch.of_grown hg⟩
    unfold Own
    rw [List.length_append, E.flat_append]
    exact hown
  | nil =>
    have hcs : xs.length ≤ c := by
      obtain ⟨_, h | ⟨g, cap, cur, hv, _, _, hle, _⟩⟩ := h
      · rw [h.2]; exact Nat.zero_le _
      · simp only [Value.slice.injEq] at hv; rw [hv.2.2]; exact hle
    refine ⟨a, c, w, ?_, by simpa using h, (Ch.refl [] w).mono (by simp)⟩
    cases a2 with
    | none => cases a <;> simp [Builtin.append_, run_underlying ht, sizeOf, typeInfo, hi, Builtin.lenOf, Builtin.firstCells, hcs, storeCells]
    | some ad => cases a <;> simp [Builtin.append_, run_underlying ht, sizeOf, typeInfo, hi, Builtin.lenOf, Builtin.firstCells, loadCells, loadCellsFrom, hcs, storeCells]

theorem splice_one {cs : List Value} {o : Nat} {v : Value} (ho : o < cs.length) : splice cs o [v] = cs.set o v := by
  unfold splice; rw [List.set_eq_take_append_cons_drop]; simp [ho]
theorem SlR.lt {α : Type} {E : Enc α} {w : World} {a : Option Addr} {xs : List α} (h : SlR E w a xs) : xs = [] ∨ pb a < w.heap.size := by
  cases xs with
  | nil => exact .inl rfl
  | cons x r =>
    right
    obtain ⟨b, o, rfl, hc⟩ := h 0 x rfl
    have hl : 0 < (E.f x).length := by rw [E.len]; exact E.pos
    have := hc 0 (E.f x)[0] (by simp [hl])
    rcases Nat.lt_or_ge b w.heap.size with h | h
    · exact h
    · simp [World.cell?, Array.getElem?_eq_none h] at this
theorem Own.row_of {α : Type} {E : Enc α} {t : TypeId} {base : Nat} {w : World} {a : Option Addr} {c : Nat} {xs : List α} (h : Own E t base w a c xs) (hne : xs ≠ []) :
    ∃ g cur, a = some ⟨g, 0, none⟩ ∧ base ≤ g ∧ Row w g t cur ∧ ∀ (i : Nat) (x : α) (j : Nat) (v : Value), xs[i]? = some x → (E.f x)[j]? = some v → cur[i * E.k + j]? = some v := by
  have hs := h.slr
  obtain ⟨_, h | ⟨g, cap, cur, hv, hb, hg, _⟩⟩ := h
  · exact absurd (List.eq_nil_of_length_eq_zero h.2) hne
  · simp only [Value.slice.injEq] at hv
    obtain ⟨rfl, _, _⟩ := hv
    have hr : Row w g t cur.toList := by simpa [Row] using hg
    refine ⟨g, cur.toList, rfl, hb, hr, fun i x j v hx hv => ?_⟩
    obtain ⟨b, o, he, hc⟩ := hs i x hx
    simp only [Option.some.injEq, Addr.mk.injEq, and_true] at he
    obtain ⟨rfl, rfl⟩ := he
    have := hc j v hv
    rw [hr.at, Nat.zero_add] at this
    exact this

/-- The elements from l on. -/
theorem SlR.cut {α : Type} {E : Enc α} {w : World} {a : Option Addr} {xs : List α} {l c : Nat} (h : SlR E w a xs) (hc : xs.length ≤ c) : SlR E w (cutBase a l c E.k) (xs.drop l) := by
  intro i x hx
  rw [List.getElem?_drop] at hx
  have hlt := (List.getElem?_eq_some_iff.1 hx).1
  obtain ⟨b, o, rfl, hcell⟩ := h _ x hx
  refine ⟨b, o + l * E.k, ?_, fun j v hv => ?_⟩
  · unfold cutBase; rw [if_neg (by omega)]; simp [addr_add]
  · have := hcell j v hv
    rw [Nat.add_mul] at this
    rw [show o + l * E.k + i * E.k + j = o + (l * E.k + i * E.k) + j by omega]; exact this
theorem SlR.take {α : Type} {E : Enc α} {w : World} {a : Option Addr} {xs : List α} {n : Nat} (h : SlR E w a xs) : SlR E w a (xs.take n) := by
  intro i x hx
  rw [List.getElem?_take] at hx
  split at hx
  · exact h i x hx
  · cases hx
theorem Own.cap {α : Type} {E : Enc α} {t : TypeId} {base : Nat} {w : World} {a : Option Addr} {c : Nat} {xs : List α} (h : Own E t base w a c xs) : xs.length ≤ c := by
  obtain ⟨_, h | ⟨g, cap, cur, hv, _, _, hle, _⟩⟩ := h
  · rw [h.2]; exact Nat.zero_le _
  · simp only [Value.slice.injEq] at hv; rw [hv.2.2]; exact hle
/-- As run_append, with what may have changed told from an earlier world. -/
theorem append_new {α : Type} {P : Program} {t e ty : TypeId} {E : Enc α} {bytes : Nat} (hT : ElT P t e E bytes) {w0 w : World} {base : Nat} {a : Option Addr} {c : Nat} {xs : List α} {D : List Nat} (h0 : Ch D w0 w) (h : Own E e base w a c xs)
    {a2 : Option Addr} {c2 : Nat} {ys : List α} (hy : SlR E w a2 ys) (hn : xs.length + ys.length ≤ maxLen) (hb : (xs.length + ys.length) * bytes ≤ 140737488355328) (hbase : base ≤ w.heap.size) (hb0 : w0.heap.size ≤ base) :
    ∃ a' c' w', (Builtin.append_ #[t, t] ty #[.slice a xs.length c, .slice a2 ys.length c2]).run P w = .ok (.slice a' (xs ++ ys).length c') w' ∧ Own E e base w' a' c' (xs ++ ys) ∧ Ch D w0 w' ∧ Ch (a.map (·.block)).toList w w' := by
  obtain ⟨a', c', w', hr, ho, hc⟩ := run_append (ty := ty) hT h hy hn hb hbase
  have hc' : Ch (a.map (·.block)).toList w w' := by
    have : Value.ownBlock (.slice a xs.length c) = a.map (·.block) := by cases a <;> rfl
    rw [← this]; exact hc
  refine ⟨a', c', w', hr, ho, h0.trans hc' ?_, hc'⟩
  intro y hy
  right
  rcases h.base with rfl | hb
  · simp at hy
  · cases a with
    | none => simp at hy
    | some ad => simp at hy; subst hy; simp [pb] at hb; omega

/-! ### Calls -/
theorem Calls.ret {P : Program} {f : FuncId} {args : Array Value} {w : World} {R : Value → World → Prop} {K : Ending → World → Prop} (h : Calls P f args w (Ret R)) (hk : ∀ v w', R v w' → K (.returned v) w') : Calls P f args w K :=
  h.mono fun e w' ⟨v, he, hr⟩ => by subst he; exact hk v w' hr
theorem callV_run {P : Program} {f : FuncId} {fn : Func} {cap args : Array Value} {w : World} (hf : P.funcs[f]? = some fn) (hn : (fn.name == "runtime.NumGoroutine") = false) (hb : fn.body.isNone = false) :
    (callV (.func (.func f) #[] cap) args).run P w = .ok (.enter f (args ++ cap)) w := by
  simp only [callV, Deferred.ofValue, Sem.run_bind, Sem.run_pure, Result.andThen, invoke, callFunc, run_program, hf, hn, hb]
  simp
end Go.Vc
namespace Go.Proofs.YtllpiaedljoejaaGreatDoor
open Go.Vc
theorem mixed : Tryz.prog.follows .mixedOrders = true := by kernel_rfl
end Go.Proofs.YtllpiaedljoejaaGreatDoor
