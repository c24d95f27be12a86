/- Two structs held against each other, field by field. Conditions: none. -/
import Derived.Test.YtmihgfhpmnomoaaDoorVcMem
import Derived.Laws.StructEq
namespace Go.Vc
set_option linter.unusedSimpArgs false
set_option linter.unusedVariables false

/-- Two plain values of one kind held against each other. -/
def cellEq : Value → Value → Option Bool
  | .int k a, .int k' b => if k = k' then some (a == b) else none
  | .bool a, .bool b => some (a == b)
  | .string a, .string b => some (a == b)
  | _, _ => none

def plainT (P : Program) (t : TypeId) : Bool :=
  match P.underlying t with
  | some (.int _) | some .bool | some .string => true
  | _ => false

theorem equalIn_plain {P : Program} {t : TypeId} {x y : Value} {b : Bool} {d : Nat} {w : World} (ht : plainT P t = true) (h : cellEq x y = some b)
    (hk : match P.underlying t, x with | some (.int _), .int _ _ => True | some .bool, .bool _ => True | some .string, .string _ => True | _, _ => False) :
    (Op.equalIn (d + 1) t x y).run P w = .ok b w := by
  unfold plainT at ht
  cases hu : P.underlying t with
  | none => simp [hu] at ht
  | some dd =>
    rw [hu] at hk
    cases x <;> cases y <;> simp only [cellEq] at h <;> cases dd <;> simp only at hk <;> simp_all [Op.equalIn, underlying]

/-- The fields of a struct whose fields are all plain: a list of their types, in the cells' order. -/
def plainFs (P : Program) : List Field → Nat → Bool
  | [], _ => true
  | f :: r, i => f.name != "_" && f.offset == i && plainT P f.type && plainFs P r (i + 1)

def kindOk (P : Program) (t : TypeId) (x : Value) : Bool :=
  match P.underlying t, x with
  | some (.int _), .int _ _ => true
  | some .bool, .bool _ => true
  | some .string, .string _ => true
  | _, _ => false
def kindsOk (P : Program) : List Field → List Value → Bool
  | [], _ => true
  | f :: r, x :: xs => kindOk P f.type x && kindsOk P r xs
  | _ :: _, [] => false

def allEq : List Value → List Value → Option Bool
  | [], [] => some true
  | x :: xs, y :: ys => match cellEq x y, allEq xs ys with | some a, some b => some (a && b) | _, _ => none
  | _, _ => none

theorem eqFields_plain {P : Program} {d : Nat} {w : World} : ∀ (fs : List Field) (i : Nat) (xs ys : Array Value) (b : Bool), plainFs P fs i = true → kindsOk P fs (xs.toList.drop i) = true → fs.length = (xs.toList.drop i).length →
    allEq (xs.toList.drop i) (ys.toList.drop i) = some b → (Op.eqFields (d + 1) xs ys fs).run P w = .ok b w
  | [], i, xs, ys, b, _, _, hl, h => by
    have hx : xs.toList.drop i = [] := List.eq_nil_of_length_eq_zero (by simpa using hl.symm)
    rw [hx] at h
    cases hy : ys.toList.drop i with
    | nil => rw [hy] at h; simp [allEq] at h; simp [Op.eqFields, h]
    | cons y r => rw [hy] at h; simp [allEq] at h
  | f :: fs, i, xs, ys, b, hp, hk, hl, h => by
    simp only [plainFs, Bool.and_eq_true, beq_iff_eq, bne_iff_ne] at hp
    obtain ⟨⟨⟨hn, ho⟩, ht⟩, hp⟩ := hp
    cases hx : xs.toList.drop i with
    | nil => rw [hx] at hl; simp at hl
    | cons x rx =>
    cases hy : ys.toList.drop i with
    | nil => rw [hx, hy] at h; simp [allEq] at h
    | cons y ry =>
    rw [hx, hy] at h
    rw [hx] at hk
    simp only [kindsOk, Bool.and_eq_true] at hk
    simp only [allEq] at h
    split at h
    case h_2 => cases h
    rename_i a b' ha hb
    simp only [Option.some.injEq] at h
    have x0 : xs[i]? = some x := by
      have : (xs.toList.drop i)[0]? = some x := by rw [hx]; rfl
      simpa using this
    have y0 : ys[i]? = some y := by
      have : (ys.toList.drop i)[0]? = some y := by rw [hy]; rfl
      simpa using this
    have hrx : rx = xs.toList.drop (i + 1) := by rw [← List.drop_drop, hx]; rfl
    have hry : ry = ys.toList.drop (i + 1) := by rw [← List.drop_drop, hy]; rfl
    have nagg : (isAgg f.type).run P w = .ok false w := by
      unfold plainT at ht
      unfold isAgg
      cases hu : P.underlying f.type with
      | none => simp [hu] at ht
      | some dd => cases dd <;> simp_all [underlying]
    have px : (part f.type xs f.offset).run P w = .ok x w := by
      subst ho; simp only [part, Sem.run_bind, nagg, Result.andThen]; simp [x0]
    have py : (part f.type ys f.offset).run P w = .ok y w := by
      subst ho; simp only [part, Sem.run_bind, nagg, Result.andThen]; simp [y0]
    have he : (Op.equalIn (d + 1) f.type x y).run P w = .ok a w := equalIn_plain ht ha (by
      have := hk.1
      unfold kindOk at this
      split at this <;> simp_all)
    have ih := eqFields_plain (P := P) (d := d) (w := w) fs (i + 1) xs ys b' hp (by rw [← hrx]; exact hk.2) (by rw [← hrx]; rw [hx] at hl; simpa using hl) (by rw [← hrx, ← hry]; exact hb)
    unfold Op.eqFields
    simp only [hn, ne_eq, not_false_eq_true, if_true, Sem.run_bind, px, py, he, Result.andThen, Sem.run_ite, Sem.run_pure, ih]
    cases a <;> simp_all

/-- '==' and '!=' at a struct whose fields are all plain. -/
def plainStruct (P : Program) (t : TypeId) : Bool :=
  match P.underlying t with
  | some (.struct fs) => plainFs P fs.toList 0 && !P.stoodInHeld t && !P.eqGuardType P.depth t
  | _ => false
def kindsAt (P : Program) (t : TypeId) (xs : List Value) : Bool :=
  match P.underlying t with
  | some (.struct fs) => kindsOk P fs.toList xs && fs.toList.length == xs.length
  | _ => false

theorem eq_struct {P : Program} {t : TypeId} {xs ys : Array Value} {b : Bool} {x y : Operand} (w : World) (hp : plainStruct P t = true) (hk : kindsAt P t xs.toList = true) (h : allEq xs.toList ys.toList = some b) :
    (eqRun .eql t x y (.agg xs) (.agg ys)).run P w = .ok (.bool b) w ∧ (eqRun .neq t x y (.agg xs) (.agg ys)).run P w = .ok (.bool (!b)) w := by
  unfold plainStruct at hp
  unfold kindsAt at hk
  cases hu : P.underlying t with
  | none => simp [hu] at hp
  | some dd =>
    cases dd <;> simp only [hu] at hp hk <;> first | (exact absurd hp (by decide)) | skip
    rename_i fs
    simp only [Bool.and_eq_true, Bool.not_eq_true', beq_iff_eq] at hp hk
    obtain ⟨⟨hpf, hst⟩, hg⟩ := hp
    have hf : P.fieldsOf t = fs := by simp [Program.fieldsOf, hu]
    have he := run_equalIn_struct (P := P) w 9999 t xs ys (by rw [hf]; exact hu) hst
    rw [hf, eqFields_plain (P := P) (d := 9998) (w := w) fs.toList 0 xs ys b hpf (by simpa using hk.1) (by simpa using hk.2) (by simpa using h)] at he
    have he2 : (Op.equal t (.agg xs) (.agg ys)).run P w = .ok b w := he
    constructor <;> simp [eqRun, eqGuard, hg, binOp, he2]
end Go.Vc
