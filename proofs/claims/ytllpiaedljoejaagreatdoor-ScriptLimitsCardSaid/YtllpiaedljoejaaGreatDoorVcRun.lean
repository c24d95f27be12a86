/- The engine over a region: its operations in the order of the text, or, where the order is drawn, in an order that stands for all. Conditions: none. -/
import Derived.Test.YtllpiaedljoejaaGreatDoorVcEff
namespace Go.Vc
set_option linter.unusedSimpArgs false
set_option linter.unusedVariables false

/-- An operation under its guard. -/
def withGuard (ops : List Oper) (o : Oper) (l : Fr) (run skip : Fr → Prop) : Prop :=
  match o.guard with
  | none => run l
  | some (j, want) =>
    match (ops[j]?).bind (·.dst) with
    | some d =>
      match l.getD d undef with
      | .bool b => br b (cond want run skip (l.set d (.bool true))) (cond want skip run (l.set d (.bool false)))
      | _ => skip l
    | none => skip l

def stepVC (P : Program) (lo : List Oper) (o : Oper) (l : Fr) (w : World) (K : Value → World → Prop) : Prop :=
  match stillO P o with
  | true => stillVC P lo (fun a u => w.cell? a = some u) (fun s u => s.run P w = .ok u w) o l (fun v => K v w)
  | false => effVC P o l w K

/-- In the order of the text. -/
def runSeq (P : Program) (ops : List Oper) : List Oper → Fr → World → (Fr → World → Prop) → Prop
  | [], l, w, K => K l w
  | o :: r, l, w, K => withGuard ops o l (fun l => stepVC P ops o l w (fun v w' => runSeq P ops r (put l o.dst v) w' K)) (fun l => runSeq P ops r (put l o.dst undef) w K)

inductive Sched where
  | done
  | still (i : Nat) (fl : Bool) (u : Nat) (nx : Sched)
  | eff (i : Nat) (nx : Sched)
  | alt (i : Nat) (nx : Sched) (more : Sched)

/-- What holds of every world in the region, if anything is asked; and the late operations, behind which nothing is asked. -/
abbrev Sp := Option (Nat × (World → Prop))
def sA (S : Sp) (w : World) (X : Prop) : Prop :=
  match S with
  | some (_, S) => S w ∧ X
  | none => X
def sP (S : Sp) (w : World) : Prop :=
  match S with
  | some (_, S) => S w
  | none => True
def cut (S : Sp) (i : Nat) : Sp :=
  match S with
  | some (T, S) => cond (T.testBit i) none (some (T, S))
  | none => none
theorem sP_cut {S : Sp} {i : Nat} {w : World} (h : sP S w) : sP (cut S i) w := by
  cases S with
  | none => trivial
  | some a => unfold cut; cases hb : a.1.testBit i <;> simp [hb, sP] at h ⊢; exact h
/-- Nothing but the operations of T is late. -/
def Late (T : Nat) (S : Sp) : Prop := ∀ j, T.testBit j = false → cut S j = S
theorem Late.cut {T : Nat} {S : Sp} (h : Late T S) (i : Nat) : Late T (cut S i) := by
  cases S with
  | none => exact h
  | some a =>
    intro j hj
    have := h j hj
    unfold Go.Vc.cut at this ⊢
    cases hb : a.1.testBit i <;> simp [hb]
    cases hc : a.1.testBit j <;> simp [hc] at this ⊢
theorem Late.none (T : Nat) : Late T none := fun _ _ => rfl
theorem Late.some (T : Nat) (S : World → Prop) : Late T (some (T, S)) := fun j hj => by simp [Go.Vc.cut, hj]
theorem sA_iff {S : Sp} {w : World} {X : Prop} : sA S w X ↔ sP S w ∧ X := by cases S <;> simp [sA, sP]

def rdOf (S : Sp) (w : World) (fl : Bool) (a : Addr) (v : Value) : Prop :=
  match fl with
  | false => w.cell? a = some v
  | true => ∀ w', sP S w' → w'.cell? a = some v
def rnOf (P : Program) (S : Sp) (w : World) (fl : Bool) (s : Sem Value) (v : Value) : Prop :=
  match fl with
  | false => s.run P w = .ok v w
  | true => ∀ w', sP S w' → s.run P w' = .ok v w'

def runS (P : Program) (ops : List Oper) (S : Sp) : Sched → Fr → World → (Fr → World → Prop) → Prop
  | .done, l, w, K => K l w
  | .still i fl u nx, l, w, K =>
    match ops[i]? with
    | some o => withGuard ops o l (fun l => stillVC P ops (rdOf S w fl) (rnOf P S w fl) o l (fun v => runS P ops S nx (put l o.dst v) w K)) (fun l => runS P ops S nx (put l o.dst undef) w K)
    | none => False
  | .eff i nx, l, w, K =>
    match ops[i]? with
    | some o => withGuard ops o l (fun l => stepVC P ops o l w (fun v w' => sA (cut S i) w' (runS P ops (cut S i) nx (put l o.dst v) w' K))) (fun l => runS P ops (cut S i) nx (put l o.dst undef) w K)
    | none => False
  | .alt i nx more, l, w, K =>
    (match ops[i]? with
     | some o => withGuard ops o l (fun l => stepVC P ops o l w (fun v w' => sA (cut S i) w' (runS P ops (cut S i) nx (put l o.dst v) w' K))) (fun l => runS P ops (cut S i) nx (put l o.dst undef) w K)
     | none => False) ∧ runS P ops S more l w K

/-! ### The check of a schedule: closed -/
def depMask (o : Oper) : Nat := o.after.foldl (fun m e => if Region.binds .any e then m ||| 2 ^ e.on else m) 0
def readyM (ops : List Oper) (L : Nat) (i : Nat) : Bool :=
  match ops[i]? with
  | some o => !L.testBit i && o.after.all fun e => !Region.binds .any e || (Nat.blt e.on ops.length && L.testBit e.on)
  | none => false
def readyL (ops : List Oper) (L : Nat) : List Nat := (List.range ops.length).filter (readyM ops L)
def waitsOn (o : Oper) (i : Nat) : Bool := o.after.any fun e => Region.binds .any e && e.on == i
def freeM (ops : List Oper) (L : Nat) (i : Nat) : Bool :=
  match ops[i]? with
  | some oi => (List.range ops.length).all fun j =>
      j == i || L.testBit j || (match ops[j]? with
        | some oj => waitsOn oj i || oi.apart ops.toArray oj
        | none => true)
  | none => false
def okU (P : Program) (ops : List Oper) (T L U : Nat) (fl : Bool) (i : Nat) : Bool :=
  (!U.testBit i) && (!T.testBit i) && (List.range ops.length).all fun j =>
    (!L.testBit j || U.testBit j) &&
    (!U.testBit j || L.testBit j || (!T.testBit j && (fl || (match ops[j]? with | some oj => stillO P oj | none => true)))) &&
    (!readyM ops U j || j == i)
def stillAt (P : Program) (ops : List Oper) (i : Nat) : Bool :=
  match ops[i]? with
  | some o => stillO P o
  | none => false
def okS (P : Program) (ops : List Oper) (T : Nat) : Nat → Sched → Nat → Option (List Nat) → Bool
  | _, .done, L, none => (readyL ops L).isEmpty
  | f + 1, .still i fl u nx, L, none =>
    readyM ops L i && stillAt P ops i && freeM ops L i && okU P ops T L u fl i && okS P ops T f nx (L ||| 2 ^ i) none
  | f + 1, .eff i nx, L, t => (t.getD (readyL ops L)) == [i] && okS P ops T f nx (L ||| 2 ^ i) none
  | f + 1, .alt i nx more, L, t =>
    match t.getD (readyL ops L) with
    | j :: rest => j == i && okS P ops T f nx (L ||| 2 ^ i) none && okS P ops T (f + 1) more L (some rest)
    | [] => false
  | _, _, _, _ => false

/-! ### The order of the text -/
section
variable {P : Program} {ops : Array Oper} {Q : Exit → Act → World → Prop}

theorem step_sound {lo : List Oper} {o : Oper} {l : Fr} {w : World} {K : Value → World → Prop} (h : stepVC P lo o l w K) :
    (stillO P o = true ∧ ∃ v, (execOp (ev l) o).run P w = .ok (.value v) w ∧ K v w) ∨ (stillO P o = false ∧ doneOp P o l w K) := by
  unfold stepVC at h
  split at h
  · rename_i hs
    obtain ⟨v, hv, hk⟩ := still_sound h
    exact .inl ⟨hs, v, hv w ⟨fun _ _ h => h, fun _ _ h => h⟩, hk⟩
  · rename_i hs
    exact .inr ⟨hs, eff_sound h⟩

theorem step_done {lo : List Oper} {o : Oper} {l : Fr} {w : World} {K : Value → World → Prop} (h : stepVC P lo o l w K) : doneOp P o l w K := by
  rcases step_sound h with ⟨_, v, hr, hk⟩ | ⟨_, h⟩
  · unfold doneOp; rw [hr]; exact hk
  · exact h

theorem wp_of_done {o : Oper} {l : Fr} {w : World} {K : Value → World → Prop} {next : Act → World → Prop} (h : doneOp P o l w K)
    (hk : ∀ v w', K v w' → next (act (put l o.dst v)) w') : o.wp P (act l) w next Q := by
  unfold Oper.wp
  rw [ev_eq]
  unfold doneOp Done at h
  split at h
  · rename_i v w' hr; rw [hr]; simp only [Oper.upon]; rw [put_eq]; exact hk _ _ h
  · rename_i w' hr; rw [hr]; simp only [Oper.upon]; rw [put_eq]; exact hk _ _ h
  · rename_i f args w' hr; rw [hr]; simp only [Oper.upon]
    exact h.mono fun e w'' ⟨v, he, hv⟩ => by subst he; simp only; rw [put_eq]; exact hk _ _ hv
  · exact h.elim

theorem set_self {l : Fr} {d : Nat} {v : Value} (h : l.getD d undef = v) (hv : v ≠ undef) : l.set d v = l := by
  by_cases hd : d < l.length
  · subst h
    apply List.ext_getElem?
    intro i
    by_cases hi : d = i
    · subst hi; simp [hd, List.getElem?_set]
    · simp [List.getElem?_set, hi]
  · simp [List.getD, List.getElem?_eq_none (Nat.le_of_not_lt hd)] at h
    exact (hv h.symm).elim

/-- What the guard comes to. -/
theorem guard_sound {lo : List Oper} {o : Oper} {l : Fr} {run skip : Fr → Prop} (h : withGuard lo o l run skip) :
    (Region.wanted o (yielded lo.toArray (act l).tmps) = true ∧ run l) ∨ (Region.wanted o (yielded lo.toArray (act l).tmps) = false ∧ skip l) := by
  unfold withGuard at h
  split at h
  · rename_i hg
    exact .inl ⟨by simp [Region.wanted, hg], h⟩
  · rename_i j want hg
    split at h
    · rename_i d hd
      split at h
      · rename_i b hb
        have hne : ∀ c : Bool, Value.bool c ≠ undef := fun c e => by simp [undef] at e
        have hy : yielded lo.toArray (act l).tmps j = some b := by
          have hget : l[d]? = some (.bool b) := by
            cases hl : l[d]? with
            | none => simp [List.getD, hl] at hb; exact (hne b hb.symm).elim
            | some x => simp [List.getD, hl] at hb; rw [hb]
          unfold yielded
          have : (lo.toArray[j]?).bind (·.dst) = some d := by simpa using hd
          rw [this]
          simp [act, hget]
        have hset := set_self hb (hne b)
        cases b with
        | true =>
          simp only [br_true] at h
          rw [hset] at h
          cases want with
          | true => exact .inl ⟨by simp [Region.wanted, hg, hy], h⟩
          | false => exact .inr ⟨by simp [Region.wanted, hg, hy], h⟩
        | false =>
          simp only [br_false] at h
          rw [hset] at h
          cases want with
          | true => exact .inr ⟨by simp [Region.wanted, hg, hy], h⟩
          | false => exact .inl ⟨by simp [Region.wanted, hg, hy], h⟩
      · rename_i hb
        refine .inr ⟨?_, h⟩
        have hy : yielded lo.toArray (act l).tmps j = none := by
          unfold yielded
          have : (lo.toArray[j]?).bind (·.dst) = some d := by simpa using hd
          rw [this]
          cases hl : l[d]? with
          | none => simp [act, hl]
          | some x =>
            have : l.getD d undef = x := by simp [List.getD, hl]
            rw [this] at hb
            simp only [act, Option.bind_some, List.getElem?_toArray, hl]
            cases x <;> first | rfl | exact (hb _ rfl).elim
        simp [Region.wanted, hg, hy]
    · rename_i hd
      refine .inr ⟨?_, h⟩
      have hy : yielded lo.toArray (act l).tmps j = none := by
        unfold yielded
        have : (lo.toArray[j]?).bind (·.dst) = none := by simpa using hd
        rw [this]; rfl
      simp [Region.wanted, hg, hy]

theorem runSeq_sound {lo : List Oper} {K : Fr → World → Prop} (hK : ∀ l w, K l w → Q .normal (act l) w) :
    ∀ (r : List Oper) (l : Fr) (w : World), runSeq P lo r l w K → wpList P lo.toArray Q r (act l) w
  | [], l, w, h => hK _ _ h
  | o :: r, l, w, h => by
    simp only [runSeq] at h
    unfold wpList
    rcases guard_sound h with ⟨hw, h⟩ | ⟨hw, h⟩
    · rw [if_pos hw]
      exact .inl (wp_of_done (step_done h) fun v w' hk => runSeq_sound hK r _ _ hk)
    · rw [if_neg (by simp [hw]), put_eq]
      exact runSeq_sound hK r _ _ h
end
end Go.Vc
