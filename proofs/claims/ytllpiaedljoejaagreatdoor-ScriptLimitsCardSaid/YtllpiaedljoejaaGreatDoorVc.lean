/- The engine: for a Go function's code a weakest precondition as a plain formula, and that it is one. Conditions: none. -/
import Derived.Orders
import Derived.Tactics
import Derived.Laws.World
import Derived.Laws.Cells
import Derived.Laws.IdiomCopy
import Derived.KernelRfl
namespace Go.Vc

abbrev Fr := List Value

def ev (l : Fr) : Operand → Value
  | .tmp t => l.getD t undef
  | .const v => v
  | .global g => .pointer (some ⟨g, 0, none⟩)
  | .func f => .func (.func f) #[] #[]

def put (l : Fr) (d : Option Tmp) (v : Value) : Fr :=
  match d with
  | some d => l.set d v
  | none => l

def act (l : Fr) : Act := ⟨l.toArray, []⟩

theorem ev_eq (l : Fr) : (act l).eval = ev l := by
  funext x; cases x <;> simp [Act.eval, act, ev]

theorem put_eq (l : Fr) (d : Option Tmp) (v : Value) : (act l).put d v = act (put l d v) := by
  cases d <;> simp [Act.put, act, put]

/-- What a computation that touches no memory comes to. -/
def pureVal (P : Program) {α : Type} : Sem α → Option α
  | .pure a => some a
  | .program k => pureVal P (k P)
  | .mark _ k => pureVal P k
  | _ => none

theorem pureVal_run {P : Program} {α : Type} {s : Sem α} {a : α} (h : pureVal P s = some a) (w : World) : s.run P w = .ok a w := by
  induction s with
  | pure b => simp [pureVal] at h; simp [Sem.run, h]
  | program k ih => simp only [pureVal] at h; simp only [Sem.run]; exact ih P h
  | mark m k ih => simp only [pureVal] at h; simp only [Sem.run]; exact ih h
  | _ => simp [pureVal] at h

def pb : Option Addr → Nat
  | some a => a.block
  | none => 0
def po : Option Addr → Nat
  | some a => a.off
  | none => 0
def okP (p : Option Addr) (X : Prop) : Prop :=
  match p with
  | some ⟨_, _, none⟩ => X
  | _ => False
theorem okP_iff {p : Option Addr} {X : Prop} : okP p X ↔ p = some ⟨pb p, po p, none⟩ ∧ X := by
  unfold okP
  split
  · simp [pb, po]
  · rename_i h
    constructor
    · intro f; exact f.elim
    · rintro ⟨e, _⟩; exact (h _ _ e).elim
@[simp] theorem okP_some (b o : Nat) (X : Prop) : okP (some ⟨b, o, none⟩) X = X := rfl
@[simp] theorem pb_some (a : Addr) : pb (some a) = a.block := rfl
@[simp] theorem po_some (a : Addr) : po (some a) = a.off := rfl

/-- Two ways. -/
def br (b : Bool) (X Y : Prop) : Prop :=
  match b with
  | true => X
  | false => Y
/-- A test that must hold. -/
def gd (b : Bool) (X : Prop) : Prop :=
  match b with
  | true => X
  | false => False
theorem br_intro {b : Bool} {X Y : Prop} (h1 : b = true → X) (h2 : b = false → Y) : br b X Y := by cases b <;> simp_all [br]
theorem br_dec {p : Prop} [Decidable p] {X Y : Prop} (h1 : p → X) (h2 : ¬ p → Y) : br (decide p) X Y :=
  br_intro (fun h => h1 (by simpa using h)) (fun h => h2 (by simpa using h))
@[simp] theorem br_true (X Y : Prop) : br true X Y = X := rfl
@[simp] theorem br_false (X Y : Prop) : br false X Y = Y := rfl
@[simp] theorem gd_true (X : Prop) : gd true X = X := rfl
theorem gd_iff {b : Bool} {X : Prop} : gd b X ↔ b = true ∧ X := by cases b <;> simp [gd]

/-! ### Shapes of values -/
inductive Sh where
  | bool | int (k : IntKind) | str | ptr | slice | map | any
inductive TSh where
  | one (s : Sh) | agg (l : List Sh)
inductive RSh where
  | one (s : TSh) | tup (l : List TSh)

def exSh : Sh → (Value → Prop) → Prop
  | .bool, K => ∃ b : Bool, K (.bool b)
  | .int k, K => ∃ n : Int, K (.int k n)
  | .str, K => ∃ s : ByteArray, K (.string s)
  | .ptr, K => ∃ p : Option Addr, K (.pointer p)
  | .slice, K => ∃ (a : Option Addr) (n c : Nat), K (.slice a n c)
  | .map, K => ∃ r : Option Nat, K (.map r)
  | .any, K => ∃ v : Value, K v
def exShs : List Sh → (List Value → Prop) → Prop
  | [], K => K []
  | s :: r, K => exSh s (fun v => exShs r (fun vs => K (v :: vs)))
def exT : TSh → (Value → Prop) → Prop
  | .one s, K => exSh s K
  | .agg l, K => exShs l (fun vs => K (.agg vs.toArray))
def exTs : List TSh → (List Value → Prop) → Prop
  | [], K => K []
  | s :: r, K => exT s (fun v => exTs r (fun vs => K (v :: vs)))
def exR : RSh → (Value → Prop) → Prop
  | .one s, K => exT s K
  | .tup l, K => exTs l (fun vs => K (.tuple vs.toArray))

theorem exSh_ex {s : Sh} {K : Value → Prop} (h : exSh s K) : ∃ v, K v := by
  cases s <;> simp only [exSh] at h
  case slice => obtain ⟨a, n, c, h⟩ := h; exact ⟨_, h⟩
  all_goals (obtain ⟨x, h⟩ := h; exact ⟨_, h⟩)
theorem exShs_ex {l : List Sh} {K : List Value → Prop} (h : exShs l K) : ∃ v, K v := by
  induction l generalizing K with
  | nil => exact ⟨_, h⟩
  | cons s r ih => obtain ⟨v, h⟩ := exSh_ex h; obtain ⟨vs, h⟩ := ih h; exact ⟨_, h⟩
theorem exT_ex {s : TSh} {K : Value → Prop} (h : exT s K) : ∃ v, K v := by
  cases s with
  | one s => exact exSh_ex h
  | agg l => obtain ⟨vs, h⟩ := exShs_ex h; exact ⟨_, h⟩
theorem exTs_ex {l : List TSh} {K : List Value → Prop} (h : exTs l K) : ∃ v, K v := by
  induction l generalizing K with
  | nil => exact ⟨_, h⟩
  | cons s r ih => obtain ⟨v, h⟩ := exT_ex h; obtain ⟨vs, h⟩ := ih h; exact ⟨_, h⟩
theorem exR_ex {s : RSh} {K : Value → Prop} (h : exR s K) : ∃ v, K v := by
  cases s with
  | one s => exact exT_ex h
  | tup l => obtain ⟨vs, h⟩ := exTs_ex h; exact ⟨_, h⟩

def shD : TypeDesc → Sh
  | .bool => .bool
  | .int k => .int k
  | .string => .str
  | .pointer _ => .ptr
  | .slice _ => .slice
  | .map _ _ => .map
  | _ => .any
def cellShs (P : Program) : Nat → TypeId → List Sh
  | 0, _ => []
  | n + 1, t =>
    match P.underlying t with
    | some (.struct fs) => fs.toList.flatMap fun f => cellShs P n f.type
    | some (.array k e) => (List.replicate k (cellShs P n e)).flatten
    | some d => [shD d]
    | none => []
def tsh (P : Program) (t : TypeId) : TSh :=
  match P.underlying t with
  | some (.struct _) | some (.array _ _) => .agg (cellShs P 12 t)
  | some d => .one (shD d)
  | none => .one .any
def rsh (P : Program) (t : TypeId) : RSh :=
  match P.underlying t with
  | some (.tuple es) => .tup (es.toList.map (tsh P))
  | _ => .one (tsh P t)

/-! ### Operations that leave the world alone -/
def ldCells (rd : Addr → Value → Prop) (b o : Nat) : List Sh → Nat → (List Value → Prop) → Prop
  | [], _, K => K []
  | s :: r, i, K => exSh s (fun v => rd ⟨b, o + i, none⟩ v ∧ ldCells rd b o r (i + 1) (fun vs => K (v :: vs)))

def loadVC (P : Program) (rd : Addr → Value → Prop) (t : TypeId) (addr : Value) (K : Value → Prop) : Prop :=
  match addr with
  | .pointer p => okP p
      (match P.underlying t with
       | some (.struct _) | some (.array _ _) =>
         gd ((P.info? t).map (·.size) == some (cellShs P 12 t).length) (ldCells rd (pb p) (po p) (cellShs P 12 t) 0 (fun vs => K (.agg vs.toArray)))
       | some d => exSh (shD d) (fun v => rd ⟨pb p, po p, none⟩ v ∧ K v)
       | none => False)
  | _ => False

def indexVC (P : Program) (t : TypeId) (x ix : Value) (K : Value → Prop) : Prop :=
  match ix with
  | .int _ i =>
    match P.underlying t, x with
    | some (.array n e), .pointer p => gd (P.info? e).isSome (0 ≤ i ∧ i < (n : Int) ∧ okP p (K (.pointer (some ⟨pb p, po p + i.toNat * P.cellsOf e, none⟩))))
    | some (.slice e), .slice a n _ => gd (P.info? e).isSome (0 ≤ i ∧ i < (n : Int) ∧ okP a (K (.pointer (some ⟨pb a, po a + i.toNat * P.cellsOf e, none⟩))))
    | _, _ => False
  | _ => False

/-- The base of x[l:]: where nothing is left of the capacity it stays. -/
def cutBase (a : Option Addr) (l m size : Nat) : Option Addr := if m = l then a else a.map (·.add (l * size))

def hiOf (d : Nat) : Option Value → Option Int
  | some (.int _ i) => some i
  | none => some d
  | _ => none
def loOf : Option Value → Option Int
  | some (.int _ i) => some i
  | none => some 0
  | _ => none

def sliceVC (P : Program) (t : TypeId) (x : Value) (lo hi mx : Option Value) (K : Value → Prop) : Prop :=
  match mx with
  | some _ => False
  | none =>
    match P.underlying t, x with
    | some .string, .string s =>
      match lo, hi with
      | none, some (.int _ h) => 0 ≤ h ∧ h ≤ (s.size : Int) ∧ K (.string (s.extract 0 h.toNat))
      | some (.int _ l), none => 0 ≤ l ∧ l ≤ (s.size : Int) ∧ K (.string (s.extract l.toNat s.size))
      | some (.int _ l), some (.int _ h) => 0 ≤ h ∧ h ≤ (s.size : Int) ∧ 0 ≤ l ∧ l ≤ (h.toNat : Int) ∧ K (.string (s.extract l.toNat h.toNat))
      | _, _ => False
    | some (.slice e), .slice a n c => gd (P.info? e).isSome <|
      match lo, hi with
      | none, some (.int _ h) => 0 ≤ h ∧ h ≤ (c : Int) ∧ K (.slice (cutBase a 0 c (P.cellsOf e)) (h.toNat - 0) (c - 0))
      | some (.int _ l), none => 0 ≤ l ∧ l ≤ (n : Int) ∧ K (.slice (cutBase a l.toNat c (P.cellsOf e)) (n - l.toNat) (c - l.toNat))
      | some (.int _ l), some (.int _ h) => 0 ≤ h ∧ h ≤ (c : Int) ∧ 0 ≤ l ∧ l ≤ (h.toNat : Int) ∧ K (.slice (cutBase a l.toNat c (P.cellsOf e)) (h.toNat - l.toNat) (c - l.toNat))
      | _, _ => False
    | _, _ => False

/-- Which of two: bools and numbers stay written out. -/
def pickV (t : Bool) (a b : Value) (K : Value → Prop) : Prop :=
  match a, b with
  | .bool x, .bool y => K (.bool (match t with | true => x | false => y))
  | a, b => br t (K a) (K b)

def pureVC (P : Program) (o : Oper) (l : Fr) (K : Value → Prop) : Prop :=
  match pureVal P (execOp (ev l) o) with
  | some (.value v) => K v
  | _ => False

/-- A test of two values that is no plain one: what it comes to is to be shown. -/
def eqVC (rn : Sem Value → Value → Prop) (s : Sem Value) (K : Value → Prop) : Prop := ∃ b : Bool, rn s (.bool b) ∧ K (.bool b)

def isPtrT (P : Program) (t : TypeId) : Bool :=
  match P.underlying t with
  | some (.pointer _) => true
  | _ => false

def binVC0 (P : Program) (rn : Sem Value → Value → Prop) (o : Oper) (op : BinOp) (t : TypeId) (x y : Operand) (l : Fr) (K : Value → Prop) : Prop :=
  match op, ev l x, ev l y with
  | .quo, .int k a, .int k' b => gd (decide (k = k')) (b ≠ 0 ∧ K (.int k (k.wrap (a.tdiv b))))
  | .rem, .int k a, .int k' b => gd (decide (k = k')) (b ≠ 0 ∧ K (.int k (a.tmod b)))
  | .shl, .int k a, .int _ b => ¬ b < 0 ∧ K (.int k (k.wrap (a * 2 ^ (min b.toNat k.bits))))
  | .shr, .int k a, .int _ b => ¬ b < 0 ∧ K (.int k (a.fdiv (2 ^ (min b.toNat k.bits))))
  | .add, .string a, .string b => ((a.size + b.size : Nat) : Int) ≤ 9223372036854775807 ∧ K (.string (a ++ b))
  | .eql, .agg a, b => eqVC rn (do eqGuard .eql t x y (.agg a) b; binOp .eql t (.agg a) b) K
  | .neq, .agg a, b => eqVC rn (do eqGuard .neq t x y (.agg a) b; binOp .neq t (.agg a) b) K
  | .eql, .pointer p, .pointer none => gd (isPtrT P t) (K (.bool p.isNone))
  | .neq, .pointer p, .pointer none => gd (isPtrT P t) (K (.bool !p.isNone))
  | .eql, .int _ _, .int _ _ => pureVC P o l K
  | .neq, .int _ _, .int _ _ => pureVC P o l K
  | .eql, .bool _, .bool _ => pureVC P o l K
  | .neq, .bool _, .bool _ => pureVC P o l K
  | .eql, .string _, .string _ => pureVC P o l K
  | .neq, .string _, .string _ => pureVC P o l K
  | .eql, a, b => eqVC rn (do eqGuard .eql t x y a b; binOp .eql t a b) K
  | .neq, a, b => eqVC rn (do eqGuard .neq t x y a b; binOp .neq t a b) K
  | _, _, _ => pureVC P o l K

def isIfc (P : Program) (t : TypeId) : Bool :=
  match P.underlying t with
  | some (.interface _) => true
  | _ => false
/-- Two interface values, or two of another type. -/
def binVC (P : Program) (rn : Sem Value → Value → Prop) (o : Oper) (op : BinOp) (t : TypeId) (x y : Operand) (l : Fr) (K : Value → Prop) : Prop :=
  match isIfc P t, op with
  | true, .eql => eqVC rn (do eqGuard .eql t x y (ev l x) (ev l y); binOp .eql t (ev l x) (ev l y)) K
  | true, .neq => eqVC rn (do eqGuard .neq t x y (ev l x) (ev l y); binOp .neq t (ev l x) (ev l y)) K
  | _, _ => binVC0 P rn o op t x y l K

def nilVC (v : Value) (K : Value → Prop) : Prop :=
  match v with
  | .pointer p => okP p (K (.pointer (some ⟨pb p, po p, none⟩)))
  | .iface t x => K (.iface t x)
  | .func (.func f) a b => K (.func (.func f) a b)
  | _ => False

/-- A method of an interface value, taken as a function: its receiver is there. -/
def nilMethS (name : String) (first captured : Array Value) : Sem Value :=
  match (first[0]? : Option Value) with
  | some .nilIface => stuck "nil"
  | some (.iface t x) => do
    let b ← nilAhead ((← program).types.size + Made.depth) t x name
    if b != some false then stuck "nil"
    pure (.func (.method name) first captured)
  | _ => pure (.func (.method name) first captured)

def isStrT (P : Program) (t : TypeId) : Bool :=
  match P.underlying t with
  | some .string => true
  | _ => false

def idxVC (P : Program) (o : Oper) (t : TypeId) (x ix : Operand) (l : Fr) (K : Value → Prop) : Prop :=
  match ev l x, ev l ix with
  | .string s, .int _ i => gd (isStrT P t) <| 0 ≤ i ∧ i < (s.size : Int) ∧ K (.int .u8 ((s.data.getD i.toNat 0).toNat : Nat))
  | .agg vs, .int _ i =>
    match ix with
    | .tmp _ =>
      match P.underlying t with
      | some (.array n e) =>
        match P.underlying e with
        | some (.struct _) | some (.array _ _) => pureVC P o l K
        | some d => gd ((P.info? e).map (·.size) == some 1) (0 ≤ i ∧ i < (n : Int) ∧ exSh (shD d) (fun v => vs[i.toNat]? = some v ∧ K v))
        | none => False
      | _ => pureVC P o l K
    | _ => pureVC P o l K
  | _, _ => pureVC P o l K

/-- What is taken out of a tuple in this region tells its parts' shapes. -/
def entSh (P : Program) (lo : List Oper) (d : Option Tmp) (i : Nat) : TSh :=
  match lo.find? (fun o => match o.op, d with | .extract (.tmp t) j, some d => t == d && j == i | _, _ => false) with
  | some o => tsh P o.type
  | none => .one .any

/-- One operation that leaves the world alone. 'rd': a cell reads so; 'rn': a computation comes to this and changes nothing. -/
def stillVC (P : Program) (lo : List Oper) (rd : Addr → Value → Prop) (rn : Sem Value → Value → Prop) (o : Oper) (l : Fr) (K : Value → Prop) : Prop :=
  match o.op with
  | .move x => K (ev l x)
  | .assign x => K (ev l x)
  | .pick c a b =>
    match ev l c with
    | .bool t => pickV t (ev l a) (ev l b) K
    | _ => False
  | .load t a => loadVC P rd t (ev l a) K
  | .nilCheck x =>
    match ev l x with
    | .func (.method nm) a b => rn (nilMethS nm a b) (.func (.method nm) a b) ∧ K (.func (.method nm) a b)
    | v => nilVC v K
  | .indexAddr t x i => indexVC P t (ev l x) (ev l i) K
  | .index t x i => idxVC P o t x i l K
  | .slice t x lo hi mx => sliceVC P t (ev l x) (lo.map (ev l)) (hi.map (ev l)) (mx.map (ev l)) K
  | .binOp op t x y _ => binVC P rn o op t x y l K
  | .lookup t x i c => exR (rsh P o.type) (fun v => rn (Instr.lookup t (ev l x) (ev l i) c) v ∧ K v)
  | .entry x => exT (entSh P lo o.dst 0) (fun k => exT (entSh P lo o.dst 1) (fun v => rn (Instr.entry (ev l x)) (.tuple #[k, v]) ∧ K (.tuple #[k, v])))
  | .call ⟨.builtin .len, args, ts⟩ =>
    match (ev l (args.getD 0 default)) with
    | .map _ => exSh (.int .i64) (fun v => rn (Builtin.len_ ts o.type (args.map (ev l))) v ∧ K v)
    | _ => pureVC P o l K
  | _ => pureVC P o l K

/-- Does this kind of operation leave the world alone? -/
def still : Op → Bool
  | .move _ | .assign _ | .pick .. | .load .. | .nilCheck _ | .binOp .. | .unOp .. | .makeInterface .. | .makeFunc .. | .fieldAddr .. | .field .. | .indexAddr .. | .index ..
  | .slice .. | .lookup .. | .entry _ | .extract .. | .build .. => true
  | .convert .. => true
  | .call ⟨.builtin .len, _, _⟩ | .call ⟨.builtin .min, _, _⟩ | .call ⟨.builtin .max, _, _⟩ | .call ⟨.builtin .cap, _, _⟩ => true
  | _ => false

/-- This one operation. (A conversion between a string and bytes is none that leaves the world alone.) -/
def stillO (P : Program) (o : Oper) : Bool :=
  match o.op with
  | .convert s d _ =>
    match P.underlying s, P.underlying d with
    | some (.slice _), _ => false
    | _, some (.slice _) => false
    | _, _ => true
  | op => still op

/-! ### Operations that act -/
/-- There is room for n cells at this place, and none is frozen. -/
def room (w : World) (b o n : Nat) : Prop := ∀ i, i < n → (w.cell? ⟨b, o + i, none⟩).isSome = true ∧ w.frozen? ⟨b, o + i, none⟩ = false
def storeVC (P : Program) (t : TypeId) (addr val : Value) (w : World) (K : World → Prop) : Prop :=
  match addr with
  | .pointer p => okP p
      (match P.underlying t with
       | some (.struct _) | some (.array _ _) =>
         (match val with
          | .agg cs => gd ((P.info? t).map (·.size) == some cs.size) (gd (cs.toList.all (·.oneCell')) (room w (pb p) (po p) cs.size ∧ K (w.setCells (pb p) (po p) cs.toList)))
          | _ => False)
       | some _ => gd ((P.info? t).map (·.size) == some 1) (gd val.oneCell' (room w (pb p) (po p) 1 ∧ K (w.setCell ⟨pb p, po p, none⟩ val)))
       | none => False)
  | _ => False

/-- A call's end. -/
def retK (s : RSh) (K : Value → World → Prop) (e : Ending) (w : World) : Prop := exR s (fun v => e = .returned v ∧ K v w)

def callVC (P : Program) (o : Oper) (c : Call) (l : Fr) (w : World) (K : Value → World → Prop) : Prop :=
  match c.callee with
  | .value (.func f) =>
    match (callFunc f (c.args.map (ev l))).run P w with
    | .ok (.enter f args) w' => Calls P f args w' (retK (rsh P o.type) K)
    | _ => False
  | .value x => ∃ f args w', (do let d ← Deferred.ofValue (ev l x) (c.args.map (ev l)); invoke d.target d.args).run P w = .ok (.enter f args) w' ∧ Calls P f args w' (retK (rsh P o.type) K)
  | .invoke r m => ∃ f args w', (callMethod (ev l r) m (c.args.map (ev l))).run P w = .ok (.enter f args) w' ∧ Calls P f args w' (retK (rsh P o.type) K)
  | .builtin .append => exSh .slice (fun v => ∃ w', (Builtin.append_ c.argTypes o.type (c.args.map (ev l))).run P w = .ok v w' ∧ K v w')
  | .builtin .copy => exSh (.int .i64) (fun v => ∃ w', (Builtin.copy_ c.argTypes o.type (c.args.map (ev l))).run P w = .ok v w' ∧ K v w')
  | .builtin .delete => ∃ w', (Builtin.delete_ c.argTypes o.type (c.args.map (ev l))).run P w = .ok (.tuple #[]) w' ∧ K (.tuple #[]) w'
  | _ => False

def effVC (P : Program) (o : Oper) (l : Fr) (w : World) (K : Value → World → Prop) : Prop :=
  match o.op with
  | .store t a x => storeVC P t (ev l a) (ev l x) w (fun w' => K undef w')
  | .call c => callVC P o c l w K
  | .mapUpdate t m k x => ∃ w', (Instr.mapUpdate t (ev l m) (ev l k) (ev l x)).run P w = .ok () w' ∧ K undef w'
  | .range t x => exSh .ptr (fun v => ∃ w', (Instr.range t (ev l x)).run P w = .ok v w' ∧ K v w')
  | .next it s =>
    (∃ w', (Instr.next (ev l it) s o.type).run P w = .ok (.tuple #[.bool false]) w' ∧ K (.tuple #[.bool false]) w') ∨
    (match s with
     | true => ∃ (i c : Int) (w' : World), (Instr.next (ev l it) s o.type).run P w = .ok (.tuple #[.bool true, .int .i64 i, .int .i32 c]) w' ∧ K (.tuple #[.bool true, .int .i64 i, .int .i32 c]) w'
     | false => ∃ (k v : Value) (w' : World), (Instr.next (ev l it) s o.type).run P w = .ok (.tuple #[.bool true, k, v]) w' ∧ K (.tuple #[.bool true, k, v]) w')
  | .convert s d x => exT (tsh P d) (fun v => ∃ w', (convert s d (ev l x)).run P w = .ok v w' ∧ K v w')
  | .makeSlice t n c => exSh .slice (fun v => ∃ w', (Instr.makeSlice t (ev l n) (ev l c)).run P w = .ok v w' ∧ K v w')
  | .typeAssert x t a c => exR (rsh P o.type) (fun v => ∃ w', (Instr.typeAssert (ev l x) t a c).run P w = .ok v w' ∧ K v w')
  | _ =>
    match (execOp (ev l) o).run P w with
    | .ok (.value v) w' => K v w'
    | _ => False
end Go.Vc
