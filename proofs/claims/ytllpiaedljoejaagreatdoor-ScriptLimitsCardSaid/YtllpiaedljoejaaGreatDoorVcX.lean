/- Closed runs by computation: the machine that the kernel runs. Conditions: none. -/
import Derived.Test.YtllpiaedljoejaaGreatDoorVcSL3
import Derived.Laws.BytesArg
import Derived.Lib.AppendStr
namespace Go.Vc
set_option linter.unusedSimpArgs false
set_option linter.unusedVariables false

/-! ### Memory: blocks by numbers of its own -/
inductive XO where
  | cells (t : TypeId) (own : Nat) (cs : List Value)
  | ro (cs : List Value)
  | map
  | siter (s : ByteArray) (p : Nat)
  | miter (m : Nat)
  | dead
inductive T8 (α : Type) where
  | e
  | l (x : α)
  | n (c0 c1 c2 c3 c4 c5 c6 c7 : T8 α)
/-- Told by recursors: the kernel runs these often. -/
noncomputable def T8.sel {α : Type} (i : Nat) (t : T8 α) : T8 α := T8.rec (motive := fun _ => T8 α) .e (fun _ => .e) (fun c0 c1 c2 c3 c4 c5 c6 c7 _ _ _ _ _ _ _ _ =>
  Bool.rec (Bool.rec (Bool.rec c7 c6 (Nat.ble i 6)) (Bool.rec c5 c4 (Nat.ble i 4)) (Nat.ble i 5)) (Bool.rec (Bool.rec c3 c2 (Nat.ble i 2)) (Bool.rec c1 c0 (Nat.ble i 0)) (Nat.ble i 1)) (Nat.ble i 3)) t
noncomputable def T8.updN {α : Type} (i : Nat) (x c0 c1 c2 c3 c4 c5 c6 c7 : T8 α) : T8 α :=
  Bool.rec (Bool.rec (Bool.rec (.n c0 c1 c2 c3 c4 c5 c6 x) (.n c0 c1 c2 c3 c4 c5 x c7) (Nat.ble i 6)) (Bool.rec (.n c0 c1 c2 c3 c4 x c6 c7) (.n c0 c1 c2 c3 x c5 c6 c7) (Nat.ble i 4)) (Nat.ble i 5))
    (Bool.rec (Bool.rec (.n c0 c1 c2 x c4 c5 c6 c7) (.n c0 c1 x c3 c4 c5 c6 c7) (Nat.ble i 2)) (Bool.rec (.n c0 x c2 c3 c4 c5 c6 c7) (.n x c1 c2 c3 c4 c5 c6 c7) (Nat.ble i 0)) (Nat.ble i 1)) (Nat.ble i 3)
noncomputable def T8.upd {α : Type} (i : Nat) (x t : T8 α) : T8 α := T8.rec (motive := fun _ => T8 α) (T8.updN i x .e .e .e .e .e .e .e .e) (fun _ => T8.updN i x .e .e .e .e .e .e .e .e) (fun c0 c1 c2 c3 c4 c5 c6 c7 _ _ _ _ _ _ _ _ => T8.updN i x c0 c1 c2 c3 c4 c5 c6 c7) t
noncomputable def T8.leaf {α : Type} (t : T8 α) : Option α := T8.rec (motive := fun _ => Option α) none (fun x => some x) (fun _ _ _ _ _ _ _ _ _ _ _ _ _ _ _ _ => none) t
noncomputable def T8.get {α : Type} (d : Nat) : Nat → T8 α → Option α := Nat.rec (motive := fun _ => Nat → T8 α → Option α) (fun k t => Bool.rec none (T8.leaf t) (Nat.beq k 0)) (fun _ ih k t => ih (Nat.div k 8) (T8.sel (Nat.mod k 8) t)) d
/-- Put a leaf, or nothing. -/
noncomputable def T8.set {α : Type} (x : T8 α) (d : Nat) : Nat → T8 α → T8 α := Nat.rec (motive := fun _ => Nat → T8 α → T8 α) (fun k t => Bool.rec t x (Nat.beq k 0)) (fun _ ih k t => T8.upd (Nat.mod k 8) (ih (Nat.div k 8) (T8.sel (Nat.mod k 8) t)) t) d
theorem T8.get_zero {α : Type} (k : Nat) (t : T8 α) : T8.get 0 k t = if k = 0 then T8.leaf t else none := by
  by_cases h : k = 0
  · subst h; rfl
  · have : Nat.beq k 0 = false := by cases k with | zero => exact (h rfl).elim | succ n => rfl
    rw [if_neg h]; show Bool.rec none (T8.leaf t) (Nat.beq k 0) = none; rw [this]
theorem T8.get_succ {α : Type} (d k : Nat) (t : T8 α) : T8.get (d + 1) k t = T8.get d (k / 8) (T8.sel (k % 8) t) := rfl
theorem T8.set_zero {α : Type} (x : T8 α) (k : Nat) (t : T8 α) : T8.set x 0 k t = if k = 0 then x else t := by
  by_cases h : k = 0
  · subst h; rfl
  · have : Nat.beq k 0 = false := by cases k with | zero => exact (h rfl).elim | succ n => rfl
    rw [if_neg h]; show Bool.rec t x (Nat.beq k 0) = t; rw [this]
theorem T8.set_succ {α : Type} (x : T8 α) (d k : Nat) (t : T8 α) : T8.set x (d + 1) k t = T8.upd (k % 8) (T8.set x d (k / 8) (t.sel (k % 8))) t := rfl
abbrev FX := T8 Value
noncomputable def FX.at_ (l : FX) (k : Nat) : Value :=
  match T8.get 3 k l with
  | some v => v
  | none => undef
noncomputable def putX (l : FX) (d : Option Tmp) (v : Value) : FX :=
  match d with
  | some d => T8.set (.l v) 3 d l
  | none => l
noncomputable def evF (l : FX) : Operand → Value
  | .tmp t => FX.at_ l t
  | .const v => v
  | .global g => .pointer (some ⟨g, 0, none⟩)
  | .func f => .func (.func f) #[] #[]
noncomputable def argsX : List Value → Nat → T8 Value → T8 Value
  | [], _, t => t
  | v :: r, i, t => argsX r (i + 1) (T8.set (.l v) 3 i t)
structure XH where
  tr : T8 XO
  nx : Nat
/-- Below: the program's variables, read alone. -/
noncomputable def x0 : Nat := 512
noncomputable def XH.get (h : XH) (k : Nat) : Option XO := T8.get 6 k h.tr
noncomputable def XH.put (h : XH) (k : Nat) (x : XO) : XH := ⟨T8.set (.l x) 6 k h.tr, h.nx⟩
noncomputable def XH.new (h : XH) (x : XO) : Option (Nat × XH) :=
  match Nat.blt h.nx 262144 && Nat.ble x0 h.nx && (h.get h.nx).isNone with
  | true => some (h.nx, ⟨T8.set (.l x) 6 h.nx h.tr, h.nx + 1⟩)
  | false => none
noncomputable def XH.cell (h : XH) (k o : Nat) : Option Value :=
  match h.get k with
  | some (.cells _ _ cs) => cs[o]?
  | some (.ro cs) => cs[o]?
  | _ => none

noncomputable def XH.isMap (h : XH) (k : Nat) : Bool :=
  match h.get k with
  | some .map => true
  | _ => false

/-! ### Values -/
noncomputable def plain1 : Value → Bool
  | .bool _ | .int _ _ | .string _ | .nilIface | .nilFunc | .pointer none | .slice none _ _ | .map none => true
  | _ => false
noncomputable def plainV : Value → Bool
  | .agg cs => cs.toList.all plain1
  | .tuple cs => cs.toList.all plain1
  | .func _ a b => a.size == 0 && b.size == 0
  | v => plain1 v
noncomputable def evX (h : XH) (l : FX) : Operand → Option Value
  | .tmp t => some (FX.at_ l t)
  | .const v => match plainV v with | true => some v | false => none
  | .global g => match Nat.blt g x0, h.get g with | true, some _ => some (.pointer (some ⟨g, 0, none⟩)) | _, _ => none
  | .func f => some (.func (.func f) #[] #[])
noncomputable def evsX (h : XH) (l : FX) : List Operand → Option (List Value)
  | [] => some []
  | x :: r => match evX h l x, evsX h l r with | some v, some vs => some (v :: vs) | _, _ => none

abbrev Rd := Nat → Nat → Option Value
noncomputable def rdN (rd : Rd) (k : Nat) : Nat → Nat → Option (List Value)
  | 0, _ => some []
  | n + 1, o =>
    match rd k o with
    | some v => match rdN rd k n (o + 1) with | some vs => some (v :: vs) | none => none
    | none => none
noncomputable def sizeX (P : Program) (t : TypeId) : Option Nat := (P.info? t).map (·.size)
noncomputable def aggX (P : Program) (t : TypeId) : Option Bool :=
  match P.underlying t with
  | some (.struct _) | some (.array _ _) => some true
  | some _ => some false
  | none => none
noncomputable def loadX (P : Program) (rd : Rd) (t : TypeId) : Value → Option Value
  | .pointer (some ⟨k, o, none⟩) =>
    match aggX P t, sizeX P t with
    | some true, some n => match rdN rd k n o with | some vs => some (.agg vs.toArray) | none => none
    | some false, _ => rd k o
    | _, _ => none
  | _ => none
noncomputable def partX (P : Program) (t : TypeId) (cs : List Value) (off : Nat) : Option Value :=
  match aggX P t, sizeX P t with
  | some true, some n => some (.agg ((cs.drop off).take n).toArray)
  | some false, _ => cs[off]?
  | _, _ => none
noncomputable def fieldAddrX (P : Program) (s : TypeId) (f : Nat) : Value → Option Value
  | .pointer (some ⟨k, o, none⟩) =>
    match P.underlying s with
    | some (.struct fs) =>
      match fs[f]? with
      | some fd =>
        match sizeX P fd.type with
        | some (_ + 1) => some (.pointer (some ⟨k, o + fd.offset, none⟩))
        | _ => none
      | none => none
    | _ => none
  | _ => none
noncomputable def fieldX (P : Program) (t : TypeId) (f : Nat) : Value → Option Value
  | .agg cs =>
    match P.underlying t with
    | some (.struct fs) =>
      match fs[f]? with
      | some fd => partX P fd.type cs.toList fd.offset
      | none => none
    | _ => none
  | _ => none
noncomputable def inB (i : Int) (n : Nat) : Bool :=
  match i with
  | .ofNat m => Nat.blt m n
  | _ => false
noncomputable def indexAddrX (P : Program) (t : TypeId) : Value → Value → Option Value
  | x, .int _ i =>
    match P.underlying t, x with
    | some (.array n e), .pointer (some ⟨k, o, none⟩) =>
      match inB i n, sizeX P e with
      | true, some s => some (.pointer (some ⟨k, o + i.toNat * s, none⟩))
      | _, _ => none
    | some (.slice e), .slice (some ⟨k, o, none⟩) n _ =>
      match inB i n, sizeX P e with
      | true, some s => some (.pointer (some ⟨k, o + i.toNat * s, none⟩))
      | _, _ => none
    | _, _ => none
  | _, _ => none
noncomputable def indexX (P : Program) (t : TypeId) : Value → Value → Option Value
  | .agg cs, .int _ i =>
    match P.underlying t with
    | some (.array n e) =>
      match inB i n, sizeX P e with
      | true, some s => partX P e cs.toList (i.toNat * s)
      | _, _ => none
    | _ => none
  | _, _ => none
noncomputable def natX (d : Nat) : Option Value → Option Nat
  | none => some d
  | some (.int _ (.ofNat n)) => some n
  | _ => none
/-- x[lo:hi] within the length: what is behind it counts no more, but for the capacity. -/
noncomputable def sliceX (P : Program) (t : TypeId) (lo hi : Option Value) : Value → Option Value
  | .slice (some ⟨k, o, none⟩) n c =>
    match P.underlying t with
    | some (.slice e) =>
      match sizeX P e, natX 0 lo, natX n hi with
      | some s, some a, some b =>
        match Nat.blt a b && Nat.ble b n, Nat.beq a b && Nat.ble b n with
        | true, _ => some (.slice (some ⟨k, o + a * s, none⟩) (b - a) (c + a))
        | false, true => some (.slice (some ⟨0, 0, some 0⟩) 0 0)
        | _, _ => none
      | _, _, _ => none
    | _ => none
  | _ => none
noncomputable def extractX (i : Nat) : Value → Option Value
  | .tuple vs => vs[i]?
  | _ => none
noncomputable def purX (P : Program) (o : Oper) (l : FX) : Option Value :=
  match pureVal P (execOp (evF l) o) with
  | some (.value v) => match plainV v with | true => some v | false => none
  | _ => none
/-- What is closed and told of the program. -/
structure XE (P : Program) where
  im : TypeId → String → Option FuncId
  nm : TypeId → String → Bool
  ext : FuncId → Option (List Value → XH → Option (Value × XH))
  sched : FuncId → Nat → Option (Option Nat × Sched)
  okf : FuncId → Bool
section
variable (P : Program) (E : XE P)
/-- The schedules of a function's regions are checked. -/
noncomputable def regOkB (f : FuncId) : Code → Bool
  | .seq a b => regOkB f a && regOkB f b
  | .cond _ a b => regOkB f a && regOkB f b
  | .block _ b => regOkB f b
  | .loop b => regOkB f b
  | .region id ops d =>
    match d with
    | true => match E.sched f id with | some (hasS, s) => Region.noSelect ops && okS P ops.toList (hasS.getD 0) ops.size s 0 none | none => true
    | false => true
  | _ => true
noncomputable def isC : Operand → Bool
  | .const _ => true
  | _ => false
noncomputable def binX (o : Oper) (l : FX) (op : BinOp) (t : TypeId) (y : Operand) (a b : Value) : Option Value :=
  match op, a, b with
  | .eql, .pointer p, .pointer none => match isPtrT P t with | true => some (.bool p.isNone) | false => none
  | .neq, .pointer p, .pointer none => match isPtrT P t with | true => some (.bool !p.isNone) | false => none
  | .eql, .nilIface, .nilIface => match isIfc P t && isC y with | true => some (.bool true) | false => none
  | .neq, .nilIface, .nilIface => match isIfc P t && isC y with | true => some (.bool false) | false => none
  | .eql, .iface _ _, .nilIface => match isIfc P t with | true => some (.bool false) | false => none
  | .neq, .iface _ _, .nilIface => match isIfc P t with | true => some (.bool true) | false => none
  | _, _, _ => match plainV a && plainV b with | true => purX P o l | false => none
noncomputable def nilX : Value → Option Value
  | .pointer (some a) => some (.pointer (some a))
  | .iface t x => some (.iface t x)
  | .func (.func f) a b => some (.func (.func f) a b)
  | .func (.method m) a b =>
    match a.toList, b.toList with
    | [.iface t (.pointer (some ⟨k, 0, none⟩))], [] => match E.nm t m with | true => some (.func (.method m) a b) | false => none
    | _, _ => none
  | _ => none
noncomputable def lenX (o : Oper) (l : FX) (ts : Array TypeId) : Value → Option Value
  | .slice _ n _ =>
    match ts.toList with
    | t :: _ => match P.underlying t with | some (.slice _) => some (.int .i64 n) | _ => none
    | _ => none
  | .string s => purX P o l
  | _ => none
noncomputable def partsX (h : XH) (l : FX) : List (Nat × Operand) → Option (List (Nat × Value))
  | [] => some []
  | (i, x) :: r => match evX h l x, partsX h l r with | some v, some vs => some ((i, v) :: vs) | _, _ => none
noncomputable def zeroX (t : TypeId) : Option (List Value) :=
  match (P.info? t).bind (·.zero) with
  | some v => match v.cells.toList.all plain1 with | true => some v.cells.toList | false => none
  | none => none
noncomputable def placesX : List Field → Option (List (Nat × Nat))
  | [] => some []
  | f :: r => match sizeX P f.type, placesX r with | some s, some ps => some ((f.offset, s) :: ps) | _, _ => none
noncomputable def fillX (place : Nat → Option (Nat × Nat)) : List Value → List (Nat × Value) → Option (List Value)
  | cs, [] => some cs
  | cs, (i, v) :: r =>
    match place i with
    | none => none
    | some (off, size) =>
      match Nat.beq v.cells.toList.length size && Nat.ble (off + v.cells.toList.length) cs.length with
      | true => fillX place (splice cs off v.cells.toList) r
      | false => none
noncomputable def buildX (t : TypeId) (ps : List (Nat × Value)) : Option Value :=
  match zeroX P t, P.underlying t with
  | some z, some (.struct fs) =>
    match placesX P fs.toList with
    | some pl => match fillX (fun i => pl[i]?) z ps with | some cs => some (.agg cs.toArray) | none => none
    | none => none
  | some z, some (.array _ e) =>
    match sizeX P e with
    | some s => match fillX (fun i => some (i * s, s)) z ps with | some cs => some (.agg cs.toArray) | none => none
    | none => none
  | _, _ => none
noncomputable def lookX (mp : Nat → Bool) (t : TypeId) (ok : Bool) (m : Value) (i : Value) : Option Value :=
  match P.underlying t, m with
  | some (.map k e), .map (some r) =>
    match mp r, P.underlying k, i with
    | true, some (.string), .string _ => fin e
    | true, some (.int _), .int _ _ => fin e
    | _, _, _ => none
  | _, _ => none
  where fin (e : TypeId) : Option Value :=
  match (P.info? e).bind (·.zero) with
  | some v => match plainV v, ok with | true, true => (match plain1 v with | true => some (.tuple #[v, .bool false]) | false => none) | true, false => some v | false, _ => none
  | none => none
/-- One operation that leaves the world alone. -/
noncomputable def stillX (rd : Rd) (mp : Nat → Bool) (o : Oper) (l : FX) (h : XH) : Option Value :=
  match o.op with
  | .move x => evX h l x
  | .assign x => evX h l x
  | .pick c a b =>
    match evX h l c with
    | some (.bool true) => evX h l a
    | some (.bool false) => evX h l b
    | _ => none
  | .load t a => match evX h l a with | some v => loadX P rd t v | none => none
  | .nilCheck x => match evX h l x with | some v => nilX P E v | none => none
  | .indexAddr t x i => match evX h l x, evX h l i with | some v, some u => indexAddrX P t v u | _, _ => none
  | .index t x i =>
    match evX h l x, evX h l i with
    | some (.agg cs), some u => indexX P t (.agg cs) u
    | some (.string s), some (.int k n) => purX P o l
    | _, _ => none
  | .slice t x lo hi none =>
    match evX h l x, evsX h l lo.toList, evsX h l hi.toList with
    | some (.string s), some a, some b => match a.all plain1 && b.all plain1 with | true => purX P o l | false => none
    | some v, some a, some b => sliceX P t a.head? b.head? v
    | _, _, _ => none
  | .fieldAddr t x f => match evX h l x with | some v => fieldAddrX P t f v | none => none
  | .field t x f => match evX h l x with | some v => fieldX P t f v | none => none
  | .binOp op t x y _ => match evX h l x, evX h l y with | some a, some b => binX P o l op t y a b | _, _ => none
  | .unOp _ _ x => match evX h l x with | some a => (match plain1 a with | true => purX P o l | false => none) | none => none
  | .convert _ _ x => match evX h l x with | some a => (match plain1 a with | true => purX P o l | false => none) | none => none
  | .makeInterface t x =>
    match P.underlying t, evX h l x with
    | some (.interface _), _ => none
    | some _, some v => some (.iface t v)
    | _, _ => none
  | .makeFunc f a b => match evsX h l a.toList, evsX h l b.toList with | some x, some y => some (.func f x.toArray y.toArray) | _, _ => none
  | .extract x i => match evX h l x with | some v => extractX i v | none => none
  | .build t ps => match partsX h l ps.toList with | some vs => buildX P t vs | none => none
  | .lookup t x i ok => match evX h l x, evX h l i with | some m, some k => lookX P mp t ok m k | _, _ => none
  | .call ⟨.builtin .len, args, ts⟩ => match evsX h l args.toList with | some [v] => lenX P o l ts v | _ => none
  | .call ⟨.builtin .min, args, ts⟩ => match evsX h l args.toList with | some vs => (match vs.all plain1 with | true => purX P o l | false => none) | none => none
  | .call ⟨.builtin .max, args, ts⟩ => match evsX h l args.toList with | some vs => (match vs.all plain1 with | true => purX P o l | false => none) | none => none
  | _ => none

/-! ### Operations that act -/
noncomputable def one1 (v : Value) : Bool := v.oneCell'
noncomputable def putCs (cs : List Value) (o : Nat) (vs : List Value) : List Value :=
  match vs with
  | [v] => cs.set o v
  | _ => splice cs o vs
noncomputable def storeCX (h : XH) (k o : Nat) (vs : List Value) : Option XH :=
  match h.get k with
  | some (.cells t w cs) =>
    match Nat.ble x0 k && Nat.ble (o + vs.length) cs.length && vs.all one1 with
    | true => some (h.put k (.cells t w (putCs cs o vs)))
    | false => none
  | _ => none
noncomputable def storeX (h : XH) (t : TypeId) (a v : Value) : Option XH :=
  match a with
  | .pointer (some ⟨k, o, none⟩) =>
    match aggX P t, sizeX P t, v with
    | some true, some n, .agg cs => match Nat.beq cs.toList.length n with | true => storeCX h k o cs.toList | false => none
    | some false, some 1, v => storeCX h k o [v]
    | _, _, _ => none
  | _ => none
noncomputable def newX (h : XH) (x : XO) (f : Nat → Value) : Option (Value × XH) :=
  match h.new x with
  | some (k, h') => some (f k, h')
  | none => none
noncomputable def ptrX (k : Nat) : Value := .pointer (some ⟨k, 0, none⟩)
noncomputable def repX (z : List Value) : Nat → List Value
  | 0 => []
  | n + 1 => z ++ repX z n
noncomputable def bslX (h : XH) (t : TypeId) (len : Nat) (ps : List (Nat × Value)) : Option (Value × XH) :=
  match P.underlying t with
  | some (.slice e) =>
    match sizeX P e, zeroX P e with
    | some (s + 1), some z =>
      match Nat.beq z.length (s + 1) && Nat.ble (len * (s + 1)) 65536 with
      | true => match fillX (fun i => some (i * (s + 1), s + 1)) (repX z len) ps with
        | some cs => newX h (.cells e (s + 1) cs) (fun k => .slice (some ⟨k, 0, none⟩) len 0)
        | none => none
      | false => none
    | _, _ => none
  | _ => none
noncomputable def mslX (h : XH) (t : TypeId) (n c : Value) : Option (Value × XH) :=
  match P.underlying t, n, c with
  | some (.slice e), .int .i64 (.ofNat a), .int .i64 (.ofNat b) =>
    match sizeX P e, zeroX P e with
    | some (s + 1), some z =>
      match Nat.beq a b && Nat.beq z.length (s + 1) && Nat.ble b 65536 && Nat.ble (((P.info? e).map (·.bytes)).getD 65536) 65535 with
      | true => newX h (.cells e (s + 1) (repX z b)) (fun k => .slice (some ⟨k, 0, none⟩) a 0)
      | false => none
    | _, _ => none
  | _, _, _ => none
noncomputable def appX (h : XH) (ts : Array TypeId) (s x : Value) : Option (Value × XH) :=
  match ts.toList with
  | [t, t'] =>
    match Nat.beq t t', P.underlying t with
    | true, some (.slice e) =>
      match sizeX P e, zeroX P e, s, x with
      | some (w + 1), some z, .slice sa sn sc, .slice xa xn _ =>
        match Nat.beq z.length (w + 1) && Nat.ble (sn + xn) 65536 && Nat.ble (((P.info? e).map (·.bytes)).getD 65536) 65535 with
        | true =>
          match xn with
          | 0 => match sa, sn with | none, 0 => some (s, h) | some _, _ => some (s, h) | _, _ => none
          | _ =>
            match xa with
            | some ⟨xk, xo, none⟩ =>
              match rdN h.cell xk (xn * (w + 1)) xo with
              | some ys =>
                match sa with
                | none => match sn, sc, ys.all one1 with | 0, 0, true => newX h (.cells e (w + 1) ys) (fun k => .slice (some ⟨k, 0, none⟩) xn 0) | _, _, _ => none
                | some ⟨sk, 0, none⟩ =>
                  match h.get sk, sc, ys.all one1 with
                  | some (.cells e' w' cs), 0, true =>
                    match Nat.beq e e' && Nat.beq w' (w + 1) && Nat.beq cs.length (sn * (w + 1)) && !Nat.beq sk xk && Nat.ble x0 sk with
                    | true =>
                      match (⟨T8.set (.l .dead) 6 sk h.tr, h.nx⟩ : XH).new (.cells e (w + 1) (cs ++ ys)) with
                      | some (k, h') => some (.slice (some ⟨k, 0, none⟩) (sn + xn) 0, h')
                      | none => none
                    | false => none
                  | _, _, _ => none
                | _ => none
              | none => none
            | _ => none
        | false => none
      | _, _, _, _ => none
    | _, _ => none
  | _ => none
noncomputable def appSX (h : XH) (ts : Array TypeId) (s : Value) (x : ByteArray) : Option (Value × XH) :=
  match ts.toList with
  | [t, t'] =>
    match P.underlying t, P.underlying t' with
    | some (.slice e), some .string =>
      match sizeX P e, zeroX P e, s with
      | some 1, some z, .slice sa sn sc =>
        match Nat.beq z.length 1 && Nat.ble (sn + x.size) 65536 && Nat.ble (((P.info? e).map (·.bytes)).getD 65536) 65535 && Nat.blt 0 x.size with
        | true =>
          match sa with
          | none => match sn, sc with | 0, 0 => newX h (.cells e 1 (Lib.strCells x)) (fun k => .slice (some ⟨k, 0, none⟩) x.size 0) | _, _ => none
          | some ⟨sk, 0, none⟩ =>
            match h.get sk, sc with
            | some (.cells e' w' cs), 0 =>
              match Nat.beq e e' && Nat.beq w' 1 && Nat.beq cs.length sn && Nat.ble x0 sk with
              | true =>
                match (⟨T8.set (.l .dead) 6 sk h.tr, h.nx⟩ : XH).new (.cells e 1 (cs ++ Lib.strCells x)) with
                | some (k, h') => some (.slice (some ⟨k, 0, none⟩) (sn + x.size) 0, h')
                | none => none
              | false => none
            | _, _ => none
          | _ => none
        | false => none
      | _, _, _ => none
    | _, _ => none
  | _ => none
noncomputable def numsX : List Value → Option (List Int)
  | [] => some []
  | .int .u8 n :: r => match numsX r with | some bs => some (n :: bs) | none => none
  | _ => none
noncomputable def strX (h : XH) (s d : TypeId) (v : Value) : Option (Value × XH) :=
  match P.underlying s, P.underlying d with
  | some (.slice e), some .string =>
    match P.underlying e, v with
    | some (.int .u8), .slice none 0 _ => some (.string ByteArray.empty, h)
    | some (.int .u8), .slice (some ⟨k, o, none⟩) n _ =>
      match rdN h.cell k n o with
      | some cs => match numsX cs with | some bs => some (.string (strOfNums bs), h) | none => none
      | none => none
    | _, _ => none
  | _, _ => none
noncomputable def rngX (h : XH) (t : TypeId) (v : Value) : Option (Value × XH) :=
  match P.underlying t, v with
  | some .string, .string s => newX h (.siter s 0) ptrX
  | some (.map _ _), .map (some m) => match h.get m with | some .map => newX h (.miter m) ptrX | _ => none
  | _, _ => none
noncomputable def nextX (h : XH) (b : Bool) (v : Value) : Option (Value × XH) :=
  match v with
  | .pointer (some ⟨k, 0, none⟩) =>
    match h.get k, b with
    | some (.siter s p), true =>
      match Nat.ble x0 k, Nat.blt p s.size with
      | true, true => some (.tuple #[.bool true, .int .i64 p, .int .i32 (Utf8.decode s p).1], h.put k (.siter s (p + (Utf8.decode s p).2)))
      | true, false => some (.tuple #[.bool false], h)
      | false, _ => none
    | some (.miter m), false => match h.get m with | some .map => some (.tuple #[.bool false], h) | _ => none
    | _, _ => none
  | _ => none
noncomputable def enterX (f : FuncId) : Bool :=
  match P.funcs[f]? with
  | some fn => !(fn.name == "runtime.NumGoroutine") && fn.body.isSome
  | none => false
/-- One operation that acts; 'xF' calls a function. -/
noncomputable def effX (xF : FuncId → List Value → XH → Option (Value × XH)) (o : Oper) (l : FX) (h : XH) : Option (Value × XH) :=
  match o.op with
  | .store t a x => match evX h l a, evX h l x with | some p, some v => (match storeX P h t p v with | some h' => some (undef, h') | none => none) | _, _ => none
  | .alloc t => match zeroX P t with | some z => newX h (.cells t 0 z) ptrX | none => none
  | .box t x => match evX h l x with | some v => newX h (.cells t 0 v.cells.toList) ptrX | none => none
  | .buildSlice t n ps => match partsX h l ps.toList with | some vs => bslX P h t n vs | none => none
  | .makeSlice t n c => match evX h l n, evX h l c with | some a, some b => mslX P h t a b | _, _ => none
  | .makeMap t none => newX h .map (fun k => .map (some k))
  | .range t x => match evX h l x with | some v => rngX P h t v | none => none
  | .next x b => match evX h l x with | some v => nextX h b v | none => none
  | .convert s d x => match evX h l x with | some v => strX P h s d v | none => none
  | .call c =>
    match evsX h l c.args.toList with
    | none => none
    | some vs =>
      match c.callee with
      | .builtin .append => match vs with | [s, .string x] => appSX P h c.argTypes s x | [s, x] => appX P h c.argTypes s x | _ => none
      | .value x => match evX h l x with | some (.func (.func f) a b) => (match enterX P f with | true => xF f (a.toList ++ vs ++ b.toList) h | false => none) | some (.func (.method m) a b) => (match a.toList, b.toList with | [.iface t (.pointer (some ⟨k, 0, none⟩))], [] => (match E.im t m with | some f => (match enterX P f with | true => xF f (ptrX k :: vs) h | false => none) | none => none) | _, _ => none) | _ => none
      | .invoke x m => match evX h l x with | some (.iface t (.pointer (some ⟨k, 0, none⟩))) => (match E.im t m with | some f => (match enterX P f with | true => xF f (ptrX k :: vs) h | false => none) | none => none) | _ => none
      | _ => none
  | _ => none

/-! ### Regions -/
/-- Is the operation wanted? -/
noncomputable def wantX (lo : List Oper) (o : Oper) (l : FX) : Bool :=
  match o.guard with
  | none => true
  | some (j, want) =>
    match (lo[j]?).bind (·.dst) with
    | some d => match FX.at_ l d with | .bool true => want | .bool false => !want | _ => false
    | none => false
noncomputable def stepX (xF : FuncId → List Value → XH → Option (Value × XH)) (o : Oper) (l : FX) (h : XH) : Option (Value × XH) :=
  match stillO P o with
  | true => match stillX P E h.cell h.isMap o l h with | some v => some (v, h) | none => none
  | false => effX P E xF o l h
noncomputable def xSeq (xF : FuncId → List Value → XH → Option (Value × XH)) (lo : List Oper) : List Oper → FX → XH → Option (FX × XH)
  | [], l, h => some (l, h)
  | o :: r, l, h =>
    match wantX lo o l with
    | true => match stepX P E xF o l h with | some (v, h') => xSeq xF lo r (putX l o.dst v) h' | none => none
    | false => xSeq xF lo r (putX l o.dst undef) h
noncomputable def noRd : Rd := fun _ _ => none
/-- The cells that a load reads. -/
noncomputable def cellsOfX (h : XH) (l : FX) (o : Oper) : List (Nat × Nat) :=
  match o.op with
  | .load t a =>
    match evX h l a, aggX P t, sizeX P t with
    | some (.pointer (some ⟨k, o, none⟩)), some true, some n => (List.range n).map fun i => (k, o + i)
    | some (.pointer (some ⟨k, o, none⟩)), some false, _ => [(k, o)]
    | _, _, _ => []
  | _ => []
noncomputable def veq1 : Value → Value → Bool
  | .bool a, .bool b => match a, b with | true, true => true | false, false => true | _, _ => false
  | .int k a, .int k' b => decide (k = k') && decide (a = b)
  | .string a, .string b => decide (a.data.toList = b.data.toList)
  | .nilIface, .nilIface => true
  | .nilFunc, .nilFunc => true
  | .pointer none, .pointer none => true
  | .pointer (some ⟨k, o, none⟩), .pointer (some ⟨k', o', none⟩) => Nat.beq k k' && Nat.beq o o'
  | .slice none n c, .slice none m d => Nat.beq n m && Nat.beq c d
  | .slice (some ⟨k, o, none⟩) n c, .slice (some ⟨k', o', none⟩) m d => Nat.beq k k' && Nat.beq o o' && Nat.beq n m && Nat.beq c d
  | .map a, .map b => decide (a = b)
  | _, _ => false
noncomputable def eqLs (f : Value → Value → Bool) : List Value → List Value → Bool
  | [], [] => true
  | a :: r, b :: s => f a b && eqLs f r s
  | _, _ => false
noncomputable def eqV : Nat → Value → Value → Bool
  | 0, _, _ => false
  | n + 1, .agg a, .agg b => eqLs (eqV n) a.toList b.toList
  | n + 1, .tuple a, .tuple b => eqLs (eqV n) a.toList b.toList
  | n + 1, .func f a b, .func g c d => decide (f = g) && eqLs (eqV n) a.toList c.toList && eqLs (eqV n) b.toList d.toList
  | n + 1, .iface t a, .iface u b => Nat.beq t u && eqV n a b
  | _ + 1, a, b => veq1 a b
noncomputable def same1 : Option Value → Option Value → Bool
  | some a, some b => eqV 4 a b
  | _, _ => false
noncomputable def rdIn (SL : List (Nat × Nat)) (h0 : XH) : Rd := fun k o =>
  match SL.any fun p => Nat.beq p.1 k && Nat.beq p.2 o with
  | true => h0.cell k o
  | false => none
noncomputable def agreeX (SL : List (Nat × Nat)) (h0 h : XH) : Bool := SL.all fun p => same1 (h0.cell p.1 p.2) (h.cell p.1 p.2)
/-- In a region with ways: numbers by the operation. -/
noncomputable def strideX (st : Option Nat) (i : Nat) (h : XH) : XH :=
  match st with
  | some n => ⟨h.tr, n + 256 * (i + 1)⟩
  | none => h
noncomputable def endX (st : Option Nat) (n : Nat) (h : XH) : XH :=
  match st with
  | some m => ⟨h.tr, m + 256 * (n + 1)⟩
  | none => h
noncomputable def eqXO : XO → XO → Bool
  | .cells t w cs, .cells t' w' cs' => Nat.beq t t' && Nat.beq w w' && eqLs (eqV 4) cs cs'
  | .ro cs, .ro cs' => eqLs (eqV 4) cs cs'
  | .map, .map => true
  | .siter s p, .siter s' p' => decide (s.data.toList = s'.data.toList) && Nat.beq p p'
  | .miter a, .miter b => Nat.beq a b
  | .dead, .dead => true
  | _, _ => false
noncomputable def eqT {α : Type} (f : α → α → Bool) : T8 α → T8 α → Bool
  | .e, .e => true
  | .l a, .l b => f a b
  | .n a b c d j g h i, .n a' b' c' d' j' g' h' i' => eqT f a a' && eqT f b b' && eqT f c c' && eqT f d d' && eqT f j j' && eqT f g g' && eqT f h h' && eqT f i i'
  | _, _ => false
noncomputable def eqSt (a b : FX × XH) : Bool := eqT (eqV 4) a.1 b.1 && Nat.beq a.2.nx b.2.nx && eqT eqXO a.2.tr b.2.tr
/-- What the loads that may come before or after an effect read, by a run. -/
noncomputable def colX (xF : FuncId → List Value → XH → Option (Value × XH)) (lo : List Oper) (st : Option Nat) : Sched → FX → XH → List (Nat × Nat)
  | .done, _, _ => []
  | .still i fl u nx, l, h =>
    match lo[i]? with
    | some o =>
      match wantX lo o l with
      | true => match stillX P E h.cell h.isMap o l h with | some v => (match fl with | true => cellsOfX P h l o | false => []) ++ colX xF lo st nx (putX l o.dst v) h | none => []
      | false => colX xF lo st nx (putX l o.dst undef) h
    | none => []
  | .eff i nx, l, h =>
    match lo[i]? with
    | some o =>
      match wantX lo o l with
      | true => match stepX P E xF o l (strideX st i h) with | some (v, h') => colX xF lo st nx (putX l o.dst v) h' | none => []
      | false => colX xF lo st nx (putX l o.dst undef) h
    | none => []
  | .alt i nx more, l, h =>
    match lo[i]? with
    | some o =>
      match wantX lo o l with
      | true => match stepX P E xF o l (strideX st i h) with | some (v, h') => colX xF lo st nx (putX l o.dst v) h' | none => []
      | false => colX xF lo st nx (putX l o.dst undef) h
    | none => []
noncomputable def hasAlt : Sched → Bool
  | .done => false
  | .still _ _ _ nx => hasAlt nx
  | .eff _ nx => hasAlt nx
  | .alt _ _ _ => true
noncomputable def cutX (T i : Nat) : Option (List (Nat × Nat)) → Option (List (Nat × Nat))
  | some sl => match T.testBit i with | true => none | false => some sl
  | none => none
noncomputable def okA (h0 h : XH) : Option (List (Nat × Nat)) → Bool
  | some sl => agreeX sl h0 h
  | none => true
/-- The schedule, with what is asked throughout: the cells of SL read as in h0. -/
noncomputable def runX (xF : FuncId → List Value → XH → Option (Value × XH)) (lo : List Oper) (st : Option Nat) (T : Nat) (h0 : XH) : Sched → Option (List (Nat × Nat)) → FX → XH → Option (FX × XH)
  | .done, _, l, h => some (l, endX st lo.length h)
  | .still i fl u nx, SL, l, h =>
    match lo[i]? with
    | some o =>
      match wantX lo o l with
      | true => match stillX P E (match fl, SL with | false, _ => h.cell | true, some sl => rdIn sl h0 | true, none => noRd) (match fl with | false => h.isMap | true => fun _ => false) o l h with | some v => runX xF lo st T h0 nx SL (putX l o.dst v) h | none => none
      | false => runX xF lo st T h0 nx SL (putX l o.dst undef) h
    | none => none
  | .eff i nx, SL, l, h =>
    match lo[i]? with
    | some o =>
      match wantX lo o l with
      | true =>
        match stepX P E xF o l (strideX st i h) with
        | some (v, h') => match okA h0 h' (cutX T i SL) with | true => runX xF lo st T h0 nx (cutX T i SL) (putX l o.dst v) h' | false => none
        | none => none
      | false => runX xF lo st T h0 nx (cutX T i SL) (putX l o.dst undef) h
    | none => none
  | .alt i nx more, SL, l, h =>
    match lo[i]? with
    | some o =>
      match (match wantX lo o l with
        | true =>
          match stepX P E xF o l (strideX st i h) with
          | some (v, h') => match okA h0 h' (cutX T i SL) with | true => runX xF lo st T h0 nx (cutX T i SL) (putX l o.dst v) h' | false => none
          | none => none
        | false => runX xF lo st T h0 nx (cutX T i SL) (putX l o.dst undef) h), runX xF lo st T h0 more SL l h with
      | some a, some b => match eqSt a b with | true => some a | false => none
      | _, _ => none
    | none => none
noncomputable def regX (xF : FuncId → List Value → XH → Option (Value × XH)) (f : FuncId) (id : Nat) (ops : Array Oper) (l : FX) (h : XH) : Option (FX × XH) :=
  match E.sched f id with
  | some (hasS, s) =>
    match Region.noSelect ops && okS P ops.toList (hasS.getD 0) ops.size s 0 none with
    | true =>
      match hasAlt s, hasS with
      | false, some T => runX P E xF ops.toList none T h s (some (colX P E xF ops.toList none s l h)) l h
      | false, none => runX P E xF ops.toList none 0 h s none l h
      | true, some T => runX P E xF ops.toList (some h.nx) T h s (some (colX P E xF ops.toList (some h.nx) s l h)) l h
      | true, none => runX P E xF ops.toList (some h.nx) 0 h s none l h
    | false => none
  | none => none

/-- As regX, where the schedule was checked ahead. -/
noncomputable def regY (xF : FuncId → List Value → XH → Option (Value × XH)) (f : FuncId) (id : Nat) (ops : Array Oper) (l : FX) (h : XH) : Option (FX × XH) :=
  match E.sched f id with
  | some (hasS, s) =>
    match hasAlt s, hasS with
    | false, some T => runX P E xF ops.toList none T h s (some (colX P E xF ops.toList none s l h)) l h
    | false, none => runX P E xF ops.toList none 0 h s none l h
    | true, some T => runX P E xF ops.toList (some h.nx) T h s (some (colX P E xF ops.toList (some h.nx) s l h)) l h
    | true, none => runX P E xF ops.toList (some h.nx) 0 h s none l h
  | none => none
/-! ### Code -/
noncomputable def resX (h : XH) (l : FX) : List ResultVar → Option (List Value)
  | [] => some []
  | .tmp t :: r => match resX h l r with | some vs => some (FX.at_ l t :: vs) | none => none
  | .cell a t :: r => match loadX P h.cell t (FX.at_ l a), resX h l r with | some v, some vs => some (v :: vs) | _, _ => none
inductive XT where
  | code (f : FuncId) (c : Code) (l : FX) (h : XH)
  | call (f : FuncId) (args : List Value) (h : XH)
inductive XR where
  | code (e : Ex) (l : FX) (h : XH)
  | call (v : Value) (h : XH)
  | none (at_ : List Nat)
noncomputable def okF (f : Func) : Bool :=
  match f.name == "runtime.NumGoroutine", f.body with
  | false, some c => Nat.blt f.ntmps 512 && (assigned c).all fun d => Nat.blt d f.ntmps
  | _, _ => false
/-- Where it stopped: for whoever looks for it. -/
noncomputable def whyX (rec : XT → XR) (lo : List Oper) : List Oper → Nat → FX → XH → List Nat
  | [], _, _, _ => [777]
  | o :: r, i, l, h =>
    match wantX lo o l with
    | false => whyX rec lo r (i + 1) (putX l o.dst undef) h
    | true =>
      match stepX P E (fun g args h => match rec (.call g args h) with | .call v h' => some (v, h') | _ => none) o l h with
      | some (v, h') => whyX rec lo r (i + 1) (putX l o.dst v) h'
      | none =>
        i :: (match o.op with
        | .call c => match evsX h l c.args.toList, c.callee with
          | some vs, .value x => match evX h l x with | some (.func (.func f) a b) => (match rec (.call f (a.toList ++ vs ++ b.toList) h) with | .none l => 555 :: l | _ => [444]) | _ => [333]
          | _, _ => [222]
        | _ => [])
noncomputable def xstep (rec : XT → XR) : XT → XR
  | .call f args h =>
    match E.ext f with
    | some g => match g args h with | some (v, h') => .call v h' | none => .none [f]
    | none =>
      match P.funcs[f]? with
      | some fn =>
        match fn.body, okF fn && Nat.ble args.length fn.ntmps with
        | some c, true =>
          match rec (.code f c (argsX args 0 .e) h) with
          | .code (.exit _) _ _ => .none [f]
          | .code _ l h' => match resX P h' l fn.results.toList with | some vs => .call (oneV vs) h' | none => .none [f, 0]
          | .none l => .none ((1000 + f) :: l)
          | .call _ _ => .none [f]
        | _, _ => .none [f]
      | none => .none [f]
  | .code f c l h =>
    match c with
    | .skip => .code .normal l h
    | .label _ => .code .normal l h
    | .ret => .code .ret l h
    | .exit id => .code (.exit id) l h
    | .seq a b =>
      match rec (.code f a l h) with
      | .code .normal l1 h1 => rec (.code f b l1 h1)
      | r => r
    | .cond c a b =>
      match evX h l c with
      | some (.bool true) => rec (.code f a l h)
      | some (.bool false) => rec (.code f b l h)
      | _ => .none [f, 1]
    | .block id b =>
      match rec (.code f b l h) with
      | .code (.exit j) l1 h1 => match Nat.beq j id with | true => .code .normal l1 h1 | false => .code (.exit j) l1 h1
      | r => r
    | .loop b =>
      match rec (.code f b l h) with
      | .code .normal l1 h1 => rec (.code f (.loop b) l1 h1)
      | r => r
    | .region id ops d =>
      match (match d with
        | true => regX P E (fun g args h => match rec (.call g args h) with | .call v h' => some (v, h') | _ => none) f id ops l h
        | false => xSeq P E (fun g args h => match rec (.call g args h) with | .call v h' => some (v, h') | _ => none) ops.toList ops.toList l h) with
      | some (l1, h1) => .code .normal l1 h1
      | none => .none (f :: 2 :: id :: whyX P E rec ops.toList ops.toList 0 l h)
    | _ => .none [f, 3]
noncomputable def xrun : Nat → XT → XR
  | 0 => fun _ => .none []
  | n + 1 => fun t => xstep P E (fun u => xrun n u) t
end
end Go.Vc
