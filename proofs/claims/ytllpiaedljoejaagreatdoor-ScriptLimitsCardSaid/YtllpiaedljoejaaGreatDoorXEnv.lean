/- Closed runs: the functions that the machine takes whole, and the memory that it begins with. Conditions: none. -/
import Derived.Test.YtllpiaedljoejaaGreatDoorXSch
import Derived.Lib.Bytealg
import Derived.Lib.IndexMore
import Derived.Lib.ParseIntB
import Derived.Lib.Join
import Derived.Lib.Split
import Derived.Lib.ItoaNum
namespace Go.Proofs.YtllpiaedljoejaaGreatDoor
open Go.Vc Go.Lib
set_option linter.unusedSimpArgs false
set_option linter.unusedVariables false
set_option maxRecDepth 100000
noncomputable def decX : Nat → Nat → List UInt8
  | 0, _ => []
  | f + 1, u => match Nat.blt u 10 with | true => [UInt8.ofNat (48 + u)] | false => decX f (u / 10) ++ [UInt8.ofNat (48 + u % 10)]
noncomputable def itoaX : Int → Option (List UInt8)
  | .ofNat u => match Nat.blt u 1000000000000 with | true => some (decX 12 u) | false => none
  | .negSucc u => match Nat.blt u 1000000 with | true => some (45 :: decX 12 (u + 1)) | false => none
noncomputable def strsX : List Value → Option (List (List UInt8))
  | [] => some []
  | .string s :: r => match strsX r with | some l => some (s.data.toList :: l) | none => none
  | _ => none
noncomputable def bytesX : List Value → Option (List UInt8)
  | [] => some []
  | .int .u8 (.ofNat n) :: r => match Nat.blt n 256, bytesX r with | true, some bs => some (UInt8.ofNat n :: bs) | _, _ => none
  | _ => none
abbrev Ext := List Value → XH → Option (Value × XH)
noncomputable def xIndexByte : Ext := fun args h => match args with
  | [.string s, .int .u8 c] => some (.int .i64 (indexByte s.data.toList c.toNat.toUInt8), h)
  | _ => none
noncomputable def xItoa : Ext := fun args h => match args with
  | [.int .i64 n] => match itoaX n with | some l => some (.string ⟨l.toArray⟩, h) | none => none
  | _ => none
noncomputable def xCut : Ext := fun args h => match args with
  | [.string s, .string p] => match Nat.blt s.size 1000000, cut s.data.toList p.data.toList with
    | true, (a, b, c) => some (.tuple #[.string ⟨a.toArray⟩, .string ⟨b.toArray⟩, .bool c], h)
    | _, _ => none
  | _ => none
noncomputable def xCutPrefix : Ext := fun args h => match args with
  | [.string s, .string p] => some (.tuple #[.string ⟨(trimPrefix s.data.toList p.data.toList).toArray⟩, .bool (hasPrefix s.data.toList p.data.toList)], h)
  | _ => none
noncomputable def xTrimPrefix : Ext := fun args h => match args with
  | [.string s, .string p] => some (.string ⟨(trimPrefix s.data.toList p.data.toList).toArray⟩, h)
  | _ => none
noncomputable def xParseInt : Ext := fun args h => match args with
  | [.string s, .int .i64 10, .int .i64 64] => match Nat.blt s.size 1000000, parseIntB 64 s.data.toList with | true, .ok v => some (.tuple #[.int .i64 v, .nilIface], h) | _, _ => none
  | _ => none
noncomputable def xJoin : Ext := fun args h => match args with
  | [.slice none 0 0, .string p] => some (.string ByteArray.empty, h)
  | [.slice (some ⟨k, o, none⟩) n _, .string p] =>
    match rdN h.cell k n o with
    | some vs => match strsX vs with
      | some l => match Nat.blt (join l p.data.toList).length 1000000 && Nat.blt n 65536 with | true => some (.string ⟨(join l p.data.toList).toArray⟩, h) | false => none
      | none => none
    | none => none
  | _ => none
noncomputable def splitX (c : UInt8) : List UInt8 → List UInt8 → List (List UInt8)
  | [], acc => [acc.reverse]
  | b :: r, acc => match b == c with | true => acc.reverse :: splitX c r [] | false => splitX c r (b :: acc)
noncomputable def xSplit : Ext := fun args h => match args with
  | [.string s, .string p] =>
    match p.data.toList with
    | [c] =>
      match Nat.blt s.size 65000 with
      | true => newX h (.cells 9 1 ((splitX c s.data.toList []).map fun l => Value.string ⟨l.toArray⟩)) (fun k => .slice (some ⟨k, 0, none⟩) (splitX c s.data.toList []).length 0)
      | false => none
    | _ => none
  | _ => none
noncomputable def xCheck : Ext := fun args h => match args with
  | [.pointer (some ⟨k, 0, none⟩)] =>
    match h.get k with
    | some (.cells t 0 [.pointer none, v]) => match Nat.beq t 41, storeCX h k 0 [.pointer (some ⟨k, 0, none⟩)] with | true, some h' => some (.tuple #[], h') | _, _ => none
    | some (.cells t 0 [.pointer (some ⟨k', 0, none⟩), v]) => match Nat.beq k k' with | true => some (.tuple #[], h) | false => none
    | _ => none
  | _ => none
noncomputable def killT (t : T8 XO) : T8 XO := T8.rec (motive := fun _ => T8 XO) .e (fun _ => .l .dead) (fun _ _ _ _ _ _ _ _ i0 i1 i2 i3 i4 i5 i6 i7 => .n i0 i1 i2 i3 i4 i5 i6 i7) t
noncomputable def killX (h : XH) : XH := ⟨killT h.tr, h.nx⟩
/-- Is this a builder's first cell? -/
noncomputable def selfX (k : Nat) : Value → Bool
  | .pointer none => true
  | .pointer (some ⟨k', 0, none⟩) => Nat.beq k' k
  | _ => false
noncomputable def xString : Ext := fun args h => match args with
  | [.pointer (some ⟨k, 0, none⟩)] =>
    match h.get k with
    | some (.cells t 0 [p, .slice none 0 0]) => match Nat.beq t 41 && selfX k p && Nat.ble x0 k with | true => some (.string ByteArray.empty, killX h) | false => none
    | some (.cells t 0 [p, .slice (some ⟨g, 0, none⟩) n 0]) =>
      match h.get g with
      | some (.cells e 1 cs) => match bytesX cs, Nat.beq cs.length n && Nat.beq e 5 && Nat.beq t 41 && selfX k p && Nat.ble x0 k && Nat.ble x0 g with | some l, true => some (.string ⟨l.toArray⟩, killX h) | _, _ => none
      | _ => none
    | _ => none
  | _ => none
noncomputable def xAs : Ext := fun args h => match args with
  | [.nilIface, _] => some (.bool false, h)
  | [.iface t (.pointer (some ⟨e, 0, none⟩)), .iface u (.pointer (some ⟨k, 0, none⟩))] => match Nat.beq t 99 && Nat.beq u 124, storeCX h k 0 [.pointer (some ⟨e, 0, none⟩)] with | true, some h' => some (.bool true, h') | _, _ => none
  | _ => none
noncomputable def xIs : Ext := fun args h => match args with
  | [.iface t (.pointer (some ⟨e, 0, none⟩)), .iface u (.int .i64 n)] =>
    match Nat.beq t 99 && Nat.beq u 22, h.cell e 1 with
    | true, some (.int .i64 m) => match decide (m = n) with | true => some (.bool true, h) | false => none
    | _, _ => none
  | _ => none
noncomputable def extX : FuncId → Option Ext
  | 18 => some xIndexByte
  | 22 => some xItoa
  | 36 => some xCut
  | 85 => some xCutPrefix
  | 174 => some xTrimPrefix
  | 175 => some xParseInt
  | 62 => some xJoin
  | 20 => some xSplit
  | 33 => some xCheck
  | 16 => some xString
  | 55 => some xAs
  | 88 => some xIs
  | _ => none
noncomputable def okL : List Nat := [5, 8, 11, 12, 13, 14, 15, 16, 18, 20, 21, 22, 23, 24, 25, 26, 27, 28, 29, 30, 31, 32, 36, 37, 38, 40, 41, 42, 43, 44, 45, 46, 47, 48, 49, 50, 52, 54, 55, 56, 57, 58, 59, 60, 61, 62, 63, 64, 65, 66, 67, 68, 69, 71, 74, 75, 82, 83, 84, 85, 87, 88, 89, 90, 91, 92, 94, 99, 100, 101, 102, 107, 108, 110, 111, 112, 113, 115, 116, 117, 118, 119, 120, 121, 128, 129, 139, 140, 141, 142, 143, 144, 145, 146, 147, 148, 149, 150, 151, 152, 153, 154, 156, 161, 162, 163, 167, 174, 175, 178, 183, 184, 185, 186, 187, 188, 193, 196, 198, 199, 200, 201, 202, 210, 212, 213, 217, 218, 227, 228, 241, 250, 263, 264, 287, 302, 312, 314, 315, 349, 368]
noncomputable def okfX (f : FuncId) : Bool := okL.any (Nat.beq f)
noncomputable def envX : XE Tryz.prog where
  okf := okfX
  im := fun t m => match Nat.beq t 288, m == "Expire" with | true, true => some 368 | _, _ => none
  nm := fun t m => match Nat.beq t 288, m == "Expire" with | true, true => true | _, _ => false
  ext := extX
  sched := schedX
noncomputable def globX : List (Nat × XO) := [(2, .ro [.bool true, .bool true, .bool false]), (3, .ro [.bool true, .bool false, .bool true]), (4, .ro [.bool false, .bool false, .bool false]), (5, .ro [.bool true, .bool false, .bool false]),
  (9, .ro [.int .u32 4294967295, .int .u32 0, .int .u32 0])]
noncomputable def initX : XH := ⟨globX.foldl (fun t p => T8.set (.l p.2) 6 p.1 t) .e, 512⟩
end Go.Proofs.YtllpiaedljoejaaGreatDoor
