/-
  No cell of these rows narrows 'for every input' (looked for: loops, veiled, ifaces, maps, wideKeys, modest, calm, conditions, laid).
  DERIVED. THE GIVEN ROWS OF THIS SEAT. 9 by the template 'for every input the law returns true; each argument reads behind the call as it read before'; 0 by the template 'total and deterministic' (their statements: YtgkbokhmmoemfaaTotals.lean).
  GIVEN WITH THE SEED: the statements are not yours to turn. If you find one false, say at which input.
  Laid BY PROGRAM, IN A SANDBOX (cutbox-rows.mjs): the forced cells as the released guide's own fill.sh prints them over the translation 3323b26e1f5b5f77… (all of the seat's roots in one cut). By AI agents, Wed Nov 11 2026. No macro, syntax, notation, axiom, sorry.
-/
import Derived.Test.YtgkbokhmmoemfaaChecked
import GoSem.Claim
import GoSem.ClaimJoined
import GoSem.ClaimMapViews
import Derived.JoinedTies
import Derived.KernelRfl
namespace Go.Proofs.Ytgkbokhmmoemfaa
/- THE CELL 'sum', in the pinned program and in every row, IS THE sha256 OF THE DUMP (.gsa) THAT YtgkbokhmmoemfaaProg.lean LOADS. Nothing in Lean hashes anything: it is a label: what it is worth is what the hold of that sum in a sandbox is worth. -/
noncomputable def Try.pinned : Pinned := { name := "ytgkbokhmmoemfaa", sum := "3323b26e1f5b5f775b76b94340ba4fc17992f656f66de8ec8f8db8c3a89ec6d1", checked := Try.checked }
namespace Rows
def none {H : Type} : Left H := { results := [], args := [] }

/-- 'purlinlaw18.HealthPlays': WHATEVER THE INPUT: true; the input reads as it did. -/
def healthPlaysSpec : ChangeSpec := { name := "healthPlays", fn := fun _ => fun
  | [d1, d2, d3] => { results := [.lit (.bool true)], args := [d1, d2, d3] }
  | _ => none }
def healthPlaysRow : OpenClaim := { program := "ytgkbokhmmoemfaa", sum := "3323b26e1f5b5f775b76b94340ba4fc17992f656f66de8ec8f8db8c3a89ec6d1", func := "purlin/purlinlaw18.HealthPlays", spec := "healthPlays", unfollowed := true, recurses := true, apart := false }
def HealthPlaysSaid : Prop := healthPlaysRow.holds Try.pinned (OpenSpec.ofChange healthPlaysSpec)

/-- ITS FALSE NEIGHBOUR: 'it returns false'. Refute it at one input. -/
def healthPlaysWrong : ChangeSpec := { name := "healthPlays", fn := fun _ => fun
  | [d1, d2, d3] => { results := [.lit (.bool false)], args := [d1, d2, d3] }
  | _ => none }
def HealthPlaysWrongFalsely : Prop := healthPlaysRow.holds Try.pinned (OpenSpec.ofChange healthPlaysWrong)

/-- 'purlinlaw18.HealthActs': WHATEVER THE INPUT: true; the input reads as it did. -/
def healthActsSpec : ChangeSpec := { name := "healthActs", fn := fun _ => fun
  | [d1, d2] => { results := [.lit (.bool true)], args := [d1, d2] }
  | _ => none }
def healthActsRow : OpenClaim := { program := "ytgkbokhmmoemfaa", sum := "3323b26e1f5b5f775b76b94340ba4fc17992f656f66de8ec8f8db8c3a89ec6d1", func := "purlin/purlinlaw18.HealthActs", spec := "healthActs", unfollowed := true, recurses := true, apart := false }
def HealthActsSaid : Prop := healthActsRow.holds Try.pinned (OpenSpec.ofChange healthActsSpec)

/-- ITS FALSE NEIGHBOUR: 'it returns false'. Refute it at one input. -/
def healthActsWrong : ChangeSpec := { name := "healthActs", fn := fun _ => fun
  | [d1, d2] => { results := [.lit (.bool false)], args := [d1, d2] }
  | _ => none }
def HealthActsWrongFalsely : Prop := healthActsRow.holds Try.pinned (OpenSpec.ofChange healthActsWrong)

/-- 'purlinlaw18.HealthTogether': WHATEVER THE INPUT: true; the input reads as it did. -/
def healthTogetherSpec : ChangeSpec := { name := "healthTogether", fn := fun _ => fun
  | [d1, d2, d3] => { results := [.lit (.bool true)], args := [d1, d2, d3] }
  | _ => none }
def healthTogetherRow : OpenClaim := { program := "ytgkbokhmmoemfaa", sum := "3323b26e1f5b5f775b76b94340ba4fc17992f656f66de8ec8f8db8c3a89ec6d1", func := "purlin/purlinlaw18.HealthTogether", spec := "healthTogether", unfollowed := true, recurses := true, apart := false }
def HealthTogetherSaid : Prop := healthTogetherRow.holds Try.pinned (OpenSpec.ofChange healthTogetherSpec)

/-- ITS FALSE NEIGHBOUR: 'it returns false'. Refute it at one input. -/
def healthTogetherWrong : ChangeSpec := { name := "healthTogether", fn := fun _ => fun
  | [d1, d2, d3] => { results := [.lit (.bool false)], args := [d1, d2, d3] }
  | _ => none }
def HealthTogetherWrongFalsely : Prop := healthTogetherRow.holds Try.pinned (OpenSpec.ofChange healthTogetherWrong)

/-- 'purlinlaw18.HealthLast': WHATEVER THE INPUT: true; the input reads as it did. -/
def healthLastSpec : ChangeSpec := { name := "healthLast", fn := fun _ => fun
  | [d1, d2, d3] => { results := [.lit (.bool true)], args := [d1, d2, d3] }
  | _ => none }
def healthLastRow : OpenClaim := { program := "ytgkbokhmmoemfaa", sum := "3323b26e1f5b5f775b76b94340ba4fc17992f656f66de8ec8f8db8c3a89ec6d1", func := "purlin/purlinlaw18.HealthLast", spec := "healthLast", unfollowed := true, recurses := true, apart := false }
def HealthLastSaid : Prop := healthLastRow.holds Try.pinned (OpenSpec.ofChange healthLastSpec)

/-- ITS FALSE NEIGHBOUR: 'it returns false'. Refute it at one input. -/
def healthLastWrong : ChangeSpec := { name := "healthLast", fn := fun _ => fun
  | [d1, d2, d3] => { results := [.lit (.bool false)], args := [d1, d2, d3] }
  | _ => none }
def HealthLastWrongFalsely : Prop := healthLastRow.holds Try.pinned (OpenSpec.ofChange healthLastWrong)

/-- 'purlinlaw14.LineOrder': WHATEVER THE INPUT: true; the input reads as it did. -/
def lineOrderSpec : ChangeSpec := { name := "lineOrder", fn := fun _ => fun
  | [d] => { results := [.lit (.bool true)], args := [d] }
  | _ => none }
def lineOrderRow : OpenClaim := { program := "ytgkbokhmmoemfaa", sum := "3323b26e1f5b5f775b76b94340ba4fc17992f656f66de8ec8f8db8c3a89ec6d1", func := "purlin/purlinlaw14.LineOrder", spec := "lineOrder", unfollowed := true, recurses := true, apart := false }
def LineOrderSaid : Prop := lineOrderRow.holds Try.pinned (OpenSpec.ofChange lineOrderSpec)

/-- ITS FALSE NEIGHBOUR: 'it returns false'. Refute it at one input. -/
def lineOrderWrong : ChangeSpec := { name := "lineOrder", fn := fun _ => fun
  | [d] => { results := [.lit (.bool false)], args := [d] }
  | _ => none }
def LineOrderWrongFalsely : Prop := lineOrderRow.holds Try.pinned (OpenSpec.ofChange lineOrderWrong)

/-- 'purlinlaw14.LineExpires': WHATEVER THE INPUT: true; the input reads as it did. -/
def lineExpiresSpec : ChangeSpec := { name := "lineExpires", fn := fun _ => fun
  | [d1, d2] => { results := [.lit (.bool true)], args := [d1, d2] }
  | _ => none }
def lineExpiresRow : OpenClaim := { program := "ytgkbokhmmoemfaa", sum := "3323b26e1f5b5f775b76b94340ba4fc17992f656f66de8ec8f8db8c3a89ec6d1", func := "purlin/purlinlaw14.LineExpires", spec := "lineExpires", unfollowed := true, recurses := true, apart := false }
def LineExpiresSaid : Prop := lineExpiresRow.holds Try.pinned (OpenSpec.ofChange lineExpiresSpec)

/-- ITS FALSE NEIGHBOUR: 'it returns false'. Refute it at one input. -/
def lineExpiresWrong : ChangeSpec := { name := "lineExpires", fn := fun _ => fun
  | [d1, d2] => { results := [.lit (.bool false)], args := [d1, d2] }
  | _ => none }
def LineExpiresWrongFalsely : Prop := lineExpiresRow.holds Try.pinned (OpenSpec.ofChange lineExpiresWrong)

/-- 'purlinlaw14.LinePlays': WHATEVER THE INPUT: true; the input reads as it did. -/
def linePlaysSpec : ChangeSpec := { name := "linePlays", fn := fun _ => fun
  | [d] => { results := [.lit (.bool true)], args := [d] }
  | _ => none }
def linePlaysRow : OpenClaim := { program := "ytgkbokhmmoemfaa", sum := "3323b26e1f5b5f775b76b94340ba4fc17992f656f66de8ec8f8db8c3a89ec6d1", func := "purlin/purlinlaw14.LinePlays", spec := "linePlays", unfollowed := true, recurses := true, apart := false }
def LinePlaysSaid : Prop := linePlaysRow.holds Try.pinned (OpenSpec.ofChange linePlaysSpec)

/-- ITS FALSE NEIGHBOUR: 'it returns false'. Refute it at one input. -/
def linePlaysWrong : ChangeSpec := { name := "linePlays", fn := fun _ => fun
  | [d] => { results := [.lit (.bool false)], args := [d] }
  | _ => none }
def LinePlaysWrongFalsely : Prop := linePlaysRow.holds Try.pinned (OpenSpec.ofChange linePlaysWrong)

/-- 'purlinlaw14.LineTakes': WHATEVER THE INPUT: true; the input reads as it did. -/
def lineTakesSpec : ChangeSpec := { name := "lineTakes", fn := fun _ => fun
  | [d] => { results := [.lit (.bool true)], args := [d] }
  | _ => none }
def lineTakesRow : OpenClaim := { program := "ytgkbokhmmoemfaa", sum := "3323b26e1f5b5f775b76b94340ba4fc17992f656f66de8ec8f8db8c3a89ec6d1", func := "purlin/purlinlaw14.LineTakes", spec := "lineTakes", unfollowed := true, recurses := true, apart := false }
def LineTakesSaid : Prop := lineTakesRow.holds Try.pinned (OpenSpec.ofChange lineTakesSpec)

/-- ITS FALSE NEIGHBOUR: 'it returns false'. Refute it at one input. -/
def lineTakesWrong : ChangeSpec := { name := "lineTakes", fn := fun _ => fun
  | [d] => { results := [.lit (.bool false)], args := [d] }
  | _ => none }
def LineTakesWrongFalsely : Prop := lineTakesRow.holds Try.pinned (OpenSpec.ofChange lineTakesWrong)

/-- 'purlinlaw14.LineDrops': WHATEVER THE INPUT: true; the input reads as it did. -/
def lineDropsSpec : ChangeSpec := { name := "lineDrops", fn := fun _ => fun
  | [d1, d2] => { results := [.lit (.bool true)], args := [d1, d2] }
  | _ => none }
def lineDropsRow : OpenClaim := { program := "ytgkbokhmmoemfaa", sum := "3323b26e1f5b5f775b76b94340ba4fc17992f656f66de8ec8f8db8c3a89ec6d1", func := "purlin/purlinlaw14.LineDrops", spec := "lineDrops", unfollowed := true, recurses := true, apart := false }
def LineDropsSaid : Prop := lineDropsRow.holds Try.pinned (OpenSpec.ofChange lineDropsSpec)

/-- ITS FALSE NEIGHBOUR: 'it returns false'. Refute it at one input. -/
def lineDropsWrong : ChangeSpec := { name := "lineDrops", fn := fun _ => fun
  | [d1, d2] => { results := [.lit (.bool false)], args := [d1, d2] }
  | _ => none }
def LineDropsWrongFalsely : Prop := lineDropsRow.holds Try.pinned (OpenSpec.ofChange lineDropsWrong)

/- THE SECOND FORM. 'bulk': how many values and letters a reading holds, each counted each time it is reached (what is shared counts as often as it is met; a slice's spare places count too). A statement '..UptoSaid' is the law's where the arguments, and the package variables that the reading takes, are together of bulk at most 1048576: NARROWER than '..Said'. Prove '..Said' where nothing that the law and all that it calls make is longer than what came in: it says more and counts as full. Else prove '..UptoSaid'. A law counts once. -/
mutual
def uptoBulk {H : Type} : DataW H → Nat
  | .lit (.string bytes) => bytes.length + 1
  | .lit _ => 1
  | .nil => 1
  | .ptr d => uptoBulk d + 1
  | .slice elems spare => uptoBulkAll elems + uptoBulkAll spare + 1
  | .agg parts => uptoBulkAll parts + 1
  | .iface _ d => uptoBulk d + 1
  | .map entries => uptoBulkEntries entries + 1
  | .held _ => 1
def uptoBulkAll {H : Type} : List (DataW H) → Nat
  | [] => 0
  | d :: r => uptoBulk d + uptoBulkAll r
def uptoBulkEntries {H : Type} : List (Lit × DataW H) → Nat
  | [] => 0
  | x :: r => uptoBulkEntry x + uptoBulkEntries r
def uptoBulkEntry {H : Type} : Lit × DataW H → Nat
  | (.string bytes, d) => bytes.length + uptoBulk d + 1
  | (_, d) => uptoBulk d + 1
 end
def uptoSmall : (H : Type) → List (DataW H) → Bool := fun _ ds => decide (uptoBulkAll ds ≤ 1048576)
def OpenSpec.upto (s : _root_.Go.ChangeSpec) : _root_.Go.OpenSpec := { _root_.Go.OpenSpec.ofChange s with cond := some uptoSmall }

/-- 'purlinlaw18.HealthPlays', WHERE WHAT IT READS IS OF BULK AT MOST 1048576: true; the input reads as it did. -/
def healthPlaysUptoRow : OpenClaim := { program := "ytgkbokhmmoemfaa", sum := "3323b26e1f5b5f775b76b94340ba4fc17992f656f66de8ec8f8db8c3a89ec6d1", func := "purlin/purlinlaw18.HealthPlays", spec := "healthPlays", unfollowed := true, recurses := true, apart := false, narrowed := true }
def HealthPlaysUptoSaid : Prop := healthPlaysUptoRow.holds Try.pinned (OpenSpec.upto healthPlaysSpec)

/-- 'purlinlaw18.HealthActs', WHERE WHAT IT READS IS OF BULK AT MOST 1048576: true; the input reads as it did. -/
def healthActsUptoRow : OpenClaim := { program := "ytgkbokhmmoemfaa", sum := "3323b26e1f5b5f775b76b94340ba4fc17992f656f66de8ec8f8db8c3a89ec6d1", func := "purlin/purlinlaw18.HealthActs", spec := "healthActs", unfollowed := true, recurses := true, apart := false, narrowed := true }
def HealthActsUptoSaid : Prop := healthActsUptoRow.holds Try.pinned (OpenSpec.upto healthActsSpec)

/-- 'purlinlaw18.HealthTogether', WHERE WHAT IT READS IS OF BULK AT MOST 1048576: true; the input reads as it did. -/
def healthTogetherUptoRow : OpenClaim := { program := "ytgkbokhmmoemfaa", sum := "3323b26e1f5b5f775b76b94340ba4fc17992f656f66de8ec8f8db8c3a89ec6d1", func := "purlin/purlinlaw18.HealthTogether", spec := "healthTogether", unfollowed := true, recurses := true, apart := false, narrowed := true }
def HealthTogetherUptoSaid : Prop := healthTogetherUptoRow.holds Try.pinned (OpenSpec.upto healthTogetherSpec)

/-- 'purlinlaw18.HealthLast', WHERE WHAT IT READS IS OF BULK AT MOST 1048576: true; the input reads as it did. -/
def healthLastUptoRow : OpenClaim := { program := "ytgkbokhmmoemfaa", sum := "3323b26e1f5b5f775b76b94340ba4fc17992f656f66de8ec8f8db8c3a89ec6d1", func := "purlin/purlinlaw18.HealthLast", spec := "healthLast", unfollowed := true, recurses := true, apart := false, narrowed := true }
def HealthLastUptoSaid : Prop := healthLastUptoRow.holds Try.pinned (OpenSpec.upto healthLastSpec)

/-- 'purlinlaw14.LineOrder', WHERE WHAT IT READS IS OF BULK AT MOST 1048576: true; the input reads as it did. -/
def lineOrderUptoRow : OpenClaim := { program := "ytgkbokhmmoemfaa", sum := "3323b26e1f5b5f775b76b94340ba4fc17992f656f66de8ec8f8db8c3a89ec6d1", func := "purlin/purlinlaw14.LineOrder", spec := "lineOrder", unfollowed := true, recurses := true, apart := false, narrowed := true }
def LineOrderUptoSaid : Prop := lineOrderUptoRow.holds Try.pinned (OpenSpec.upto lineOrderSpec)

/-- 'purlinlaw14.LineExpires', WHERE WHAT IT READS IS OF BULK AT MOST 1048576: true; the input reads as it did. -/
def lineExpiresUptoRow : OpenClaim := { program := "ytgkbokhmmoemfaa", sum := "3323b26e1f5b5f775b76b94340ba4fc17992f656f66de8ec8f8db8c3a89ec6d1", func := "purlin/purlinlaw14.LineExpires", spec := "lineExpires", unfollowed := true, recurses := true, apart := false, narrowed := true }
def LineExpiresUptoSaid : Prop := lineExpiresUptoRow.holds Try.pinned (OpenSpec.upto lineExpiresSpec)

/-- 'purlinlaw14.LinePlays', WHERE WHAT IT READS IS OF BULK AT MOST 1048576: true; the input reads as it did. -/
def linePlaysUptoRow : OpenClaim := { program := "ytgkbokhmmoemfaa", sum := "3323b26e1f5b5f775b76b94340ba4fc17992f656f66de8ec8f8db8c3a89ec6d1", func := "purlin/purlinlaw14.LinePlays", spec := "linePlays", unfollowed := true, recurses := true, apart := false, narrowed := true }
def LinePlaysUptoSaid : Prop := linePlaysUptoRow.holds Try.pinned (OpenSpec.upto linePlaysSpec)

/-- 'purlinlaw14.LineTakes', WHERE WHAT IT READS IS OF BULK AT MOST 1048576: true; the input reads as it did. -/
def lineTakesUptoRow : OpenClaim := { program := "ytgkbokhmmoemfaa", sum := "3323b26e1f5b5f775b76b94340ba4fc17992f656f66de8ec8f8db8c3a89ec6d1", func := "purlin/purlinlaw14.LineTakes", spec := "lineTakes", unfollowed := true, recurses := true, apart := false, narrowed := true }
def LineTakesUptoSaid : Prop := lineTakesUptoRow.holds Try.pinned (OpenSpec.upto lineTakesSpec)

/-- 'purlinlaw14.LineDrops', WHERE WHAT IT READS IS OF BULK AT MOST 1048576: true; the input reads as it did. -/
def lineDropsUptoRow : OpenClaim := { program := "ytgkbokhmmoemfaa", sum := "3323b26e1f5b5f775b76b94340ba4fc17992f656f66de8ec8f8db8c3a89ec6d1", func := "purlin/purlinlaw14.LineDrops", spec := "lineDrops", unfollowed := true, recurses := true, apart := false, narrowed := true }
def LineDropsUptoSaid : Prop := lineDropsUptoRow.holds Try.pinned (OpenSpec.upto lineDropsSpec)

end Rows
end Go.Proofs.Ytgkbokhmmoemfaa
