/-
  No cell of these rows narrows 'for every input' (looked for: loops, veiled, ifaces, maps, wideKeys, modest, calm, conditions, laid).
  DERIVED. THE GIVEN ROWS OF THIS SEAT. 13 by the template 'for every input the law returns true; each argument reads behind the call as it read before'; 0 by the template 'total and deterministic' (their statements: YtecacohkkdhphaaTotals.lean).
  GIVEN WITH THE SEED: the statements are not yours to turn. If you find one false, say at which input.
  Laid BY PROGRAM, IN A SANDBOX (cutbox-rows.mjs): the forced cells as the released guide's own fill.sh prints them over the translation b789dd70579d0bb1… (all of the seat's roots in one cut). By AI agents, Wed Nov 11 2026. No macro, syntax, notation, axiom, sorry.
-/
import Derived.Test.YtecacohkkdhphaaChecked
import GoSem.Claim
import GoSem.ClaimJoined
import GoSem.ClaimMapViews
import Derived.JoinedTies
import Derived.KernelRfl
namespace Go.Proofs.Ytecacohkkdhphaa
/- THE CELL 'sum', in the pinned program and in every row, IS THE sha256 OF THE DUMP (.gsa) THAT YtecacohkkdhphaaProg.lean LOADS. Nothing in Lean hashes anything: it is a label: what it is worth is what the hold of that sum in a sandbox is worth. -/
noncomputable def Try.pinned : Pinned := { name := "ytecacohkkdhphaa", sum := "b789dd70579d0bb144cf48d29115598c5d0ca17fa5dc54ed75aeaf4faf04d2c8", checked := Try.checked }
namespace Rows
def none {H : Type} : Left H := { results := [], args := [] }

/-- 'purlinlaw16.EventAll': WHATEVER THE INPUT: true; the input reads as it did. -/
def eventAllSpec : ChangeSpec := { name := "eventAll", fn := fun _ => fun
  | [d] => { results := [.lit (.bool true)], args := [d] }
  | _ => none }
def eventAllRow : OpenClaim := { program := "ytecacohkkdhphaa", sum := "b789dd70579d0bb144cf48d29115598c5d0ca17fa5dc54ed75aeaf4faf04d2c8", func := "purlin/purlinlaw16.EventAll", spec := "eventAll", unfollowed := true, recurses := true, apart := false }
def EventAllSaid : Prop := eventAllRow.holds Try.pinned (OpenSpec.ofChange eventAllSpec)

/-- ITS FALSE NEIGHBOUR: 'it returns false'. Refute it at one input. -/
def eventAllWrong : ChangeSpec := { name := "eventAll", fn := fun _ => fun
  | [d] => { results := [.lit (.bool false)], args := [d] }
  | _ => none }
def EventAllWrongFalsely : Prop := eventAllRow.holds Try.pinned (OpenSpec.ofChange eventAllWrong)

/-- 'purlinlaw17.ProcPlays': WHATEVER THE INPUT: true; the input reads as it did. -/
def procPlaysSpec : ChangeSpec := { name := "procPlays", fn := fun _ => fun
  | [d1, d2] => { results := [.lit (.bool true)], args := [d1, d2] }
  | _ => none }
def procPlaysRow : OpenClaim := { program := "ytecacohkkdhphaa", sum := "b789dd70579d0bb144cf48d29115598c5d0ca17fa5dc54ed75aeaf4faf04d2c8", func := "purlin/purlinlaw17.ProcPlays", spec := "procPlays", unfollowed := true, recurses := true, apart := false }
def ProcPlaysSaid : Prop := procPlaysRow.holds Try.pinned (OpenSpec.ofChange procPlaysSpec)

/-- ITS FALSE NEIGHBOUR: 'it returns false'. Refute it at one input. -/
def procPlaysWrong : ChangeSpec := { name := "procPlays", fn := fun _ => fun
  | [d1, d2] => { results := [.lit (.bool false)], args := [d1, d2] }
  | _ => none }
def ProcPlaysWrongFalsely : Prop := procPlaysRow.holds Try.pinned (OpenSpec.ofChange procPlaysWrong)

/-- 'purlinlaw17.ProcRuns': WHATEVER THE INPUT: true; the input reads as it did. -/
def procRunsSpec : ChangeSpec := { name := "procRuns", fn := fun _ => fun
  | [d1, d2] => { results := [.lit (.bool true)], args := [d1, d2] }
  | _ => none }
def procRunsRow : OpenClaim := { program := "ytecacohkkdhphaa", sum := "b789dd70579d0bb144cf48d29115598c5d0ca17fa5dc54ed75aeaf4faf04d2c8", func := "purlin/purlinlaw17.ProcRuns", spec := "procRuns", unfollowed := true, recurses := true, apart := false }
def ProcRunsSaid : Prop := procRunsRow.holds Try.pinned (OpenSpec.ofChange procRunsSpec)

/-- ITS FALSE NEIGHBOUR: 'it returns false'. Refute it at one input. -/
def procRunsWrong : ChangeSpec := { name := "procRuns", fn := fun _ => fun
  | [d1, d2] => { results := [.lit (.bool false)], args := [d1, d2] }
  | _ => none }
def ProcRunsWrongFalsely : Prop := procRunsRow.holds Try.pinned (OpenSpec.ofChange procRunsWrong)

/-- 'purlinlaw17.ProcTurns': WHATEVER THE INPUT: true; the input reads as it did. -/
def procTurnsSpec : ChangeSpec := { name := "procTurns", fn := fun _ => fun
  | [d1, d2] => { results := [.lit (.bool true)], args := [d1, d2] }
  | _ => none }
def procTurnsRow : OpenClaim := { program := "ytecacohkkdhphaa", sum := "b789dd70579d0bb144cf48d29115598c5d0ca17fa5dc54ed75aeaf4faf04d2c8", func := "purlin/purlinlaw17.ProcTurns", spec := "procTurns", unfollowed := true, recurses := true, apart := false }
def ProcTurnsSaid : Prop := procTurnsRow.holds Try.pinned (OpenSpec.ofChange procTurnsSpec)

/-- ITS FALSE NEIGHBOUR: 'it returns false'. Refute it at one input. -/
def procTurnsWrong : ChangeSpec := { name := "procTurns", fn := fun _ => fun
  | [d1, d2] => { results := [.lit (.bool false)], args := [d1, d2] }
  | _ => none }
def ProcTurnsWrongFalsely : Prop := procTurnsRow.holds Try.pinned (OpenSpec.ofChange procTurnsWrong)

/-- 'purlinlaw17.ProcApart': WHATEVER THE INPUT: true; the input reads as it did. -/
def procApartSpec : ChangeSpec := { name := "procApart", fn := fun _ => fun
  | [d1, d2, d3] => { results := [.lit (.bool true)], args := [d1, d2, d3] }
  | _ => none }
def procApartRow : OpenClaim := { program := "ytecacohkkdhphaa", sum := "b789dd70579d0bb144cf48d29115598c5d0ca17fa5dc54ed75aeaf4faf04d2c8", func := "purlin/purlinlaw17.ProcApart", spec := "procApart", unfollowed := true, recurses := true, apart := false }
def ProcApartSaid : Prop := procApartRow.holds Try.pinned (OpenSpec.ofChange procApartSpec)

/-- ITS FALSE NEIGHBOUR: 'it returns false'. Refute it at one input. -/
def procApartWrong : ChangeSpec := { name := "procApart", fn := fun _ => fun
  | [d1, d2, d3] => { results := [.lit (.bool false)], args := [d1, d2, d3] }
  | _ => none }
def ProcApartWrongFalsely : Prop := procApartRow.holds Try.pinned (OpenSpec.ofChange procApartWrong)

/-- 'purlinlaw17.ProcAnew': WHATEVER THE INPUT: true; the input reads as it did. -/
def procAnewSpec : ChangeSpec := { name := "procAnew", fn := fun _ => fun
  | [d1, d2, d3] => { results := [.lit (.bool true)], args := [d1, d2, d3] }
  | _ => none }
def procAnewRow : OpenClaim := { program := "ytecacohkkdhphaa", sum := "b789dd70579d0bb144cf48d29115598c5d0ca17fa5dc54ed75aeaf4faf04d2c8", func := "purlin/purlinlaw17.ProcAnew", spec := "procAnew", unfollowed := true, recurses := true, apart := false }
def ProcAnewSaid : Prop := procAnewRow.holds Try.pinned (OpenSpec.ofChange procAnewSpec)

/-- ITS FALSE NEIGHBOUR: 'it returns false'. Refute it at one input. -/
def procAnewWrong : ChangeSpec := { name := "procAnew", fn := fun _ => fun
  | [d1, d2, d3] => { results := [.lit (.bool false)], args := [d1, d2, d3] }
  | _ => none }
def ProcAnewWrongFalsely : Prop := procAnewRow.holds Try.pinned (OpenSpec.ofChange procAnewWrong)

/-- 'purlinlaw15.SemaOrder': WHATEVER THE INPUT: true; the input reads as it did. -/
def semaOrderSpec : ChangeSpec := { name := "semaOrder", fn := fun _ => fun
  | [d1, d2] => { results := [.lit (.bool true)], args := [d1, d2] }
  | _ => none }
def semaOrderRow : OpenClaim := { program := "ytecacohkkdhphaa", sum := "b789dd70579d0bb144cf48d29115598c5d0ca17fa5dc54ed75aeaf4faf04d2c8", func := "purlin/purlinlaw15.SemaOrder", spec := "semaOrder", unfollowed := true, recurses := true, apart := false }
def SemaOrderSaid : Prop := semaOrderRow.holds Try.pinned (OpenSpec.ofChange semaOrderSpec)

/-- ITS FALSE NEIGHBOUR: 'it returns false'. Refute it at one input. -/
def semaOrderWrong : ChangeSpec := { name := "semaOrder", fn := fun _ => fun
  | [d1, d2] => { results := [.lit (.bool false)], args := [d1, d2] }
  | _ => none }
def SemaOrderWrongFalsely : Prop := semaOrderRow.holds Try.pinned (OpenSpec.ofChange semaOrderWrong)

/-- 'purlinlaw16.EventPlays': WHATEVER THE INPUT: true; the input reads as it did. -/
def eventPlaysSpec : ChangeSpec := { name := "eventPlays", fn := fun _ => fun
  | [d1, d2] => { results := [.lit (.bool true)], args := [d1, d2] }
  | _ => none }
def eventPlaysRow : OpenClaim := { program := "ytecacohkkdhphaa", sum := "b789dd70579d0bb144cf48d29115598c5d0ca17fa5dc54ed75aeaf4faf04d2c8", func := "purlin/purlinlaw16.EventPlays", spec := "eventPlays", unfollowed := true, recurses := true, apart := false }
def EventPlaysSaid : Prop := eventPlaysRow.holds Try.pinned (OpenSpec.ofChange eventPlaysSpec)

/-- ITS FALSE NEIGHBOUR: 'it returns false'. Refute it at one input. -/
def eventPlaysWrong : ChangeSpec := { name := "eventPlays", fn := fun _ => fun
  | [d1, d2] => { results := [.lit (.bool false)], args := [d1, d2] }
  | _ => none }
def EventPlaysWrongFalsely : Prop := eventPlaysRow.holds Try.pinned (OpenSpec.ofChange eventPlaysWrong)

/-- 'purlinlaw16.EventUp': WHATEVER THE INPUT: true; the input reads as it did. -/
def eventUpSpec : ChangeSpec := { name := "eventUp", fn := fun _ => fun
  | [d1, d2] => { results := [.lit (.bool true)], args := [d1, d2] }
  | _ => none }
def eventUpRow : OpenClaim := { program := "ytecacohkkdhphaa", sum := "b789dd70579d0bb144cf48d29115598c5d0ca17fa5dc54ed75aeaf4faf04d2c8", func := "purlin/purlinlaw16.EventUp", spec := "eventUp", unfollowed := true, recurses := true, apart := false }
def EventUpSaid : Prop := eventUpRow.holds Try.pinned (OpenSpec.ofChange eventUpSpec)

/-- ITS FALSE NEIGHBOUR: 'it returns false'. Refute it at one input. -/
def eventUpWrong : ChangeSpec := { name := "eventUp", fn := fun _ => fun
  | [d1, d2] => { results := [.lit (.bool false)], args := [d1, d2] }
  | _ => none }
def EventUpWrongFalsely : Prop := eventUpRow.holds Try.pinned (OpenSpec.ofChange eventUpWrong)

/-- 'purlinlaw16.EventOnce': WHATEVER THE INPUT: true; the input reads as it did. -/
def eventOnceSpec : ChangeSpec := { name := "eventOnce", fn := fun _ => fun
  | [d] => { results := [.lit (.bool true)], args := [d] }
  | _ => none }
def eventOnceRow : OpenClaim := { program := "ytecacohkkdhphaa", sum := "b789dd70579d0bb144cf48d29115598c5d0ca17fa5dc54ed75aeaf4faf04d2c8", func := "purlin/purlinlaw16.EventOnce", spec := "eventOnce", unfollowed := true, recurses := true, apart := false }
def EventOnceSaid : Prop := eventOnceRow.holds Try.pinned (OpenSpec.ofChange eventOnceSpec)

/-- ITS FALSE NEIGHBOUR: 'it returns false'. Refute it at one input. -/
def eventOnceWrong : ChangeSpec := { name := "eventOnce", fn := fun _ => fun
  | [d] => { results := [.lit (.bool false)], args := [d] }
  | _ => none }
def EventOnceWrongFalsely : Prop := eventOnceRow.holds Try.pinned (OpenSpec.ofChange eventOnceWrong)

/-- 'purlinlaw15.SemaPlays': WHATEVER THE INPUT: true; the input reads as it did. -/
def semaPlaysSpec : ChangeSpec := { name := "semaPlays", fn := fun _ => fun
  | [d1, d2, d3] => { results := [.lit (.bool true)], args := [d1, d2, d3] }
  | _ => none }
def semaPlaysRow : OpenClaim := { program := "ytecacohkkdhphaa", sum := "b789dd70579d0bb144cf48d29115598c5d0ca17fa5dc54ed75aeaf4faf04d2c8", func := "purlin/purlinlaw15.SemaPlays", spec := "semaPlays", unfollowed := true, recurses := true, apart := false }
def SemaPlaysSaid : Prop := semaPlaysRow.holds Try.pinned (OpenSpec.ofChange semaPlaysSpec)

/-- ITS FALSE NEIGHBOUR: 'it returns false'. Refute it at one input. -/
def semaPlaysWrong : ChangeSpec := { name := "semaPlays", fn := fun _ => fun
  | [d1, d2, d3] => { results := [.lit (.bool false)], args := [d1, d2, d3] }
  | _ => none }
def SemaPlaysWrongFalsely : Prop := semaPlaysRow.holds Try.pinned (OpenSpec.ofChange semaPlaysWrong)

/-- 'purlinlaw15.SemaSums': WHATEVER THE INPUT: true; the input reads as it did. -/
def semaSumsSpec : ChangeSpec := { name := "semaSums", fn := fun _ => fun
  | [d1, d2, d3] => { results := [.lit (.bool true)], args := [d1, d2, d3] }
  | _ => none }
def semaSumsRow : OpenClaim := { program := "ytecacohkkdhphaa", sum := "b789dd70579d0bb144cf48d29115598c5d0ca17fa5dc54ed75aeaf4faf04d2c8", func := "purlin/purlinlaw15.SemaSums", spec := "semaSums", unfollowed := true, recurses := true, apart := false }
def SemaSumsSaid : Prop := semaSumsRow.holds Try.pinned (OpenSpec.ofChange semaSumsSpec)

/-- ITS FALSE NEIGHBOUR: 'it returns false'. Refute it at one input. -/
def semaSumsWrong : ChangeSpec := { name := "semaSums", fn := fun _ => fun
  | [d1, d2, d3] => { results := [.lit (.bool false)], args := [d1, d2, d3] }
  | _ => none }
def SemaSumsWrongFalsely : Prop := semaSumsRow.holds Try.pinned (OpenSpec.ofChange semaSumsWrong)

/-- 'purlinlaw15.SemaLess': WHATEVER THE INPUT: true; the input reads as it did. -/
def semaLessSpec : ChangeSpec := { name := "semaLess", fn := fun _ => fun
  | [d1, d2, d3] => { results := [.lit (.bool true)], args := [d1, d2, d3] }
  | _ => none }
def semaLessRow : OpenClaim := { program := "ytecacohkkdhphaa", sum := "b789dd70579d0bb144cf48d29115598c5d0ca17fa5dc54ed75aeaf4faf04d2c8", func := "purlin/purlinlaw15.SemaLess", spec := "semaLess", unfollowed := true, recurses := true, apart := false }
def SemaLessSaid : Prop := semaLessRow.holds Try.pinned (OpenSpec.ofChange semaLessSpec)

/-- ITS FALSE NEIGHBOUR: 'it returns false'. Refute it at one input. -/
def semaLessWrong : ChangeSpec := { name := "semaLess", fn := fun _ => fun
  | [d1, d2, d3] => { results := [.lit (.bool false)], args := [d1, d2, d3] }
  | _ => none }
def SemaLessWrongFalsely : Prop := semaLessRow.holds Try.pinned (OpenSpec.ofChange semaLessWrong)

/- THE SECOND FORM. 'bulk': how many values and letters a reading holds, each counted each time it is reached (what is shared counts as often as it is met; a slice's spare places count too). A statement '..UptoSaid' is the law's where the arguments, and the package variables that the reading takes, are together of bulk at most 1048576: NARROWER than '..Said'. Prove '..Said' where nothing that the law and all that it calls make is longer than what came in: it says more and counts as full. Else prove '..UptoSaid'. A law counts once. -/
mutual
def uptoBulk {H : Type} : DataW H → Nat
  | .lit (.string bytes) => bytes.length + 1
  | .lit _ => 1
  | .nil => 1
  | .ptr d => uptoBulk d + 1
  | .slice elems spare => uptoBulkAll elems + uptoBulkAll spare + 1
  | .agg parts => uptoBulkAll parts + 1
  | .iface _ d => uptoBulk d + 1
  | .map entries => uptoBulkEntries entries + 1
  | .held _ => 1
def uptoBulkAll {H : Type} : List (DataW H) → Nat
  | [] => 0
  | d :: r => uptoBulk d + uptoBulkAll r
def uptoBulkEntries {H : Type} : List (Lit × DataW H) → Nat
  | [] => 0
  | x :: r => uptoBulkEntry x + uptoBulkEntries r
def uptoBulkEntry {H : Type} : Lit × DataW H → Nat
  | (.string bytes, d) => bytes.length + uptoBulk d + 1
  | (_, d) => uptoBulk d + 1
 end
def uptoSmall : (H : Type) → List (DataW H) → Bool := fun _ ds => decide (uptoBulkAll ds ≤ 1048576)
def OpenSpec.upto (s : _root_.Go.ChangeSpec) : _root_.Go.OpenSpec := { _root_.Go.OpenSpec.ofChange s with cond := some uptoSmall }

/-- 'purlinlaw16.EventAll', WHERE WHAT IT READS IS OF BULK AT MOST 1048576: true; the input reads as it did. -/
def eventAllUptoRow : OpenClaim := { program := "ytecacohkkdhphaa", sum := "b789dd70579d0bb144cf48d29115598c5d0ca17fa5dc54ed75aeaf4faf04d2c8", func := "purlin/purlinlaw16.EventAll", spec := "eventAll", unfollowed := true, recurses := true, apart := false, narrowed := true }
def EventAllUptoSaid : Prop := eventAllUptoRow.holds Try.pinned (OpenSpec.upto eventAllSpec)

/-- 'purlinlaw17.ProcPlays', WHERE WHAT IT READS IS OF BULK AT MOST 1048576: true; the input reads as it did. -/
def procPlaysUptoRow : OpenClaim := { program := "ytecacohkkdhphaa", sum := "b789dd70579d0bb144cf48d29115598c5d0ca17fa5dc54ed75aeaf4faf04d2c8", func := "purlin/purlinlaw17.ProcPlays", spec := "procPlays", unfollowed := true, recurses := true, apart := false, narrowed := true }
def ProcPlaysUptoSaid : Prop := procPlaysUptoRow.holds Try.pinned (OpenSpec.upto procPlaysSpec)

/-- 'purlinlaw17.ProcRuns', WHERE WHAT IT READS IS OF BULK AT MOST 1048576: true; the input reads as it did. -/
def procRunsUptoRow : OpenClaim := { program := "ytecacohkkdhphaa", sum := "b789dd70579d0bb144cf48d29115598c5d0ca17fa5dc54ed75aeaf4faf04d2c8", func := "purlin/purlinlaw17.ProcRuns", spec := "procRuns", unfollowed := true, recurses := true, apart := false, narrowed := true }
def ProcRunsUptoSaid : Prop := procRunsUptoRow.holds Try.pinned (OpenSpec.upto procRunsSpec)

/-- 'purlinlaw17.ProcTurns', WHERE WHAT IT READS IS OF BULK AT MOST 1048576: true; the input reads as it did. -/
def procTurnsUptoRow : OpenClaim := { program := "ytecacohkkdhphaa", sum := "b789dd70579d0bb144cf48d29115598c5d0ca17fa5dc54ed75aeaf4faf04d2c8", func := "purlin/purlinlaw17.ProcTurns", spec := "procTurns", unfollowed := true, recurses := true, apart := false, narrowed := true }
def ProcTurnsUptoSaid : Prop := procTurnsUptoRow.holds Try.pinned (OpenSpec.upto procTurnsSpec)

/-- 'purlinlaw17.ProcApart', WHERE WHAT IT READS IS OF BULK AT MOST 1048576: true; the input reads as it did. -/
def procApartUptoRow : OpenClaim := { program := "ytecacohkkdhphaa", sum := "b789dd70579d0bb144cf48d29115598c5d0ca17fa5dc54ed75aeaf4faf04d2c8", func := "purlin/purlinlaw17.ProcApart", spec := "procApart", unfollowed := true, recurses := true, apart := false, narrowed := true }
def ProcApartUptoSaid : Prop := procApartUptoRow.holds Try.pinned (OpenSpec.upto procApartSpec)

/-- 'purlinlaw17.ProcAnew', WHERE WHAT IT READS IS OF BULK AT MOST 1048576: true; the input reads as it did. -/
def procAnewUptoRow : OpenClaim := { program := "ytecacohkkdhphaa", sum := "b789dd70579d0bb144cf48d29115598c5d0ca17fa5dc54ed75aeaf4faf04d2c8", func := "purlin/purlinlaw17.ProcAnew", spec := "procAnew", unfollowed := true, recurses := true, apart := false, narrowed := true }
def ProcAnewUptoSaid : Prop := procAnewUptoRow.holds Try.pinned (OpenSpec.upto procAnewSpec)

/-- 'purlinlaw15.SemaOrder', WHERE WHAT IT READS IS OF BULK AT MOST 1048576: true; the input reads as it did. -/
def semaOrderUptoRow : OpenClaim := { program := "ytecacohkkdhphaa", sum := "b789dd70579d0bb144cf48d29115598c5d0ca17fa5dc54ed75aeaf4faf04d2c8", func := "purlin/purlinlaw15.SemaOrder", spec := "semaOrder", unfollowed := true, recurses := true, apart := false, narrowed := true }
def SemaOrderUptoSaid : Prop := semaOrderUptoRow.holds Try.pinned (OpenSpec.upto semaOrderSpec)

/-- 'purlinlaw16.EventPlays', WHERE WHAT IT READS IS OF BULK AT MOST 1048576: true; the input reads as it did. -/
def eventPlaysUptoRow : OpenClaim := { program := "ytecacohkkdhphaa", sum := "b789dd70579d0bb144cf48d29115598c5d0ca17fa5dc54ed75aeaf4faf04d2c8", func := "purlin/purlinlaw16.EventPlays", spec := "eventPlays", unfollowed := true, recurses := true, apart := false, narrowed := true }
def EventPlaysUptoSaid : Prop := eventPlaysUptoRow.holds Try.pinned (OpenSpec.upto eventPlaysSpec)

/-- 'purlinlaw16.EventUp', WHERE WHAT IT READS IS OF BULK AT MOST 1048576: true; the input reads as it did. -/
def eventUpUptoRow : OpenClaim := { program := "ytecacohkkdhphaa", sum := "b789dd70579d0bb144cf48d29115598c5d0ca17fa5dc54ed75aeaf4faf04d2c8", func := "purlin/purlinlaw16.EventUp", spec := "eventUp", unfollowed := true, recurses := true, apart := false, narrowed := true }
def EventUpUptoSaid : Prop := eventUpUptoRow.holds Try.pinned (OpenSpec.upto eventUpSpec)

/-- 'purlinlaw16.EventOnce', WHERE WHAT IT READS IS OF BULK AT MOST 1048576: true; the input reads as it did. -/
def eventOnceUptoRow : OpenClaim := { program := "ytecacohkkdhphaa", sum := "b789dd70579d0bb144cf48d29115598c5d0ca17fa5dc54ed75aeaf4faf04d2c8", func := "purlin/purlinlaw16.EventOnce", spec := "eventOnce", unfollowed := true, recurses := true, apart := false, narrowed := true }
def EventOnceUptoSaid : Prop := eventOnceUptoRow.holds Try.pinned (OpenSpec.upto eventOnceSpec)

/-- 'purlinlaw15.SemaPlays', WHERE WHAT IT READS IS OF BULK AT MOST 1048576: true; the input reads as it did. -/
def semaPlaysUptoRow : OpenClaim := { program := "ytecacohkkdhphaa", sum := "b789dd70579d0bb144cf48d29115598c5d0ca17fa5dc54ed75aeaf4faf04d2c8", func := "purlin/purlinlaw15.SemaPlays", spec := "semaPlays", unfollowed := true, recurses := true, apart := false, narrowed := true }
def SemaPlaysUptoSaid : Prop := semaPlaysUptoRow.holds Try.pinned (OpenSpec.upto semaPlaysSpec)

/-- 'purlinlaw15.SemaSums', WHERE WHAT IT READS IS OF BULK AT MOST 1048576: true; the input reads as it did. -/
def semaSumsUptoRow : OpenClaim := { program := "ytecacohkkdhphaa", sum := "b789dd70579d0bb144cf48d29115598c5d0ca17fa5dc54ed75aeaf4faf04d2c8", func := "purlin/purlinlaw15.SemaSums", spec := "semaSums", unfollowed := true, recurses := true, apart := false, narrowed := true }
def SemaSumsUptoSaid : Prop := semaSumsUptoRow.holds Try.pinned (OpenSpec.upto semaSumsSpec)

/-- 'purlinlaw15.SemaLess', WHERE WHAT IT READS IS OF BULK AT MOST 1048576: true; the input reads as it did. -/
def semaLessUptoRow : OpenClaim := { program := "ytecacohkkdhphaa", sum := "b789dd70579d0bb144cf48d29115598c5d0ca17fa5dc54ed75aeaf4faf04d2c8", func := "purlin/purlinlaw15.SemaLess", spec := "semaLess", unfollowed := true, recurses := true, apart := false, narrowed := true }
def SemaLessUptoSaid : Prop := semaLessUptoRow.holds Try.pinned (OpenSpec.upto semaLessSpec)

end Rows
end Go.Proofs.Ytecacohkkdhphaa
