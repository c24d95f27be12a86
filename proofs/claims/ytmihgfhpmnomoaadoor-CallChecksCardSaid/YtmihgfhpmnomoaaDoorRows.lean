/-
  NARROWER THAN 'FOR EVERY INPUT', by the rows' own cells (each row's printed sentence says how): CallNames: laid · CallShows: laid · CallParses: laid · CallBack: laid · CallChecks: laid · CallRights: laid.
  DERIVED. THE GIVEN ROWS OF THIS SEAT. 6 by the template 'for every input the law returns true; each argument reads behind the call as it read before'; 0 by the template 'total and deterministic' (their statements: YtmihgfhpmnomoaaDoorTotals.lean).
  GIVEN WITH THE SEED: the statements are not yours to turn. If you find one false, say at which input.
  Laid BY PROGRAM, IN A SANDBOX (cutbox-rows.mjs): the forced cells as the released guide's own fill.sh prints them over the translation 433d761f209cb542… (all of the seat's roots in one cut). By AI agents, Wed Nov 11 2026. No macro, syntax, notation, axiom, sorry.
-/
import Derived.Test.YtmihgfhpmnomoaaDoorChecked
import GoSem.Claim
import GoSem.ClaimJoined
import GoSem.ClaimMapViews
import Derived.JoinedTies
import Derived.KernelRfl
namespace Go.Proofs.YtmihgfhpmnomoaaDoor
/- THE CELL 'sum', in the pinned program and in every row, IS THE sha256 OF THE DUMP (.gsa) THAT YtmihgfhpmnomoaaDoorProg.lean LOADS. Nothing in Lean hashes anything: it is a label: what it is worth is what the hold of that sum in a sandbox is worth. -/
noncomputable def Tryd.pinned : Pinned := { name := "ytmihgfhpmnomoaadoor", sum := "433d761f209cb54236369f053f39b635125fc614e7c2c7a493518d3cda828821", checked := Tryd.checked }
namespace Rows
def none {H : Type} : Left H := { results := [], args := [] }

/- WHAT THE LISTED PACKAGE-LEVEL VARIABLES READ AS WHEN THE CALL BEGINS. Each datum BY PROGRAM (the guide's laid-datum.mjs) off the statement by which the dump's own 'gosem.cut.vars' lays the variable. In a bare row this is a premise. The card (YtmihgfhpmnomoaaDoorCards.lean) ties it to the program's text. -/
def laid_math_bits_deBruijn32tab {H : Type} : DataW H := .agg [.lit (.int .u8 0), .lit (.int .u8 1), .lit (.int .u8 28), .lit (.int .u8 2), .lit (.int .u8 29), .lit (.int .u8 14), .lit (.int .u8 24), .lit (.int .u8 3), .lit (.int .u8 30), .lit (.int .u8 22), .lit (.int .u8 20), .lit (.int .u8 15), .lit (.int .u8 25), .lit (.int .u8 17), .lit (.int .u8 4), .lit (.int .u8 8), .lit (.int .u8 31), .lit (.int .u8 27), .lit (.int .u8 13), .lit (.int .u8 23), .lit (.int .u8 21), .lit (.int .u8 19), .lit (.int .u8 16), .lit (.int .u8 7), .lit (.int .u8 26), .lit (.int .u8 12), .lit (.int .u8 18), .lit (.int .u8 6), .lit (.int .u8 11), .lit (.int .u8 5), .lit (.int .u8 10), .lit (.int .u8 9)]
def laid_math_bits_deBruijn64tab {H : Type} : DataW H := .agg [.lit (.int .u8 0), .lit (.int .u8 1), .lit (.int .u8 56), .lit (.int .u8 2), .lit (.int .u8 57), .lit (.int .u8 49), .lit (.int .u8 28), .lit (.int .u8 3), .lit (.int .u8 61), .lit (.int .u8 58), .lit (.int .u8 42), .lit (.int .u8 50), .lit (.int .u8 38), .lit (.int .u8 29), .lit (.int .u8 17), .lit (.int .u8 4), .lit (.int .u8 62), .lit (.int .u8 47), .lit (.int .u8 59), .lit (.int .u8 36), .lit (.int .u8 45), .lit (.int .u8 43), .lit (.int .u8 51), .lit (.int .u8 22), .lit (.int .u8 53), .lit (.int .u8 39), .lit (.int .u8 33), .lit (.int .u8 30), .lit (.int .u8 24), .lit (.int .u8 18), .lit (.int .u8 12), .lit (.int .u8 5), .lit (.int .u8 63), .lit (.int .u8 55), .lit (.int .u8 48), .lit (.int .u8 27), .lit (.int .u8 60), .lit (.int .u8 41), .lit (.int .u8 37), .lit (.int .u8 16), .lit (.int .u8 46), .lit (.int .u8 35), .lit (.int .u8 44), .lit (.int .u8 21), .lit (.int .u8 52), .lit (.int .u8 32), .lit (.int .u8 23), .lit (.int .u8 11), .lit (.int .u8 54), .lit (.int .u8 26), .lit (.int .u8 40), .lit (.int .u8 15), .lit (.int .u8 34), .lit (.int .u8 20), .lit (.int .u8 31), .lit (.int .u8 10), .lit (.int .u8 25), .lit (.int .u8 14), .lit (.int .u8 19), .lit (.int .u8 9), .lit (.int .u8 13), .lit (.int .u8 8), .lit (.int .u8 7), .lit (.int .u8 6)]
def laid_internal_strconv_uint64pow10 {H : Type} : DataW H := .agg [.lit (.int .u64 1), .lit (.int .u64 10), .lit (.int .u64 100), .lit (.int .u64 1000), .lit (.int .u64 10000), .lit (.int .u64 100000), .lit (.int .u64 1000000), .lit (.int .u64 10000000), .lit (.int .u64 100000000), .lit (.int .u64 1000000000), .lit (.int .u64 10000000000), .lit (.int .u64 100000000000), .lit (.int .u64 1000000000000), .lit (.int .u64 10000000000000), .lit (.int .u64 100000000000000), .lit (.int .u64 1000000000000000), .lit (.int .u64 10000000000000000), .lit (.int .u64 100000000000000000), .lit (.int .u64 1000000000000000000), .lit (.int .u64 10000000000000000000)]
def laid_strconv_ErrRange {H : Type} : DataW H := .iface "*errors.errorString" (.ptr (.agg [.lit (.string [118, 97, 108, 117, 101, 32, 111, 117, 116, 32, 111, 102, 32, 114, 97, 110, 103, 101])]))
def laid_strconv_ErrSyntax {H : Type} : DataW H := .iface "*errors.errorString" (.ptr (.agg [.lit (.string [105, 110, 118, 97, 108, 105, 100, 32, 115, 121, 110, 116, 97, 120])]))
def laid_purlin_call_nothing {H : Type} : DataW H := .agg [.lit (.bool false), .lit (.bool false), .lit (.bool false)]
def laid_purlin_call_one {H : Type} : DataW H := .agg [.lit (.bool true), .lit (.bool false), .lit (.bool false)]
def laid_purlin_call_two {H : Type} : DataW H := .agg [.lit (.bool true), .lit (.bool true), .lit (.bool false)]
def laid_purlin_call_texts {H : Type} : DataW H := .agg [.lit (.bool true), .lit (.bool false), .lit (.bool true)]

/-- 'purlinlaw21.CallNames': WHATEVER THE INPUT: true; the input reads as it did. -/
def callNamesSpec : ChangeSpec := { name := "callNames", fn := fun _ => fun
  | [d1, d2] => { results := [.lit (.bool true)], args := [d1, d2] }
  | _ => none }
def callNamesRow : OpenClaim := { program := "ytmihgfhpmnomoaadoor", sum := "433d761f209cb54236369f053f39b635125fc614e7c2c7a493518d3cda828821", func := "purlin/purlinlaw21.CallNames", spec := "callNames", inPlace := ["internal/bytealg.IndexByteString", "internal/bytealg.IndexString"], named := ["purlin/call.two", "purlin/call.texts", "purlin/call.nothing", "purlin/call.one", "internal/strconv.uint64pow10", "math/bits.deBruijn32tab", "math/bits.deBruijn64tab", "internal/bytealg.MaxLen", "strconv.ErrSyntax", "strconv.ErrRange"], apart := false, laid := [("math/bits.deBruijn32tab", laid_math_bits_deBruijn32tab), ("math/bits.deBruijn64tab", laid_math_bits_deBruijn64tab), ("internal/strconv.uint64pow10", laid_internal_strconv_uint64pow10), ("strconv.ErrRange", laid_strconv_ErrRange), ("strconv.ErrSyntax", laid_strconv_ErrSyntax), ("purlin/call.nothing", laid_purlin_call_nothing), ("purlin/call.one", laid_purlin_call_one), ("purlin/call.two", laid_purlin_call_two), ("purlin/call.texts", laid_purlin_call_texts)] }
def CallNamesSaid : Prop := callNamesRow.holds Tryd.pinned (OpenSpec.ofChange callNamesSpec)

/-- ITS FALSE NEIGHBOUR: 'it returns false'. Refute it at one input. -/
def callNamesWrong : ChangeSpec := { name := "callNames", fn := fun _ => fun
  | [d1, d2] => { results := [.lit (.bool false)], args := [d1, d2] }
  | _ => none }
def CallNamesWrongFalsely : Prop := callNamesRow.holds Tryd.pinned (OpenSpec.ofChange callNamesWrong)

/-- 'purlinlaw21.CallShows': WHATEVER THE INPUT: true; the input reads as it did. -/
def callShowsSpec : ChangeSpec := { name := "callShows", fn := fun _ => fun
  | [d] => { results := [.lit (.bool true)], args := [d] }
  | _ => none }
def callShowsRow : OpenClaim := { program := "ytmihgfhpmnomoaadoor", sum := "433d761f209cb54236369f053f39b635125fc614e7c2c7a493518d3cda828821", func := "purlin/purlinlaw21.CallShows", spec := "callShows", inPlace := ["internal/bytealg.IndexByteString", "internal/bytealg.IndexString"], named := ["purlin/call.two", "purlin/call.texts", "purlin/call.nothing", "purlin/call.one", "internal/strconv.uint64pow10", "math/bits.deBruijn32tab", "math/bits.deBruijn64tab", "internal/bytealg.MaxLen", "strconv.ErrSyntax", "strconv.ErrRange"], apart := false, laid := [("math/bits.deBruijn32tab", laid_math_bits_deBruijn32tab), ("math/bits.deBruijn64tab", laid_math_bits_deBruijn64tab), ("internal/strconv.uint64pow10", laid_internal_strconv_uint64pow10), ("strconv.ErrRange", laid_strconv_ErrRange), ("strconv.ErrSyntax", laid_strconv_ErrSyntax), ("purlin/call.nothing", laid_purlin_call_nothing), ("purlin/call.one", laid_purlin_call_one), ("purlin/call.two", laid_purlin_call_two), ("purlin/call.texts", laid_purlin_call_texts)] }
def CallShowsSaid : Prop := callShowsRow.holds Tryd.pinned (OpenSpec.ofChange callShowsSpec)

/-- ITS FALSE NEIGHBOUR: 'it returns false'. Refute it at one input. -/
def callShowsWrong : ChangeSpec := { name := "callShows", fn := fun _ => fun
  | [d] => { results := [.lit (.bool false)], args := [d] }
  | _ => none }
def CallShowsWrongFalsely : Prop := callShowsRow.holds Tryd.pinned (OpenSpec.ofChange callShowsWrong)

/-- 'purlinlaw21.CallParses': WHATEVER THE INPUT: true; the input reads as it did. -/
def callParsesSpec : ChangeSpec := { name := "callParses", fn := fun _ => fun
  | [d] => { results := [.lit (.bool true)], args := [d] }
  | _ => none }
def callParsesRow : OpenClaim := { program := "ytmihgfhpmnomoaadoor", sum := "433d761f209cb54236369f053f39b635125fc614e7c2c7a493518d3cda828821", func := "purlin/purlinlaw21.CallParses", spec := "callParses", inPlace := ["internal/bytealg.IndexByteString", "internal/bytealg.IndexString"], named := ["purlin/call.two", "purlin/call.texts", "purlin/call.nothing", "purlin/call.one", "internal/strconv.uint64pow10", "math/bits.deBruijn32tab", "math/bits.deBruijn64tab", "internal/bytealg.MaxLen", "strconv.ErrSyntax", "strconv.ErrRange"], apart := false, laid := [("math/bits.deBruijn32tab", laid_math_bits_deBruijn32tab), ("math/bits.deBruijn64tab", laid_math_bits_deBruijn64tab), ("internal/strconv.uint64pow10", laid_internal_strconv_uint64pow10), ("strconv.ErrRange", laid_strconv_ErrRange), ("strconv.ErrSyntax", laid_strconv_ErrSyntax), ("purlin/call.nothing", laid_purlin_call_nothing), ("purlin/call.one", laid_purlin_call_one), ("purlin/call.two", laid_purlin_call_two), ("purlin/call.texts", laid_purlin_call_texts)] }
def CallParsesSaid : Prop := callParsesRow.holds Tryd.pinned (OpenSpec.ofChange callParsesSpec)

/-- ITS FALSE NEIGHBOUR: 'it returns false'. Refute it at one input. -/
def callParsesWrong : ChangeSpec := { name := "callParses", fn := fun _ => fun
  | [d] => { results := [.lit (.bool false)], args := [d] }
  | _ => none }
def CallParsesWrongFalsely : Prop := callParsesRow.holds Tryd.pinned (OpenSpec.ofChange callParsesWrong)

/-- 'purlinlaw21.CallBack': WHATEVER THE INPUT: true; the input reads as it did. -/
def callBackSpec : ChangeSpec := { name := "callBack", fn := fun _ => fun
  | [d1, d2] => { results := [.lit (.bool true)], args := [d1, d2] }
  | _ => none }
def callBackRow : OpenClaim := { program := "ytmihgfhpmnomoaadoor", sum := "433d761f209cb54236369f053f39b635125fc614e7c2c7a493518d3cda828821", func := "purlin/purlinlaw21.CallBack", spec := "callBack", inPlace := ["internal/bytealg.IndexByteString", "internal/bytealg.IndexString"], named := ["purlin/call.two", "purlin/call.texts", "purlin/call.nothing", "purlin/call.one", "internal/strconv.uint64pow10", "math/bits.deBruijn32tab", "math/bits.deBruijn64tab", "internal/bytealg.MaxLen", "strconv.ErrSyntax", "strconv.ErrRange"], apart := false, laid := [("math/bits.deBruijn32tab", laid_math_bits_deBruijn32tab), ("math/bits.deBruijn64tab", laid_math_bits_deBruijn64tab), ("internal/strconv.uint64pow10", laid_internal_strconv_uint64pow10), ("strconv.ErrRange", laid_strconv_ErrRange), ("strconv.ErrSyntax", laid_strconv_ErrSyntax), ("purlin/call.nothing", laid_purlin_call_nothing), ("purlin/call.one", laid_purlin_call_one), ("purlin/call.two", laid_purlin_call_two), ("purlin/call.texts", laid_purlin_call_texts)] }
def CallBackSaid : Prop := callBackRow.holds Tryd.pinned (OpenSpec.ofChange callBackSpec)

/-- ITS FALSE NEIGHBOUR: 'it returns false'. Refute it at one input. -/
def callBackWrong : ChangeSpec := { name := "callBack", fn := fun _ => fun
  | [d1, d2] => { results := [.lit (.bool false)], args := [d1, d2] }
  | _ => none }
def CallBackWrongFalsely : Prop := callBackRow.holds Tryd.pinned (OpenSpec.ofChange callBackWrong)

/-- 'purlinlaw21.CallChecks': WHATEVER THE INPUT: true; the input reads as it did. -/
def callChecksSpec : ChangeSpec := { name := "callChecks", fn := fun _ => fun
  | [d1, d2, d3] => { results := [.lit (.bool true)], args := [d1, d2, d3] }
  | _ => none }
def callChecksRow : OpenClaim := { program := "ytmihgfhpmnomoaadoor", sum := "433d761f209cb54236369f053f39b635125fc614e7c2c7a493518d3cda828821", func := "purlin/purlinlaw21.CallChecks", spec := "callChecks", inPlace := ["internal/bytealg.IndexByteString", "internal/bytealg.IndexString"], named := ["purlin/call.two", "purlin/call.texts", "purlin/call.nothing", "purlin/call.one", "internal/strconv.uint64pow10", "math/bits.deBruijn32tab", "math/bits.deBruijn64tab", "internal/bytealg.MaxLen", "strconv.ErrSyntax", "strconv.ErrRange"], apart := false, laid := [("math/bits.deBruijn32tab", laid_math_bits_deBruijn32tab), ("math/bits.deBruijn64tab", laid_math_bits_deBruijn64tab), ("internal/strconv.uint64pow10", laid_internal_strconv_uint64pow10), ("strconv.ErrRange", laid_strconv_ErrRange), ("strconv.ErrSyntax", laid_strconv_ErrSyntax), ("purlin/call.nothing", laid_purlin_call_nothing), ("purlin/call.one", laid_purlin_call_one), ("purlin/call.two", laid_purlin_call_two), ("purlin/call.texts", laid_purlin_call_texts)] }
def CallChecksSaid : Prop := callChecksRow.holds Tryd.pinned (OpenSpec.ofChange callChecksSpec)

/-- ITS FALSE NEIGHBOUR: 'it returns false'. Refute it at one input. -/
def callChecksWrong : ChangeSpec := { name := "callChecks", fn := fun _ => fun
  | [d1, d2, d3] => { results := [.lit (.bool false)], args := [d1, d2, d3] }
  | _ => none }
def CallChecksWrongFalsely : Prop := callChecksRow.holds Tryd.pinned (OpenSpec.ofChange callChecksWrong)

/-- 'purlinlaw21.CallRights': WHATEVER THE INPUT: true; the input reads as it did. -/
def callRightsSpec : ChangeSpec := { name := "callRights", fn := fun _ => fun
  | [d1, d2, d3] => { results := [.lit (.bool true)], args := [d1, d2, d3] }
  | _ => none }
def callRightsRow : OpenClaim := { program := "ytmihgfhpmnomoaadoor", sum := "433d761f209cb54236369f053f39b635125fc614e7c2c7a493518d3cda828821", func := "purlin/purlinlaw21.CallRights", spec := "callRights", inPlace := ["internal/bytealg.IndexByteString", "internal/bytealg.IndexString"], named := ["purlin/call.two", "purlin/call.texts", "purlin/call.nothing", "purlin/call.one", "internal/strconv.uint64pow10", "math/bits.deBruijn32tab", "math/bits.deBruijn64tab", "internal/bytealg.MaxLen", "strconv.ErrSyntax", "strconv.ErrRange"], apart := false, laid := [("math/bits.deBruijn32tab", laid_math_bits_deBruijn32tab), ("math/bits.deBruijn64tab", laid_math_bits_deBruijn64tab), ("internal/strconv.uint64pow10", laid_internal_strconv_uint64pow10), ("strconv.ErrRange", laid_strconv_ErrRange), ("strconv.ErrSyntax", laid_strconv_ErrSyntax), ("purlin/call.nothing", laid_purlin_call_nothing), ("purlin/call.one", laid_purlin_call_one), ("purlin/call.two", laid_purlin_call_two), ("purlin/call.texts", laid_purlin_call_texts)] }
def CallRightsSaid : Prop := callRightsRow.holds Tryd.pinned (OpenSpec.ofChange callRightsSpec)

/-- ITS FALSE NEIGHBOUR: 'it returns false'. Refute it at one input. -/
def callRightsWrong : ChangeSpec := { name := "callRights", fn := fun _ => fun
  | [d1, d2, d3] => { results := [.lit (.bool false)], args := [d1, d2, d3] }
  | _ => none }
def CallRightsWrongFalsely : Prop := callRightsRow.holds Tryd.pinned (OpenSpec.ofChange callRightsWrong)

/- THE SECOND FORM. 'bulk': how many values and letters a reading holds, each counted each time it is reached (what is shared counts as often as it is met; a slice's spare places count too). A statement '..UptoSaid' is the law's where the arguments, and the package variables that the reading takes, are together of bulk at most 1048576: NARROWER than '..Said'. Prove '..Said' where nothing that the law and all that it calls make is longer than what came in: it says more and counts as full. Else prove '..UptoSaid'. A law counts once. -/
mutual
def uptoBulk {H : Type} : DataW H → Nat
  | .lit (.string bytes) => bytes.length + 1
  | .lit _ => 1
  | .nil => 1
  | .ptr d => uptoBulk d + 1
  | .slice elems spare => uptoBulkAll elems + uptoBulkAll spare + 1
  | .agg parts => uptoBulkAll parts + 1
  | .iface _ d => uptoBulk d + 1
  | .map entries => uptoBulkEntries entries + 1
  | .held _ => 1
def uptoBulkAll {H : Type} : List (DataW H) → Nat
  | [] => 0
  | d :: r => uptoBulk d + uptoBulkAll r
def uptoBulkEntries {H : Type} : List (Lit × DataW H) → Nat
  | [] => 0
  | x :: r => uptoBulkEntry x + uptoBulkEntries r
def uptoBulkEntry {H : Type} : Lit × DataW H → Nat
  | (.string bytes, d) => bytes.length + uptoBulk d + 1
  | (_, d) => uptoBulk d + 1
 end
def uptoSmall : (H : Type) → List (DataW H) → Bool := fun _ ds => decide (uptoBulkAll ds ≤ 1048576)
def OpenSpec.upto (s : _root_.Go.ChangeSpec) : _root_.Go.OpenSpec := { _root_.Go.OpenSpec.ofChange s with cond := some uptoSmall }

/-- 'purlinlaw21.CallNames', WHERE WHAT IT READS IS OF BULK AT MOST 1048576: true; the input reads as it did. -/
def callNamesUptoRow : OpenClaim := { program := "ytmihgfhpmnomoaadoor", sum := "433d761f209cb54236369f053f39b635125fc614e7c2c7a493518d3cda828821", func := "purlin/purlinlaw21.CallNames", spec := "callNames", inPlace := ["internal/bytealg.IndexByteString", "internal/bytealg.IndexString"], named := ["purlin/call.two", "purlin/call.texts", "purlin/call.nothing", "purlin/call.one", "internal/strconv.uint64pow10", "math/bits.deBruijn32tab", "math/bits.deBruijn64tab", "internal/bytealg.MaxLen", "strconv.ErrSyntax", "strconv.ErrRange"], apart := false, laid := [("math/bits.deBruijn32tab", laid_math_bits_deBruijn32tab), ("math/bits.deBruijn64tab", laid_math_bits_deBruijn64tab), ("internal/strconv.uint64pow10", laid_internal_strconv_uint64pow10), ("strconv.ErrRange", laid_strconv_ErrRange), ("strconv.ErrSyntax", laid_strconv_ErrSyntax), ("purlin/call.nothing", laid_purlin_call_nothing), ("purlin/call.one", laid_purlin_call_one), ("purlin/call.two", laid_purlin_call_two), ("purlin/call.texts", laid_purlin_call_texts)], narrowed := true }
def CallNamesUptoSaid : Prop := callNamesUptoRow.holds Tryd.pinned (OpenSpec.upto callNamesSpec)

/-- 'purlinlaw21.CallShows', WHERE WHAT IT READS IS OF BULK AT MOST 1048576: true; the input reads as it did. -/
def callShowsUptoRow : OpenClaim := { program := "ytmihgfhpmnomoaadoor", sum := "433d761f209cb54236369f053f39b635125fc614e7c2c7a493518d3cda828821", func := "purlin/purlinlaw21.CallShows", spec := "callShows", inPlace := ["internal/bytealg.IndexByteString", "internal/bytealg.IndexString"], named := ["purlin/call.two", "purlin/call.texts", "purlin/call.nothing", "purlin/call.one", "internal/strconv.uint64pow10", "math/bits.deBruijn32tab", "math/bits.deBruijn64tab", "internal/bytealg.MaxLen", "strconv.ErrSyntax", "strconv.ErrRange"], apart := false, laid := [("math/bits.deBruijn32tab", laid_math_bits_deBruijn32tab), ("math/bits.deBruijn64tab", laid_math_bits_deBruijn64tab), ("internal/strconv.uint64pow10", laid_internal_strconv_uint64pow10), ("strconv.ErrRange", laid_strconv_ErrRange), ("strconv.ErrSyntax", laid_strconv_ErrSyntax), ("purlin/call.nothing", laid_purlin_call_nothing), ("purlin/call.one", laid_purlin_call_one), ("purlin/call.two", laid_purlin_call_two), ("purlin/call.texts", laid_purlin_call_texts)], narrowed := true }
def CallShowsUptoSaid : Prop := callShowsUptoRow.holds Tryd.pinned (OpenSpec.upto callShowsSpec)

/-- 'purlinlaw21.CallParses', WHERE WHAT IT READS IS OF BULK AT MOST 1048576: true; the input reads as it did. -/
def callParsesUptoRow : OpenClaim := { program := "ytmihgfhpmnomoaadoor", sum := "433d761f209cb54236369f053f39b635125fc614e7c2c7a493518d3cda828821", func := "purlin/purlinlaw21.CallParses", spec := "callParses", inPlace := ["internal/bytealg.IndexByteString", "internal/bytealg.IndexString"], named := ["purlin/call.two", "purlin/call.texts", "purlin/call.nothing", "purlin/call.one", "internal/strconv.uint64pow10", "math/bits.deBruijn32tab", "math/bits.deBruijn64tab", "internal/bytealg.MaxLen", "strconv.ErrSyntax", "strconv.ErrRange"], apart := false, laid := [("math/bits.deBruijn32tab", laid_math_bits_deBruijn32tab), ("math/bits.deBruijn64tab", laid_math_bits_deBruijn64tab), ("internal/strconv.uint64pow10", laid_internal_strconv_uint64pow10), ("strconv.ErrRange", laid_strconv_ErrRange), ("strconv.ErrSyntax", laid_strconv_ErrSyntax), ("purlin/call.nothing", laid_purlin_call_nothing), ("purlin/call.one", laid_purlin_call_one), ("purlin/call.two", laid_purlin_call_two), ("purlin/call.texts", laid_purlin_call_texts)], narrowed := true }
def CallParsesUptoSaid : Prop := callParsesUptoRow.holds Tryd.pinned (OpenSpec.upto callParsesSpec)

/-- 'purlinlaw21.CallBack', WHERE WHAT IT READS IS OF BULK AT MOST 1048576: true; the input reads as it did. -/
def callBackUptoRow : OpenClaim := { program := "ytmihgfhpmnomoaadoor", sum := "433d761f209cb54236369f053f39b635125fc614e7c2c7a493518d3cda828821", func := "purlin/purlinlaw21.CallBack", spec := "callBack", inPlace := ["internal/bytealg.IndexByteString", "internal/bytealg.IndexString"], named := ["purlin/call.two", "purlin/call.texts", "purlin/call.nothing", "purlin/call.one", "internal/strconv.uint64pow10", "math/bits.deBruijn32tab", "math/bits.deBruijn64tab", "internal/bytealg.MaxLen", "strconv.ErrSyntax", "strconv.ErrRange"], apart := false, laid := [("math/bits.deBruijn32tab", laid_math_bits_deBruijn32tab), ("math/bits.deBruijn64tab", laid_math_bits_deBruijn64tab), ("internal/strconv.uint64pow10", laid_internal_strconv_uint64pow10), ("strconv.ErrRange", laid_strconv_ErrRange), ("strconv.ErrSyntax", laid_strconv_ErrSyntax), ("purlin/call.nothing", laid_purlin_call_nothing), ("purlin/call.one", laid_purlin_call_one), ("purlin/call.two", laid_purlin_call_two), ("purlin/call.texts", laid_purlin_call_texts)], narrowed := true }
def CallBackUptoSaid : Prop := callBackUptoRow.holds Tryd.pinned (OpenSpec.upto callBackSpec)

/-- 'purlinlaw21.CallChecks', WHERE WHAT IT READS IS OF BULK AT MOST 1048576: true; the input reads as it did. -/
def callChecksUptoRow : OpenClaim := { program := "ytmihgfhpmnomoaadoor", sum := "433d761f209cb54236369f053f39b635125fc614e7c2c7a493518d3cda828821", func := "purlin/purlinlaw21.CallChecks", spec := "callChecks", inPlace := ["internal/bytealg.IndexByteString", "internal/bytealg.IndexString"], named := ["purlin/call.two", "purlin/call.texts", "purlin/call.nothing", "purlin/call.one", "internal/strconv.uint64pow10", "math/bits.deBruijn32tab", "math/bits.deBruijn64tab", "internal/bytealg.MaxLen", "strconv.ErrSyntax", "strconv.ErrRange"], apart := false, laid := [("math/bits.deBruijn32tab", laid_math_bits_deBruijn32tab), ("math/bits.deBruijn64tab", laid_math_bits_deBruijn64tab), ("internal/strconv.uint64pow10", laid_internal_strconv_uint64pow10), ("strconv.ErrRange", laid_strconv_ErrRange), ("strconv.ErrSyntax", laid_strconv_ErrSyntax), ("purlin/call.nothing", laid_purlin_call_nothing), ("purlin/call.one", laid_purlin_call_one), ("purlin/call.two", laid_purlin_call_two), ("purlin/call.texts", laid_purlin_call_texts)], narrowed := true }
def CallChecksUptoSaid : Prop := callChecksUptoRow.holds Tryd.pinned (OpenSpec.upto callChecksSpec)

/-- 'purlinlaw21.CallRights', WHERE WHAT IT READS IS OF BULK AT MOST 1048576: true; the input reads as it did. -/
def callRightsUptoRow : OpenClaim := { program := "ytmihgfhpmnomoaadoor", sum := "433d761f209cb54236369f053f39b635125fc614e7c2c7a493518d3cda828821", func := "purlin/purlinlaw21.CallRights", spec := "callRights", inPlace := ["internal/bytealg.IndexByteString", "internal/bytealg.IndexString"], named := ["purlin/call.two", "purlin/call.texts", "purlin/call.nothing", "purlin/call.one", "internal/strconv.uint64pow10", "math/bits.deBruijn32tab", "math/bits.deBruijn64tab", "internal/bytealg.MaxLen", "strconv.ErrSyntax", "strconv.ErrRange"], apart := false, laid := [("math/bits.deBruijn32tab", laid_math_bits_deBruijn32tab), ("math/bits.deBruijn64tab", laid_math_bits_deBruijn64tab), ("internal/strconv.uint64pow10", laid_internal_strconv_uint64pow10), ("strconv.ErrRange", laid_strconv_ErrRange), ("strconv.ErrSyntax", laid_strconv_ErrSyntax), ("purlin/call.nothing", laid_purlin_call_nothing), ("purlin/call.one", laid_purlin_call_one), ("purlin/call.two", laid_purlin_call_two), ("purlin/call.texts", laid_purlin_call_texts)], narrowed := true }
def CallRightsUptoSaid : Prop := callRightsUptoRow.holds Tryd.pinned (OpenSpec.upto callRightsSpec)

end Rows
end Go.Proofs.YtmihgfhpmnomoaaDoor
