/-
  NARROWER THAN 'FOR EVERY INPUT', by the rows' own cells (each row's printed sentence says how): RearmFirst: laid · RearmAgain: laid · RearmLater: laid · RearmLeft: laid · RearmEndless: laid · RearmCron: laid · FieldParses: laid · FieldRuns: laid.
  DERIVED. THE GIVEN ROWS OF THIS SEAT. 8 by the template 'for every input the law returns true; each argument reads behind the call as it read before'; 0 by the template 'total and deterministic' (their statements: YtnjfefbeemicaaaDoorTotals.lean).
  GIVEN WITH THE SEED: the statements are not yours to turn. If you find one false, say at which input.
  Laid BY PROGRAM, IN A SANDBOX (cutbox-rows.mjs): the forced cells as the released guide's own fill.sh prints them over the translation c15f7ce65df3c7eb… (all of the seat's roots in one cut). By AI agents, Wed Nov 11 2026. No macro, syntax, notation, axiom, sorry.
-/
import Derived.Test.YtnjfefbeemicaaaDoorChecked
import GoSem.PinnedTables
import GoSem.Claim
import GoSem.ClaimJoined
import GoSem.ClaimMapViews
import Derived.JoinedTies
import Derived.KernelRfl
namespace Go.Proofs.YtnjfefbeemicaaaDoor
/- THE CELL 'sum', in the pinned program and in every row, IS THE sha256 OF THE DUMP (.gsa) THAT YtnjfefbeemicaaaDoorProg.lean LOADS. Nothing in Lean hashes anything: it is a label: what it is worth is what the hold of that sum in a sandbox is worth. -/
noncomputable def Tryd.pinned : Pinned := { name := "ytnjfefbeemicaaadoor", sum := "c15f7ce65df3c7eb83d5cd37e3b1aa4cf0964cbeec5afffaa1e78e01814818e8", checked := Tryd.checked }
namespace Rows
def none {H : Type} : Left H := { results := [], args := [] }

/- WHAT THE LISTED PACKAGE-LEVEL VARIABLES READ AS WHEN THE CALL BEGINS. Each datum BY PROGRAM (the guide's laid-datum.mjs) off the statement by which the dump's own 'gosem.cut.vars' lays the variable. In a bare row this is a premise. The card (YtnjfefbeemicaaaDoorCards.lean) ties it to the program's text. -/
def laid_math_bits_deBruijn64tab {H : Type} : DataW H := .agg [.lit (.int .u8 0), .lit (.int .u8 1), .lit (.int .u8 56), .lit (.int .u8 2), .lit (.int .u8 57), .lit (.int .u8 49), .lit (.int .u8 28), .lit (.int .u8 3), .lit (.int .u8 61), .lit (.int .u8 58), .lit (.int .u8 42), .lit (.int .u8 50), .lit (.int .u8 38), .lit (.int .u8 29), .lit (.int .u8 17), .lit (.int .u8 4), .lit (.int .u8 62), .lit (.int .u8 47), .lit (.int .u8 59), .lit (.int .u8 36), .lit (.int .u8 45), .lit (.int .u8 43), .lit (.int .u8 51), .lit (.int .u8 22), .lit (.int .u8 53), .lit (.int .u8 39), .lit (.int .u8 33), .lit (.int .u8 30), .lit (.int .u8 24), .lit (.int .u8 18), .lit (.int .u8 12), .lit (.int .u8 5), .lit (.int .u8 63), .lit (.int .u8 55), .lit (.int .u8 48), .lit (.int .u8 27), .lit (.int .u8 60), .lit (.int .u8 41), .lit (.int .u8 37), .lit (.int .u8 16), .lit (.int .u8 46), .lit (.int .u8 35), .lit (.int .u8 44), .lit (.int .u8 21), .lit (.int .u8 52), .lit (.int .u8 32), .lit (.int .u8 23), .lit (.int .u8 11), .lit (.int .u8 54), .lit (.int .u8 26), .lit (.int .u8 40), .lit (.int .u8 15), .lit (.int .u8 34), .lit (.int .u8 20), .lit (.int .u8 31), .lit (.int .u8 10), .lit (.int .u8 25), .lit (.int .u8 14), .lit (.int .u8 19), .lit (.int .u8 9), .lit (.int .u8 13), .lit (.int .u8 8), .lit (.int .u8 7), .lit (.int .u8 6)]
def laid_unicode_utf8_acceptRanges {H : Type} : DataW H := .agg [.agg [.lit (.int .u8 128), .lit (.int .u8 191)], .agg [.lit (.int .u8 160), .lit (.int .u8 191)], .agg [.lit (.int .u8 128), .lit (.int .u8 159)], .agg [.lit (.int .u8 144), .lit (.int .u8 191)], .agg [.lit (.int .u8 128), .lit (.int .u8 143)], .agg [.lit (.int .u8 0), .lit (.int .u8 0)], .agg [.lit (.int .u8 0), .lit (.int .u8 0)], .agg [.lit (.int .u8 0), .lit (.int .u8 0)], .agg [.lit (.int .u8 0), .lit (.int .u8 0)], .agg [.lit (.int .u8 0), .lit (.int .u8 0)], .agg [.lit (.int .u8 0), .lit (.int .u8 0)], .agg [.lit (.int .u8 0), .lit (.int .u8 0)], .agg [.lit (.int .u8 0), .lit (.int .u8 0)], .agg [.lit (.int .u8 0), .lit (.int .u8 0)], .agg [.lit (.int .u8 0), .lit (.int .u8 0)], .agg [.lit (.int .u8 0), .lit (.int .u8 0)]]
def laid_errors_errorType {H : Type} : DataW H := .iface "internal/reflectlite.rtype" (.agg [.ptr (.lit (.string [101, 114, 114, 111, 114]))])
/-- One of Go's own tables, pinned by name: the form's constant. -/
def laid_unicode_utf8_first : DataW Unit := Go.Pinned.utf8First

/-- 'complinelaw23.RearmFirst': WHATEVER THE INPUT: true; the input reads as it did. -/
def rearmFirstSpec : ChangeSpec := { name := "rearmFirst", fn := fun _ => fun
  | [d1, d2, d3] => { results := [.lit (.bool true)], args := [d1, d2, d3] }
  | _ => none }
def rearmFirstRow : OpenClaim := { program := "ytnjfefbeemicaaadoor", sum := "c15f7ce65df3c7eb83d5cd37e3b1aa4cf0964cbeec5afffaa1e78e01814818e8", func := "compline/complinelaw23.RearmFirst", spec := "rearmFirst", inPlace := ["math/bits.Sub64", "math/bits.Add64"], unfollowed := true, recurses := true, named := ["math/bits.deBruijn64tab"], apart := false, laid := [("math/bits.deBruijn64tab", laid_math_bits_deBruijn64tab)] }
def RearmFirstSaid : Prop := rearmFirstRow.holds Tryd.pinned (OpenSpec.ofChange rearmFirstSpec)

/-- ITS FALSE NEIGHBOUR: 'it returns false'. Refute it at one input. -/
def rearmFirstWrong : ChangeSpec := { name := "rearmFirst", fn := fun _ => fun
  | [d1, d2, d3] => { results := [.lit (.bool false)], args := [d1, d2, d3] }
  | _ => none }
def RearmFirstWrongFalsely : Prop := rearmFirstRow.holds Tryd.pinned (OpenSpec.ofChange rearmFirstWrong)

/-- 'complinelaw23.RearmAgain': WHATEVER THE INPUT: true; the input reads as it did. -/
def rearmAgainSpec : ChangeSpec := { name := "rearmAgain", fn := fun _ => fun
  | [d1, d2, d3] => { results := [.lit (.bool true)], args := [d1, d2, d3] }
  | _ => none }
def rearmAgainRow : OpenClaim := { program := "ytnjfefbeemicaaadoor", sum := "c15f7ce65df3c7eb83d5cd37e3b1aa4cf0964cbeec5afffaa1e78e01814818e8", func := "compline/complinelaw23.RearmAgain", spec := "rearmAgain", inPlace := ["math/bits.Sub64", "math/bits.Add64"], unfollowed := true, recurses := true, named := ["math/bits.deBruijn64tab"], apart := false, laid := [("math/bits.deBruijn64tab", laid_math_bits_deBruijn64tab)] }
def RearmAgainSaid : Prop := rearmAgainRow.holds Tryd.pinned (OpenSpec.ofChange rearmAgainSpec)

/-- ITS FALSE NEIGHBOUR: 'it returns false'. Refute it at one input. -/
def rearmAgainWrong : ChangeSpec := { name := "rearmAgain", fn := fun _ => fun
  | [d1, d2, d3] => { results := [.lit (.bool false)], args := [d1, d2, d3] }
  | _ => none }
def RearmAgainWrongFalsely : Prop := rearmAgainRow.holds Tryd.pinned (OpenSpec.ofChange rearmAgainWrong)

/-- 'complinelaw23.RearmLater': WHATEVER THE INPUT: true; the input reads as it did. -/
def rearmLaterSpec : ChangeSpec := { name := "rearmLater", fn := fun _ => fun
  | [d1, d2, d3] => { results := [.lit (.bool true)], args := [d1, d2, d3] }
  | _ => none }
def rearmLaterRow : OpenClaim := { program := "ytnjfefbeemicaaadoor", sum := "c15f7ce65df3c7eb83d5cd37e3b1aa4cf0964cbeec5afffaa1e78e01814818e8", func := "compline/complinelaw23.RearmLater", spec := "rearmLater", inPlace := ["math/bits.Sub64", "math/bits.Add64"], unfollowed := true, recurses := true, named := ["math/bits.deBruijn64tab"], apart := false, laid := [("math/bits.deBruijn64tab", laid_math_bits_deBruijn64tab)] }
def RearmLaterSaid : Prop := rearmLaterRow.holds Tryd.pinned (OpenSpec.ofChange rearmLaterSpec)

/-- ITS FALSE NEIGHBOUR: 'it returns false'. Refute it at one input. -/
def rearmLaterWrong : ChangeSpec := { name := "rearmLater", fn := fun _ => fun
  | [d1, d2, d3] => { results := [.lit (.bool false)], args := [d1, d2, d3] }
  | _ => none }
def RearmLaterWrongFalsely : Prop := rearmLaterRow.holds Tryd.pinned (OpenSpec.ofChange rearmLaterWrong)

/-- 'complinelaw23.RearmLeft': WHATEVER THE INPUT: true; the input reads as it did. -/
def rearmLeftSpec : ChangeSpec := { name := "rearmLeft", fn := fun _ => fun
  | [d1, d2, d3, d4] => { results := [.lit (.bool true)], args := [d1, d2, d3, d4] }
  | _ => none }
def rearmLeftRow : OpenClaim := { program := "ytnjfefbeemicaaadoor", sum := "c15f7ce65df3c7eb83d5cd37e3b1aa4cf0964cbeec5afffaa1e78e01814818e8", func := "compline/complinelaw23.RearmLeft", spec := "rearmLeft", inPlace := ["math/bits.Sub64", "math/bits.Add64"], unfollowed := true, recurses := true, named := ["math/bits.deBruijn64tab"], apart := false, laid := [("math/bits.deBruijn64tab", laid_math_bits_deBruijn64tab)] }
def RearmLeftSaid : Prop := rearmLeftRow.holds Tryd.pinned (OpenSpec.ofChange rearmLeftSpec)

/-- ITS FALSE NEIGHBOUR: 'it returns false'. Refute it at one input. -/
def rearmLeftWrong : ChangeSpec := { name := "rearmLeft", fn := fun _ => fun
  | [d1, d2, d3, d4] => { results := [.lit (.bool false)], args := [d1, d2, d3, d4] }
  | _ => none }
def RearmLeftWrongFalsely : Prop := rearmLeftRow.holds Tryd.pinned (OpenSpec.ofChange rearmLeftWrong)

/-- 'complinelaw23.RearmEndless': WHATEVER THE INPUT: true; the input reads as it did. -/
def rearmEndlessSpec : ChangeSpec := { name := "rearmEndless", fn := fun _ => fun
  | [d1, d2, d3] => { results := [.lit (.bool true)], args := [d1, d2, d3] }
  | _ => none }
def rearmEndlessRow : OpenClaim := { program := "ytnjfefbeemicaaadoor", sum := "c15f7ce65df3c7eb83d5cd37e3b1aa4cf0964cbeec5afffaa1e78e01814818e8", func := "compline/complinelaw23.RearmEndless", spec := "rearmEndless", inPlace := ["math/bits.Sub64", "math/bits.Add64"], unfollowed := true, recurses := true, named := ["math/bits.deBruijn64tab"], apart := false, laid := [("math/bits.deBruijn64tab", laid_math_bits_deBruijn64tab)] }
def RearmEndlessSaid : Prop := rearmEndlessRow.holds Tryd.pinned (OpenSpec.ofChange rearmEndlessSpec)

/-- ITS FALSE NEIGHBOUR: 'it returns false'. Refute it at one input. -/
def rearmEndlessWrong : ChangeSpec := { name := "rearmEndless", fn := fun _ => fun
  | [d1, d2, d3] => { results := [.lit (.bool false)], args := [d1, d2, d3] }
  | _ => none }
def RearmEndlessWrongFalsely : Prop := rearmEndlessRow.holds Tryd.pinned (OpenSpec.ofChange rearmEndlessWrong)

/-- 'complinelaw23.RearmCron': WHATEVER THE INPUT: true; the input reads as it did. -/
def rearmCronSpec : ChangeSpec := { name := "rearmCron", fn := fun _ => fun
  | [d1, d2, d3] => { results := [.lit (.bool true)], args := [d1, d2, d3] }
  | _ => none }
def rearmCronRow : OpenClaim := { program := "ytnjfefbeemicaaadoor", sum := "c15f7ce65df3c7eb83d5cd37e3b1aa4cf0964cbeec5afffaa1e78e01814818e8", func := "compline/complinelaw23.RearmCron", spec := "rearmCron", inPlace := ["math/bits.Sub64", "math/bits.Add64"], unfollowed := true, recurses := true, named := ["math/bits.deBruijn64tab"], apart := false, laid := [("math/bits.deBruijn64tab", laid_math_bits_deBruijn64tab)] }
def RearmCronSaid : Prop := rearmCronRow.holds Tryd.pinned (OpenSpec.ofChange rearmCronSpec)

/-- ITS FALSE NEIGHBOUR: 'it returns false'. Refute it at one input. -/
def rearmCronWrong : ChangeSpec := { name := "rearmCron", fn := fun _ => fun
  | [d1, d2, d3] => { results := [.lit (.bool false)], args := [d1, d2, d3] }
  | _ => none }
def RearmCronWrongFalsely : Prop := rearmCronRow.holds Tryd.pinned (OpenSpec.ofChange rearmCronWrong)

/-- 'complinelaw18.FieldParses': WHATEVER THE INPUT: true; the input reads as it did. -/
def fieldParsesSpec : ChangeSpec := { name := "fieldParses", fn := fun _ => fun
  | [d1, d2] => { results := [.lit (.bool true)], args := [d1, d2] }
  | _ => none }
def fieldParsesRow : OpenClaim := { program := "ytnjfefbeemicaaadoor", sum := "c15f7ce65df3c7eb83d5cd37e3b1aa4cf0964cbeec5afffaa1e78e01814818e8", func := "compline/complinelaw18.FieldParses", spec := "fieldParses", inPlace := ["internal/bytealg.CountString", "internal/bytealg.IndexByteString", "internal/bytealg.IndexString", "internal/reflectlite.ValueOf", "(internal/reflectlite.Value).Type", "(internal/reflectlite.Value).IsNil", "internal/reflectlite.TypeOf", "(internal/reflectlite.Value).Elem", "(internal/reflectlite.Value).Set"], unfollowed := true, recurses := true, named := ["unicode/utf8.first", "unicode/utf8.acceptRanges", "internal/bytealg.MaxLen", "errors.errorType", "math/bits.deBruijn64tab"], apart := false, laid := [("math/bits.deBruijn64tab", laid_math_bits_deBruijn64tab), ("unicode/utf8.acceptRanges", laid_unicode_utf8_acceptRanges), ("errors.errorType", laid_errors_errorType), ("unicode/utf8.first", laid_unicode_utf8_first)] }
def FieldParsesSaid : Prop := fieldParsesRow.holds Tryd.pinned (OpenSpec.ofChange fieldParsesSpec)

/-- ITS FALSE NEIGHBOUR: 'it returns false'. Refute it at one input. -/
def fieldParsesWrong : ChangeSpec := { name := "fieldParses", fn := fun _ => fun
  | [d1, d2] => { results := [.lit (.bool false)], args := [d1, d2] }
  | _ => none }
def FieldParsesWrongFalsely : Prop := fieldParsesRow.holds Tryd.pinned (OpenSpec.ofChange fieldParsesWrong)

/-- 'complinelaw18.FieldRuns': WHATEVER THE INPUT: true; the input reads as it did. -/
def fieldRunsSpec : ChangeSpec := { name := "fieldRuns", fn := fun _ => fun
  | [d1, d2, d3, d4, d5] => { results := [.lit (.bool true)], args := [d1, d2, d3, d4, d5] }
  | _ => none }
def fieldRunsRow : OpenClaim := { program := "ytnjfefbeemicaaadoor", sum := "c15f7ce65df3c7eb83d5cd37e3b1aa4cf0964cbeec5afffaa1e78e01814818e8", func := "compline/complinelaw18.FieldRuns", spec := "fieldRuns", inPlace := ["internal/bytealg.CountString", "internal/bytealg.IndexByteString", "internal/bytealg.IndexString", "internal/reflectlite.ValueOf", "(internal/reflectlite.Value).Type", "(internal/reflectlite.Value).IsNil", "internal/reflectlite.TypeOf", "(internal/reflectlite.Value).Elem", "(internal/reflectlite.Value).Set"], unfollowed := true, recurses := true, named := ["unicode/utf8.first", "unicode/utf8.acceptRanges", "internal/bytealg.MaxLen", "errors.errorType", "math/bits.deBruijn64tab"], apart := false, laid := [("math/bits.deBruijn64tab", laid_math_bits_deBruijn64tab), ("unicode/utf8.acceptRanges", laid_unicode_utf8_acceptRanges), ("errors.errorType", laid_errors_errorType), ("unicode/utf8.first", laid_unicode_utf8_first)] }
def FieldRunsSaid : Prop := fieldRunsRow.holds Tryd.pinned (OpenSpec.ofChange fieldRunsSpec)

/-- ITS FALSE NEIGHBOUR: 'it returns false'. Refute it at one input. -/
def fieldRunsWrong : ChangeSpec := { name := "fieldRuns", fn := fun _ => fun
  | [d1, d2, d3, d4, d5] => { results := [.lit (.bool false)], args := [d1, d2, d3, d4, d5] }
  | _ => none }
def FieldRunsWrongFalsely : Prop := fieldRunsRow.holds Tryd.pinned (OpenSpec.ofChange fieldRunsWrong)

/- THE SECOND FORM. 'bulk': how many values and letters a reading holds, each counted each time it is reached (what is shared counts as often as it is met; a slice's spare places count too). A statement '..UptoSaid' is the law's where the arguments, and the package variables that the reading takes, are together of bulk at most 1048576: NARROWER than '..Said'. Prove '..Said' where nothing that the law and all that it calls make is longer than what came in: it says more and counts as full. Else prove '..UptoSaid'. A law counts once. -/
mutual
def uptoBulk {H : Type} : DataW H → Nat
  | .lit (.string bytes) => bytes.length + 1
  | .lit _ => 1
  | .nil => 1
  | .ptr d => uptoBulk d + 1
  | .slice elems spare => uptoBulkAll elems + uptoBulkAll spare + 1
  | .agg parts => uptoBulkAll parts + 1
  | .iface _ d => uptoBulk d + 1
  | .map entries => uptoBulkEntries entries + 1
  | .held _ => 1
def uptoBulkAll {H : Type} : List (DataW H) → Nat
  | [] => 0
  | d :: r => uptoBulk d + uptoBulkAll r
def uptoBulkEntries {H : Type} : List (Lit × DataW H) → Nat
  | [] => 0
  | x :: r => uptoBulkEntry x + uptoBulkEntries r
def uptoBulkEntry {H : Type} : Lit × DataW H → Nat
  | (.string bytes, d) => bytes.length + uptoBulk d + 1
  | (_, d) => uptoBulk d + 1
 end
def uptoSmall : (H : Type) → List (DataW H) → Bool := fun _ ds => decide (uptoBulkAll ds ≤ 1048576)
def OpenSpec.upto (s : _root_.Go.ChangeSpec) : _root_.Go.OpenSpec := { _root_.Go.OpenSpec.ofChange s with cond := some uptoSmall }

/-- 'complinelaw23.RearmFirst', WHERE WHAT IT READS IS OF BULK AT MOST 1048576: true; the input reads as it did. -/
def rearmFirstUptoRow : OpenClaim := { program := "ytnjfefbeemicaaadoor", sum := "c15f7ce65df3c7eb83d5cd37e3b1aa4cf0964cbeec5afffaa1e78e01814818e8", func := "compline/complinelaw23.RearmFirst", spec := "rearmFirst", inPlace := ["math/bits.Sub64", "math/bits.Add64"], unfollowed := true, recurses := true, named := ["math/bits.deBruijn64tab"], apart := false, laid := [("math/bits.deBruijn64tab", laid_math_bits_deBruijn64tab)], narrowed := true }
def RearmFirstUptoSaid : Prop := rearmFirstUptoRow.holds Tryd.pinned (OpenSpec.upto rearmFirstSpec)

/-- 'complinelaw23.RearmAgain', WHERE WHAT IT READS IS OF BULK AT MOST 1048576: true; the input reads as it did. -/
def rearmAgainUptoRow : OpenClaim := { program := "ytnjfefbeemicaaadoor", sum := "c15f7ce65df3c7eb83d5cd37e3b1aa4cf0964cbeec5afffaa1e78e01814818e8", func := "compline/complinelaw23.RearmAgain", spec := "rearmAgain", inPlace := ["math/bits.Sub64", "math/bits.Add64"], unfollowed := true, recurses := true, named := ["math/bits.deBruijn64tab"], apart := false, laid := [("math/bits.deBruijn64tab", laid_math_bits_deBruijn64tab)], narrowed := true }
def RearmAgainUptoSaid : Prop := rearmAgainUptoRow.holds Tryd.pinned (OpenSpec.upto rearmAgainSpec)

/-- 'complinelaw23.RearmLater', WHERE WHAT IT READS IS OF BULK AT MOST 1048576: true; the input reads as it did. -/
def rearmLaterUptoRow : OpenClaim := { program := "ytnjfefbeemicaaadoor", sum := "c15f7ce65df3c7eb83d5cd37e3b1aa4cf0964cbeec5afffaa1e78e01814818e8", func := "compline/complinelaw23.RearmLater", spec := "rearmLater", inPlace := ["math/bits.Sub64", "math/bits.Add64"], unfollowed := true, recurses := true, named := ["math/bits.deBruijn64tab"], apart := false, laid := [("math/bits.deBruijn64tab", laid_math_bits_deBruijn64tab)], narrowed := true }
def RearmLaterUptoSaid : Prop := rearmLaterUptoRow.holds Tryd.pinned (OpenSpec.upto rearmLaterSpec)

/-- 'complinelaw23.RearmLeft', WHERE WHAT IT READS IS OF BULK AT MOST 1048576: true; the input reads as it did. -/
def rearmLeftUptoRow : OpenClaim := { program := "ytnjfefbeemicaaadoor", sum := "c15f7ce65df3c7eb83d5cd37e3b1aa4cf0964cbeec5afffaa1e78e01814818e8", func := "compline/complinelaw23.RearmLeft", spec := "rearmLeft", inPlace := ["math/bits.Sub64", "math/bits.Add64"], unfollowed := true, recurses := true, named := ["math/bits.deBruijn64tab"], apart := false, laid := [("math/bits.deBruijn64tab", laid_math_bits_deBruijn64tab)], narrowed := true }
def RearmLeftUptoSaid : Prop := rearmLeftUptoRow.holds Tryd.pinned (OpenSpec.upto rearmLeftSpec)

/-- 'complinelaw23.RearmEndless', WHERE WHAT IT READS IS OF BULK AT MOST 1048576: true; the input reads as it did. -/
def rearmEndlessUptoRow : OpenClaim := { program := "ytnjfefbeemicaaadoor", sum := "c15f7ce65df3c7eb83d5cd37e3b1aa4cf0964cbeec5afffaa1e78e01814818e8", func := "compline/complinelaw23.RearmEndless", spec := "rearmEndless", inPlace := ["math/bits.Sub64", "math/bits.Add64"], unfollowed := true, recurses := true, named := ["math/bits.deBruijn64tab"], apart := false, laid := [("math/bits.deBruijn64tab", laid_math_bits_deBruijn64tab)], narrowed := true }
def RearmEndlessUptoSaid : Prop := rearmEndlessUptoRow.holds Tryd.pinned (OpenSpec.upto rearmEndlessSpec)

/-- 'complinelaw23.RearmCron', WHERE WHAT IT READS IS OF BULK AT MOST 1048576: true; the input reads as it did. -/
def rearmCronUptoRow : OpenClaim := { program := "ytnjfefbeemicaaadoor", sum := "c15f7ce65df3c7eb83d5cd37e3b1aa4cf0964cbeec5afffaa1e78e01814818e8", func := "compline/complinelaw23.RearmCron", spec := "rearmCron", inPlace := ["math/bits.Sub64", "math/bits.Add64"], unfollowed := true, recurses := true, named := ["math/bits.deBruijn64tab"], apart := false, laid := [("math/bits.deBruijn64tab", laid_math_bits_deBruijn64tab)], narrowed := true }
def RearmCronUptoSaid : Prop := rearmCronUptoRow.holds Tryd.pinned (OpenSpec.upto rearmCronSpec)

/-- 'complinelaw18.FieldParses', WHERE WHAT IT READS IS OF BULK AT MOST 1048576: true; the input reads as it did. -/
def fieldParsesUptoRow : OpenClaim := { program := "ytnjfefbeemicaaadoor", sum := "c15f7ce65df3c7eb83d5cd37e3b1aa4cf0964cbeec5afffaa1e78e01814818e8", func := "compline/complinelaw18.FieldParses", spec := "fieldParses", inPlace := ["internal/bytealg.CountString", "internal/bytealg.IndexByteString", "internal/bytealg.IndexString", "internal/reflectlite.ValueOf", "(internal/reflectlite.Value).Type", "(internal/reflectlite.Value).IsNil", "internal/reflectlite.TypeOf", "(internal/reflectlite.Value).Elem", "(internal/reflectlite.Value).Set"], unfollowed := true, recurses := true, named := ["unicode/utf8.first", "unicode/utf8.acceptRanges", "internal/bytealg.MaxLen", "errors.errorType", "math/bits.deBruijn64tab"], apart := false, laid := [("math/bits.deBruijn64tab", laid_math_bits_deBruijn64tab), ("unicode/utf8.acceptRanges", laid_unicode_utf8_acceptRanges), ("errors.errorType", laid_errors_errorType), ("unicode/utf8.first", laid_unicode_utf8_first)], narrowed := true }
def FieldParsesUptoSaid : Prop := fieldParsesUptoRow.holds Tryd.pinned (OpenSpec.upto fieldParsesSpec)

/-- 'complinelaw18.FieldRuns', WHERE WHAT IT READS IS OF BULK AT MOST 1048576: true; the input reads as it did. -/
def fieldRunsUptoRow : OpenClaim := { program := "ytnjfefbeemicaaadoor", sum := "c15f7ce65df3c7eb83d5cd37e3b1aa4cf0964cbeec5afffaa1e78e01814818e8", func := "compline/complinelaw18.FieldRuns", spec := "fieldRuns", inPlace := ["internal/bytealg.CountString", "internal/bytealg.IndexByteString", "internal/bytealg.IndexString", "internal/reflectlite.ValueOf", "(internal/reflectlite.Value).Type", "(internal/reflectlite.Value).IsNil", "internal/reflectlite.TypeOf", "(internal/reflectlite.Value).Elem", "(internal/reflectlite.Value).Set"], unfollowed := true, recurses := true, named := ["unicode/utf8.first", "unicode/utf8.acceptRanges", "internal/bytealg.MaxLen", "errors.errorType", "math/bits.deBruijn64tab"], apart := false, laid := [("math/bits.deBruijn64tab", laid_math_bits_deBruijn64tab), ("unicode/utf8.acceptRanges", laid_unicode_utf8_acceptRanges), ("errors.errorType", laid_errors_errorType), ("unicode/utf8.first", laid_unicode_utf8_first)], narrowed := true }
def FieldRunsUptoSaid : Prop := fieldRunsUptoRow.holds Tryd.pinned (OpenSpec.upto fieldRunsSpec)

end Rows
end Go.Proofs.YtnjfefbeemicaaaDoor
