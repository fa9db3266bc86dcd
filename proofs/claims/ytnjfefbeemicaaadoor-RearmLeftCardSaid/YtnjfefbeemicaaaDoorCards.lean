/-
  DERIVED. GIVEN WITH THE SEED: THE CARDS: each row of YtnjfefbeemicaaaDoorRows.lean that lists a variable, with what it lists TIED to the program's text (the seventh form; the later family's looks); each row that meets fmt, with fmt's text TOLD by the authors' own Lean function (tested against real Go, not proved from fmt's source: count such statements apart). THE CARD IS WHAT COUNTS. Prove the row's statement (the work); the ties are given (YtnjfefbeemicaaaDoorTie.lean); close each card by the builder's one call (the guide's Derived/Test/ToyasCard.lean, 'card_holds'). Laid BY PROGRAM, IN A SANDBOX (cutbox-door.mjs). By AI agents, Wed Nov 11 2026. No macro, syntax, notation, axiom, sorry.
-/
import Derived.Test.YtnjfefbeemicaaaDoorRows
import GoSem.ClaimSeven
namespace Go.Proofs.YtnjfefbeemicaaaDoor
namespace Rows

/-- THE TIED CARD OF 'complinelaw23.RearmFirst'. -/
def rearmFirstCard : Claim7 := { stood := { row := rearmFirstRow, standIns := [], harness := (true, "e5704f04edcc688c45a131deda324905aa3f0b7d209bf4d516ef19201b703499"), looks := true }, kinds := [], alts := [], laidByText := true, laidKinds := [.data], laidTests := true, laidLooks := .later }
def RearmFirstCardSaid : Prop := Claim7.holds Tryd.pinned (.plain (OpenSpec.ofChange rearmFirstSpec)) rearmFirstCard

/-- THE TIED CARD OF 'complinelaw23.RearmAgain'. -/
def rearmAgainCard : Claim7 := { stood := { row := rearmAgainRow, standIns := [], harness := (true, "e5704f04edcc688c45a131deda324905aa3f0b7d209bf4d516ef19201b703499"), looks := true }, kinds := [], alts := [], laidByText := true, laidKinds := [.data], laidTests := true, laidLooks := .later }
def RearmAgainCardSaid : Prop := Claim7.holds Tryd.pinned (.plain (OpenSpec.ofChange rearmAgainSpec)) rearmAgainCard

/-- THE TIED CARD OF 'complinelaw23.RearmLater'. -/
def rearmLaterCard : Claim7 := { stood := { row := rearmLaterRow, standIns := [], harness := (true, "e5704f04edcc688c45a131deda324905aa3f0b7d209bf4d516ef19201b703499"), looks := true }, kinds := [], alts := [], laidByText := true, laidKinds := [.data], laidTests := true, laidLooks := .later }
def RearmLaterCardSaid : Prop := Claim7.holds Tryd.pinned (.plain (OpenSpec.ofChange rearmLaterSpec)) rearmLaterCard

/-- THE TIED CARD OF 'complinelaw23.RearmLeft'. -/
def rearmLeftCard : Claim7 := { stood := { row := rearmLeftRow, standIns := [], harness := (true, "e5704f04edcc688c45a131deda324905aa3f0b7d209bf4d516ef19201b703499"), looks := true }, kinds := [], alts := [], laidByText := true, laidKinds := [.data], laidTests := true, laidLooks := .later }
def RearmLeftCardSaid : Prop := Claim7.holds Tryd.pinned (.plain (OpenSpec.ofChange rearmLeftSpec)) rearmLeftCard

/-- THE TIED CARD OF 'complinelaw23.RearmEndless'. -/
def rearmEndlessCard : Claim7 := { stood := { row := rearmEndlessRow, standIns := [], harness := (true, "e5704f04edcc688c45a131deda324905aa3f0b7d209bf4d516ef19201b703499"), looks := true }, kinds := [], alts := [], laidByText := true, laidKinds := [.data], laidTests := true, laidLooks := .later }
def RearmEndlessCardSaid : Prop := Claim7.holds Tryd.pinned (.plain (OpenSpec.ofChange rearmEndlessSpec)) rearmEndlessCard

/-- THE TIED CARD OF 'complinelaw23.RearmCron'. -/
def rearmCronCard : Claim7 := { stood := { row := rearmCronRow, standIns := [], harness := (true, "e5704f04edcc688c45a131deda324905aa3f0b7d209bf4d516ef19201b703499"), looks := true }, kinds := [], alts := [], laidByText := true, laidKinds := [.data], laidTests := true, laidLooks := .later }
def RearmCronCardSaid : Prop := Claim7.holds Tryd.pinned (.plain (OpenSpec.ofChange rearmCronSpec)) rearmCronCard

/-- THE TIED CARD OF 'complinelaw18.FieldParses'. -/
def fieldParsesCard : Claim7 := { stood := { row := fieldParsesRow, standIns := [], harness := (true, "e5704f04edcc688c45a131deda324905aa3f0b7d209bf4d516ef19201b703499"), looks := true }, kinds := [], alts := [], laidByText := true, laidKinds := [.data, .data, .handle, .pinned], laidTests := true, laidLooks := .later }
def FieldParsesCardSaid : Prop := Claim7.holds Tryd.pinned (.plain (OpenSpec.ofChange fieldParsesSpec)) fieldParsesCard

/-- THE TIED CARD OF 'complinelaw18.FieldRuns'. -/
def fieldRunsCard : Claim7 := { stood := { row := fieldRunsRow, standIns := [], harness := (true, "e5704f04edcc688c45a131deda324905aa3f0b7d209bf4d516ef19201b703499"), looks := true }, kinds := [], alts := [], laidByText := true, laidKinds := [.data, .data, .handle, .pinned], laidTests := true, laidLooks := .later }
def FieldRunsCardSaid : Prop := Claim7.holds Tryd.pinned (.plain (OpenSpec.ofChange fieldRunsSpec)) fieldRunsCard

/-- THE SECOND FORM's CARD OF 'complinelaw23.RearmFirst'. -/
def rearmFirstUptoCard : Claim7 := { stood := { row := rearmFirstUptoRow, standIns := [], harness := (true, "e5704f04edcc688c45a131deda324905aa3f0b7d209bf4d516ef19201b703499"), looks := true }, kinds := [], alts := [], laidByText := true, laidKinds := [.data], laidTests := true, laidLooks := .later }
def RearmFirstUptoCardSaid : Prop := Claim7.holds Tryd.pinned (.plain (OpenSpec.upto rearmFirstSpec)) rearmFirstUptoCard

/-- THE SECOND FORM's CARD OF 'complinelaw23.RearmAgain'. -/
def rearmAgainUptoCard : Claim7 := { stood := { row := rearmAgainUptoRow, standIns := [], harness := (true, "e5704f04edcc688c45a131deda324905aa3f0b7d209bf4d516ef19201b703499"), looks := true }, kinds := [], alts := [], laidByText := true, laidKinds := [.data], laidTests := true, laidLooks := .later }
def RearmAgainUptoCardSaid : Prop := Claim7.holds Tryd.pinned (.plain (OpenSpec.upto rearmAgainSpec)) rearmAgainUptoCard

/-- THE SECOND FORM's CARD OF 'complinelaw23.RearmLater'. -/
def rearmLaterUptoCard : Claim7 := { stood := { row := rearmLaterUptoRow, standIns := [], harness := (true, "e5704f04edcc688c45a131deda324905aa3f0b7d209bf4d516ef19201b703499"), looks := true }, kinds := [], alts := [], laidByText := true, laidKinds := [.data], laidTests := true, laidLooks := .later }
def RearmLaterUptoCardSaid : Prop := Claim7.holds Tryd.pinned (.plain (OpenSpec.upto rearmLaterSpec)) rearmLaterUptoCard

/-- THE SECOND FORM's CARD OF 'complinelaw23.RearmLeft'. -/
def rearmLeftUptoCard : Claim7 := { stood := { row := rearmLeftUptoRow, standIns := [], harness := (true, "e5704f04edcc688c45a131deda324905aa3f0b7d209bf4d516ef19201b703499"), looks := true }, kinds := [], alts := [], laidByText := true, laidKinds := [.data], laidTests := true, laidLooks := .later }
def RearmLeftUptoCardSaid : Prop := Claim7.holds Tryd.pinned (.plain (OpenSpec.upto rearmLeftSpec)) rearmLeftUptoCard

/-- THE SECOND FORM's CARD OF 'complinelaw23.RearmEndless'. -/
def rearmEndlessUptoCard : Claim7 := { stood := { row := rearmEndlessUptoRow, standIns := [], harness := (true, "e5704f04edcc688c45a131deda324905aa3f0b7d209bf4d516ef19201b703499"), looks := true }, kinds := [], alts := [], laidByText := true, laidKinds := [.data], laidTests := true, laidLooks := .later }
def RearmEndlessUptoCardSaid : Prop := Claim7.holds Tryd.pinned (.plain (OpenSpec.upto rearmEndlessSpec)) rearmEndlessUptoCard

/-- THE SECOND FORM's CARD OF 'complinelaw23.RearmCron'. -/
def rearmCronUptoCard : Claim7 := { stood := { row := rearmCronUptoRow, standIns := [], harness := (true, "e5704f04edcc688c45a131deda324905aa3f0b7d209bf4d516ef19201b703499"), looks := true }, kinds := [], alts := [], laidByText := true, laidKinds := [.data], laidTests := true, laidLooks := .later }
def RearmCronUptoCardSaid : Prop := Claim7.holds Tryd.pinned (.plain (OpenSpec.upto rearmCronSpec)) rearmCronUptoCard

/-- THE SECOND FORM's CARD OF 'complinelaw18.FieldParses'. -/
def fieldParsesUptoCard : Claim7 := { stood := { row := fieldParsesUptoRow, standIns := [], harness := (true, "e5704f04edcc688c45a131deda324905aa3f0b7d209bf4d516ef19201b703499"), looks := true }, kinds := [], alts := [], laidByText := true, laidKinds := [.data, .data, .handle, .pinned], laidTests := true, laidLooks := .later }
def FieldParsesUptoCardSaid : Prop := Claim7.holds Tryd.pinned (.plain (OpenSpec.upto fieldParsesSpec)) fieldParsesUptoCard

/-- THE SECOND FORM's CARD OF 'complinelaw18.FieldRuns'. -/
def fieldRunsUptoCard : Claim7 := { stood := { row := fieldRunsUptoRow, standIns := [], harness := (true, "e5704f04edcc688c45a131deda324905aa3f0b7d209bf4d516ef19201b703499"), looks := true }, kinds := [], alts := [], laidByText := true, laidKinds := [.data, .data, .handle, .pinned], laidTests := true, laidLooks := .later }
def FieldRunsUptoCardSaid : Prop := Claim7.holds Tryd.pinned (.plain (OpenSpec.upto fieldRunsSpec)) fieldRunsUptoCard
end Rows
end Go.Proofs.YtnjfefbeemicaaaDoor
