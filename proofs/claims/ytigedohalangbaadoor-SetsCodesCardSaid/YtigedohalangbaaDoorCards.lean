/-
  DERIVED. GIVEN WITH THE SEED: THE CARDS: each row of YtigedohalangbaaDoorRows.lean that lists a variable, with what it lists TIED to the program's text (the seventh form; the later family's looks); each row that meets fmt, with fmt's text TOLD by the authors' own Lean function (tested against real Go, not proved from fmt's source: count such statements apart). THE CARD IS WHAT COUNTS. Prove the row's statement (the work); the ties are given (YtigedohalangbaaDoorTie.lean); close each card by the builder's one call (the guide's Derived/Test/ToyasCard.lean, 'card_holds'). Laid BY PROGRAM, IN A SANDBOX (cutbox-door.mjs). By AI agents, Wed Nov 11 2026. No macro, syntax, notation, axiom, sorry.
-/
import Derived.Test.YtigedohalangbaaDoorRows
import GoSem.ClaimSeven
namespace Go.Proofs.YtigedohalangbaaDoor
namespace Rows

/-- THE TIED CARD OF 'tearofflaw08.SetsTell'. -/
def setsTellCard : Claim7 := { stood := { row := setsTellRow, standIns := [], harness := (true, "b5ec289e3a2e11b55a0d102ed22ec6a339b11febc5f1663c62fb0d8460597e23"), looks := true }, kinds := [], alts := [], laidByText := true, laidKinds := [.data, .data, .data, .data], laidTests := true, laidLooks := .later }
def SetsTellCardSaid : Prop := Claim7.holds Tryd.pinned (.plain (OpenSpec.ofChange setsTellSpec)) setsTellCard

/-- THE TIED CARD OF 'tearofflaw08.SetsCodes'. -/
def setsCodesCard : Claim7 := { stood := { row := setsCodesRow, standIns := [], harness := (true, "b5ec289e3a2e11b55a0d102ed22ec6a339b11febc5f1663c62fb0d8460597e23"), looks := true }, kinds := [], alts := [], laidByText := true, laidKinds := [.data, .data, .data, .data], laidTests := true, laidLooks := .later }
def SetsCodesCardSaid : Prop := Claim7.holds Tryd.pinned (.plain (OpenSpec.ofChange setsCodesSpec)) setsCodesCard

/-- THE TIED CARD OF 'tearofflaw08.SetsFit'. -/
def setsFitCard : Claim7 := { stood := { row := setsFitRow, standIns := [], harness := (true, "b5ec289e3a2e11b55a0d102ed22ec6a339b11febc5f1663c62fb0d8460597e23"), looks := true }, kinds := [], alts := [], laidByText := true, laidKinds := [.data, .data, .data, .data], laidTests := true, laidLooks := .later }
def SetsFitCardSaid : Prop := Claim7.holds Tryd.pinned (.plain (OpenSpec.ofChange setsFitSpec)) setsFitCard

/-- THE TIED CARD OF 'tearofflaw08.SetsLeaves'. -/
def setsLeavesCard : Claim7 := { stood := { row := setsLeavesRow, standIns := [], harness := (true, "b5ec289e3a2e11b55a0d102ed22ec6a339b11febc5f1663c62fb0d8460597e23"), looks := true }, kinds := [], alts := [], laidByText := true, laidKinds := [.data, .data, .data, .data], laidTests := true, laidLooks := .later }
def SetsLeavesCardSaid : Prop := Claim7.holds Tryd.pinned (.plain (OpenSpec.ofChange setsLeavesSpec)) setsLeavesCard

/-- THE TIED CARD OF 'tearofflaw08.SetsDigits'. -/
def setsDigitsCard : Claim7 := { stood := { row := setsDigitsRow, standIns := [], harness := (true, "b5ec289e3a2e11b55a0d102ed22ec6a339b11febc5f1663c62fb0d8460597e23"), looks := true }, kinds := [], alts := [], laidByText := true, laidKinds := [.data, .data, .data, .data], laidTests := true, laidLooks := .later }
def SetsDigitsCardSaid : Prop := Claim7.holds Tryd.pinned (.plain (OpenSpec.ofChange setsDigitsSpec)) setsDigitsCard

/-- THE SECOND FORM's CARD OF 'tearofflaw08.SetsTell'. -/
def setsTellUptoCard : Claim7 := { stood := { row := setsTellUptoRow, standIns := [], harness := (true, "b5ec289e3a2e11b55a0d102ed22ec6a339b11febc5f1663c62fb0d8460597e23"), looks := true }, kinds := [], alts := [], laidByText := true, laidKinds := [.data, .data, .data, .data], laidTests := true, laidLooks := .later }
def SetsTellUptoCardSaid : Prop := Claim7.holds Tryd.pinned (.plain (OpenSpec.upto setsTellSpec)) setsTellUptoCard

/-- THE SECOND FORM's CARD OF 'tearofflaw08.SetsCodes'. -/
def setsCodesUptoCard : Claim7 := { stood := { row := setsCodesUptoRow, standIns := [], harness := (true, "b5ec289e3a2e11b55a0d102ed22ec6a339b11febc5f1663c62fb0d8460597e23"), looks := true }, kinds := [], alts := [], laidByText := true, laidKinds := [.data, .data, .data, .data], laidTests := true, laidLooks := .later }
def SetsCodesUptoCardSaid : Prop := Claim7.holds Tryd.pinned (.plain (OpenSpec.upto setsCodesSpec)) setsCodesUptoCard

/-- THE SECOND FORM's CARD OF 'tearofflaw08.SetsFit'. -/
def setsFitUptoCard : Claim7 := { stood := { row := setsFitUptoRow, standIns := [], harness := (true, "b5ec289e3a2e11b55a0d102ed22ec6a339b11febc5f1663c62fb0d8460597e23"), looks := true }, kinds := [], alts := [], laidByText := true, laidKinds := [.data, .data, .data, .data], laidTests := true, laidLooks := .later }
def SetsFitUptoCardSaid : Prop := Claim7.holds Tryd.pinned (.plain (OpenSpec.upto setsFitSpec)) setsFitUptoCard

/-- THE SECOND FORM's CARD OF 'tearofflaw08.SetsLeaves'. -/
def setsLeavesUptoCard : Claim7 := { stood := { row := setsLeavesUptoRow, standIns := [], harness := (true, "b5ec289e3a2e11b55a0d102ed22ec6a339b11febc5f1663c62fb0d8460597e23"), looks := true }, kinds := [], alts := [], laidByText := true, laidKinds := [.data, .data, .data, .data], laidTests := true, laidLooks := .later }
def SetsLeavesUptoCardSaid : Prop := Claim7.holds Tryd.pinned (.plain (OpenSpec.upto setsLeavesSpec)) setsLeavesUptoCard

/-- THE SECOND FORM's CARD OF 'tearofflaw08.SetsDigits'. -/
def setsDigitsUptoCard : Claim7 := { stood := { row := setsDigitsUptoRow, standIns := [], harness := (true, "b5ec289e3a2e11b55a0d102ed22ec6a339b11febc5f1663c62fb0d8460597e23"), looks := true }, kinds := [], alts := [], laidByText := true, laidKinds := [.data, .data, .data, .data], laidTests := true, laidLooks := .later }
def SetsDigitsUptoCardSaid : Prop := Claim7.holds Tryd.pinned (.plain (OpenSpec.upto setsDigitsSpec)) setsDigitsUptoCard
end Rows
end Go.Proofs.YtigedohalangbaaDoor
