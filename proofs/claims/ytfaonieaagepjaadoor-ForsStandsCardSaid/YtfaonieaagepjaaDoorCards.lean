/-
  DERIVED. GIVEN WITH THE SEED: THE CARDS: each row of YtfaonieaagepjaaDoorRows.lean that lists a variable, with what it lists TIED to the program's text (the seventh form; the later family's looks); each row that meets fmt, with fmt's text TOLD by the authors' own Lean function (tested against real Go, not proved from fmt's source: count such statements apart). THE CARD IS WHAT COUNTS. Prove the row's statement (the work); the ties are given (YtfaonieaagepjaaDoorTie.lean); close each card by the builder's one call (the guide's Derived/Test/ToyasCard.lean, 'card_holds'). Laid BY PROGRAM, IN A SANDBOX (cutbox-door.mjs). By AI agents, Wed Nov 11 2026. No macro, syntax, notation, axiom, sorry.
-/
import Derived.Test.YtfaonieaagepjaaDoorRows
import GoSem.ClaimSeven
namespace Go.Proofs.YtfaonieaagepjaaDoor
namespace Rows

/-- THE TIED CARD OF 'tearofflaw17.ForsStands'. -/
def forsStandsCard : Claim7 := { stood := { row := forsStandsRow, standIns := [], harness := (true, "4eb5cfb82c9592e22c9479d383e5e730d941360695f333944a493a349e3a3a36"), looks := false }, kinds := [], alts := [], laidByText := true, laidKinds := [.data, .data], laidTests := true, laidLooks := .later }
def ForsStandsCardSaid : Prop := Claim7.holds Tryd.pinned (.plain (OpenSpec.ofChange forsStandsSpec)) forsStandsCard

/-- THE TIED CARD OF 'tearofflaw17.ForsDigits'. -/
def forsDigitsCard : Claim7 := { stood := { row := forsDigitsRow, standIns := [], harness := (true, "4eb5cfb82c9592e22c9479d383e5e730d941360695f333944a493a349e3a3a36"), looks := false }, kinds := [], alts := [], laidByText := true, laidKinds := [.data, .data], laidTests := true, laidLooks := .later }
def ForsDigitsCardSaid : Prop := Claim7.holds Tryd.pinned (.plain (OpenSpec.ofChange forsDigitsSpec)) forsDigitsCard

/-- THE TIED CARD OF 'tearofflaw17.ForsTells'. -/
def forsTellsCard : Claim7 := { stood := { row := forsTellsRow, standIns := [], harness := (true, "4eb5cfb82c9592e22c9479d383e5e730d941360695f333944a493a349e3a3a36"), looks := false }, kinds := [], alts := [], laidByText := true, laidKinds := [.data, .data], laidTests := true, laidLooks := .later }
def ForsTellsCardSaid : Prop := Claim7.holds Tryd.pinned (.plain (OpenSpec.ofChange forsTellsSpec)) forsTellsCard

/-- THE TIED CARD OF 'tearofflaw17.ForsKeeps'. -/
def forsKeepsCard : Claim7 := { stood := { row := forsKeepsRow, standIns := [], harness := (true, "4eb5cfb82c9592e22c9479d383e5e730d941360695f333944a493a349e3a3a36"), looks := false }, kinds := [], alts := [], laidByText := true, laidKinds := [.data, .data], laidTests := true, laidLooks := .later }
def ForsKeepsCardSaid : Prop := Claim7.holds Tryd.pinned (.plain (OpenSpec.ofChange forsKeepsSpec)) forsKeepsCard

/-- THE TIED CARD OF 'tearofflaw14.AdrsSums'. -/
def adrsSumsCard : Claim7 := { stood := { row := adrsSumsRow, standIns := [], harness := (true, "4eb5cfb82c9592e22c9479d383e5e730d941360695f333944a493a349e3a3a36"), looks := false }, kinds := [], alts := [], laidByText := true, laidKinds := [.data, .data, .data, .data], laidTests := true, laidLooks := .later }
def AdrsSumsCardSaid : Prop := Claim7.holds Tryd.pinned (.plain (OpenSpec.ofChange adrsSumsSpec)) adrsSumsCard

/-- THE TIED CARD OF 'tearofflaw14.AdrsApart'. -/
def adrsApartCard : Claim7 := { stood := { row := adrsApartRow, standIns := [], harness := (true, "4eb5cfb82c9592e22c9479d383e5e730d941360695f333944a493a349e3a3a36"), looks := false }, kinds := [], alts := [], laidByText := true, laidKinds := [.data, .data, .data, .data], laidTests := true, laidLooks := .later }
def AdrsApartCardSaid : Prop := Claim7.holds Tryd.pinned (.plain (OpenSpec.ofChange adrsApartSpec)) adrsApartCard

/-- THE TIED CARD OF 'tearofflaw14.AdrsNums'. -/
def adrsNumsCard : Claim7 := { stood := { row := adrsNumsRow, standIns := [], harness := (true, "4eb5cfb82c9592e22c9479d383e5e730d941360695f333944a493a349e3a3a36"), looks := false }, kinds := [], alts := [], laidByText := true, laidKinds := [.data, .data, .data, .data], laidTests := true, laidLooks := .later }
def AdrsNumsCardSaid : Prop := Claim7.holds Tryd.pinned (.plain (OpenSpec.ofChange adrsNumsSpec)) adrsNumsCard

/-- THE TIED CARD OF 'tearofflaw14.AdrsLengths'. -/
def adrsLengthsCard : Claim7 := { stood := { row := adrsLengthsRow, standIns := [], harness := (true, "4eb5cfb82c9592e22c9479d383e5e730d941360695f333944a493a349e3a3a36"), looks := false }, kinds := [], alts := [], laidByText := true, laidKinds := [.data, .data, .data, .data], laidTests := true, laidLooks := .later }
def AdrsLengthsCardSaid : Prop := Claim7.holds Tryd.pinned (.plain (OpenSpec.ofChange adrsLengthsSpec)) adrsLengthsCard

/-- THE TIED CARD OF 'tearofflaw14.AdrsMasked'. -/
def adrsMaskedCard : Claim7 := { stood := { row := adrsMaskedRow, standIns := [], harness := (true, "4eb5cfb82c9592e22c9479d383e5e730d941360695f333944a493a349e3a3a36"), looks := false }, kinds := [], alts := [], laidByText := true, laidKinds := [.data, .data, .data, .data], laidTests := true, laidLooks := .later }
def AdrsMaskedCardSaid : Prop := Claim7.holds Tryd.pinned (.plain (OpenSpec.ofChange adrsMaskedSpec)) adrsMaskedCard

/-- THE SECOND FORM's CARD OF 'tearofflaw17.ForsStands'. -/
def forsStandsUptoCard : Claim7 := { stood := { row := forsStandsUptoRow, standIns := [], harness := (true, "4eb5cfb82c9592e22c9479d383e5e730d941360695f333944a493a349e3a3a36"), looks := false }, kinds := [], alts := [], laidByText := true, laidKinds := [.data, .data], laidTests := true, laidLooks := .later }
def ForsStandsUptoCardSaid : Prop := Claim7.holds Tryd.pinned (.plain (OpenSpec.upto forsStandsSpec)) forsStandsUptoCard

/-- THE SECOND FORM's CARD OF 'tearofflaw17.ForsDigits'. -/
def forsDigitsUptoCard : Claim7 := { stood := { row := forsDigitsUptoRow, standIns := [], harness := (true, "4eb5cfb82c9592e22c9479d383e5e730d941360695f333944a493a349e3a3a36"), looks := false }, kinds := [], alts := [], laidByText := true, laidKinds := [.data, .data], laidTests := true, laidLooks := .later }
def ForsDigitsUptoCardSaid : Prop := Claim7.holds Tryd.pinned (.plain (OpenSpec.upto forsDigitsSpec)) forsDigitsUptoCard

/-- THE SECOND FORM's CARD OF 'tearofflaw17.ForsTells'. -/
def forsTellsUptoCard : Claim7 := { stood := { row := forsTellsUptoRow, standIns := [], harness := (true, "4eb5cfb82c9592e22c9479d383e5e730d941360695f333944a493a349e3a3a36"), looks := false }, kinds := [], alts := [], laidByText := true, laidKinds := [.data, .data], laidTests := true, laidLooks := .later }
def ForsTellsUptoCardSaid : Prop := Claim7.holds Tryd.pinned (.plain (OpenSpec.upto forsTellsSpec)) forsTellsUptoCard

/-- THE SECOND FORM's CARD OF 'tearofflaw17.ForsKeeps'. -/
def forsKeepsUptoCard : Claim7 := { stood := { row := forsKeepsUptoRow, standIns := [], harness := (true, "4eb5cfb82c9592e22c9479d383e5e730d941360695f333944a493a349e3a3a36"), looks := false }, kinds := [], alts := [], laidByText := true, laidKinds := [.data, .data], laidTests := true, laidLooks := .later }
def ForsKeepsUptoCardSaid : Prop := Claim7.holds Tryd.pinned (.plain (OpenSpec.upto forsKeepsSpec)) forsKeepsUptoCard

/-- THE SECOND FORM's CARD OF 'tearofflaw14.AdrsSums'. -/
def adrsSumsUptoCard : Claim7 := { stood := { row := adrsSumsUptoRow, standIns := [], harness := (true, "4eb5cfb82c9592e22c9479d383e5e730d941360695f333944a493a349e3a3a36"), looks := false }, kinds := [], alts := [], laidByText := true, laidKinds := [.data, .data, .data, .data], laidTests := true, laidLooks := .later }
def AdrsSumsUptoCardSaid : Prop := Claim7.holds Tryd.pinned (.plain (OpenSpec.upto adrsSumsSpec)) adrsSumsUptoCard

/-- THE SECOND FORM's CARD OF 'tearofflaw14.AdrsApart'. -/
def adrsApartUptoCard : Claim7 := { stood := { row := adrsApartUptoRow, standIns := [], harness := (true, "4eb5cfb82c9592e22c9479d383e5e730d941360695f333944a493a349e3a3a36"), looks := false }, kinds := [], alts := [], laidByText := true, laidKinds := [.data, .data, .data, .data], laidTests := true, laidLooks := .later }
def AdrsApartUptoCardSaid : Prop := Claim7.holds Tryd.pinned (.plain (OpenSpec.upto adrsApartSpec)) adrsApartUptoCard

/-- THE SECOND FORM's CARD OF 'tearofflaw14.AdrsNums'. -/
def adrsNumsUptoCard : Claim7 := { stood := { row := adrsNumsUptoRow, standIns := [], harness := (true, "4eb5cfb82c9592e22c9479d383e5e730d941360695f333944a493a349e3a3a36"), looks := false }, kinds := [], alts := [], laidByText := true, laidKinds := [.data, .data, .data, .data], laidTests := true, laidLooks := .later }
def AdrsNumsUptoCardSaid : Prop := Claim7.holds Tryd.pinned (.plain (OpenSpec.upto adrsNumsSpec)) adrsNumsUptoCard

/-- THE SECOND FORM's CARD OF 'tearofflaw14.AdrsLengths'. -/
def adrsLengthsUptoCard : Claim7 := { stood := { row := adrsLengthsUptoRow, standIns := [], harness := (true, "4eb5cfb82c9592e22c9479d383e5e730d941360695f333944a493a349e3a3a36"), looks := false }, kinds := [], alts := [], laidByText := true, laidKinds := [.data, .data, .data, .data], laidTests := true, laidLooks := .later }
def AdrsLengthsUptoCardSaid : Prop := Claim7.holds Tryd.pinned (.plain (OpenSpec.upto adrsLengthsSpec)) adrsLengthsUptoCard

/-- THE SECOND FORM's CARD OF 'tearofflaw14.AdrsMasked'. -/
def adrsMaskedUptoCard : Claim7 := { stood := { row := adrsMaskedUptoRow, standIns := [], harness := (true, "4eb5cfb82c9592e22c9479d383e5e730d941360695f333944a493a349e3a3a36"), looks := false }, kinds := [], alts := [], laidByText := true, laidKinds := [.data, .data, .data, .data], laidTests := true, laidLooks := .later }
def AdrsMaskedUptoCardSaid : Prop := Claim7.holds Tryd.pinned (.plain (OpenSpec.upto adrsMaskedSpec)) adrsMaskedUptoCard
end Rows
end Go.Proofs.YtfaonieaagepjaaDoor
