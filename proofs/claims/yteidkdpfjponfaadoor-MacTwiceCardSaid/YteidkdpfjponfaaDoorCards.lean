/-
  DERIVED. GIVEN WITH THE SEED: THE CARDS: each row of YteidkdpfjponfaaDoorRows.lean that lists a variable, with what it lists TIED to the program's text (the seventh form; the later family's looks); each row that meets fmt, with fmt's text TOLD by the authors' own Lean function (tested against real Go, not proved from fmt's source: count such statements apart). THE CARD IS WHAT COUNTS. Prove the row's statement (the work); the ties are given (YteidkdpfjponfaaDoorTie.lean); close each card by the builder's one call (the guide's Derived/Test/ToyasCard.lean, 'card_holds'). Laid BY PROGRAM, IN A SANDBOX (cutbox-door.mjs). By AI agents, Wed Nov 11 2026. No macro, syntax, notation, axiom, sorry.
-/
import Derived.Test.YteidkdpfjponfaaDoorRows
import GoSem.ClaimSeven
namespace Go.Proofs.YteidkdpfjponfaaDoor
namespace Rows

/-- THE TIED CARD OF 'tearofflaw02.Sha2Sums'. -/
def sha2SumsCard : Claim7 := { stood := { row := sha2SumsRow, standIns := [], harness := (true, "f9831e01cb14c9bfdd9acfd5e9ee13fdb3a768b48d4c668ddfbdc5671e68fa5d"), looks := false }, kinds := [], alts := [], laidByText := true, laidKinds := [.data, .data], laidTests := true, laidLooks := .later }
def Sha2SumsCardSaid : Prop := Claim7.holds Tryd.pinned (.plain (OpenSpec.ofChange sha2SumsSpec)) sha2SumsCard

/-- THE TIED CARD OF 'tearofflaw02.Sha2Turns'. -/
def sha2TurnsCard : Claim7 := { stood := { row := sha2TurnsRow, standIns := [], harness := (true, "f9831e01cb14c9bfdd9acfd5e9ee13fdb3a768b48d4c668ddfbdc5671e68fa5d"), looks := false }, kinds := [], alts := [], laidByText := true, laidKinds := [.data, .data], laidTests := true, laidLooks := .later }
def Sha2TurnsCardSaid : Prop := Claim7.holds Tryd.pinned (.plain (OpenSpec.ofChange sha2TurnsSpec)) sha2TurnsCard

/-- THE TIED CARD OF 'tearofflaw02.Sha2Parts'. -/
def sha2PartsCard : Claim7 := { stood := { row := sha2PartsRow, standIns := [], harness := (true, "f9831e01cb14c9bfdd9acfd5e9ee13fdb3a768b48d4c668ddfbdc5671e68fa5d"), looks := false }, kinds := [], alts := [], laidByText := true, laidKinds := [.data, .data], laidTests := true, laidLooks := .later }
def Sha2PartsCardSaid : Prop := Claim7.holds Tryd.pinned (.plain (OpenSpec.ofChange sha2PartsSpec)) sha2PartsCard

/-- THE TIED CARD OF 'tearofflaw02.Sha2Blocks'. -/
def sha2BlocksCard : Claim7 := { stood := { row := sha2BlocksRow, standIns := [], harness := (true, "f9831e01cb14c9bfdd9acfd5e9ee13fdb3a768b48d4c668ddfbdc5671e68fa5d"), looks := false }, kinds := [], alts := [], laidByText := true, laidKinds := [.data, .data], laidTests := true, laidLooks := .later }
def Sha2BlocksCardSaid : Prop := Claim7.holds Tryd.pinned (.plain (OpenSpec.ofChange sha2BlocksSpec)) sha2BlocksCard

/-- THE TIED CARD OF 'tearofflaw02.Sha2Again'. -/
def sha2AgainCard : Claim7 := { stood := { row := sha2AgainRow, standIns := [], harness := (true, "f9831e01cb14c9bfdd9acfd5e9ee13fdb3a768b48d4c668ddfbdc5671e68fa5d"), looks := false }, kinds := [], alts := [], laidByText := true, laidKinds := [.data, .data], laidTests := true, laidLooks := .later }
def Sha2AgainCardSaid : Prop := Claim7.holds Tryd.pinned (.plain (OpenSpec.ofChange sha2AgainSpec)) sha2AgainCard

/-- THE TIED CARD OF 'tearofflaw02.Sha2Adds'. -/
def sha2AddsCard : Claim7 := { stood := { row := sha2AddsRow, standIns := [], harness := (true, "f9831e01cb14c9bfdd9acfd5e9ee13fdb3a768b48d4c668ddfbdc5671e68fa5d"), looks := false }, kinds := [], alts := [], laidByText := true, laidKinds := [.data, .data], laidTests := true, laidLooks := .later }
def Sha2AddsCardSaid : Prop := Claim7.holds Tryd.pinned (.plain (OpenSpec.ofChange sha2AddsSpec)) sha2AddsCard

/-- THE TIED CARD OF 'tearofflaw06.MacSums'. -/
def macSumsCard : Claim7 := { stood := { row := macSumsRow, standIns := [], harness := (true, "f9831e01cb14c9bfdd9acfd5e9ee13fdb3a768b48d4c668ddfbdc5671e68fa5d"), looks := false }, kinds := [], alts := [], laidByText := true, laidKinds := [.data, .data, .data, .data], laidTests := true, laidLooks := .later }
def MacSumsCardSaid : Prop := Claim7.holds Tryd.pinned (.plain (OpenSpec.ofChange macSumsSpec)) macSumsCard

/-- THE TIED CARD OF 'tearofflaw06.MacKeys'. -/
def macKeysCard : Claim7 := { stood := { row := macKeysRow, standIns := [], harness := (true, "f9831e01cb14c9bfdd9acfd5e9ee13fdb3a768b48d4c668ddfbdc5671e68fa5d"), looks := false }, kinds := [], alts := [], laidByText := true, laidKinds := [.data, .data, .data, .data], laidTests := true, laidLooks := .later }
def MacKeysCardSaid : Prop := Claim7.holds Tryd.pinned (.plain (OpenSpec.ofChange macKeysSpec)) macKeysCard

/-- THE TIED CARD OF 'tearofflaw06.MacParts'. -/
def macPartsCard : Claim7 := { stood := { row := macPartsRow, standIns := [], harness := (true, "f9831e01cb14c9bfdd9acfd5e9ee13fdb3a768b48d4c668ddfbdc5671e68fa5d"), looks := false }, kinds := [], alts := [], laidByText := true, laidKinds := [.data, .data, .data, .data], laidTests := true, laidLooks := .later }
def MacPartsCardSaid : Prop := Claim7.holds Tryd.pinned (.plain (OpenSpec.ofChange macPartsSpec)) macPartsCard

/-- THE TIED CARD OF 'tearofflaw06.MacKinds'. -/
def macKindsCard : Claim7 := { stood := { row := macKindsRow, standIns := [], harness := (true, "f9831e01cb14c9bfdd9acfd5e9ee13fdb3a768b48d4c668ddfbdc5671e68fa5d"), looks := false }, kinds := [], alts := [], laidByText := true, laidKinds := [.data, .data, .data, .data], laidTests := true, laidLooks := .later }
def MacKindsCardSaid : Prop := Claim7.holds Tryd.pinned (.plain (OpenSpec.ofChange macKindsSpec)) macKindsCard

/-- THE TIED CARD OF 'tearofflaw06.MacTwice'. -/
def macTwiceCard : Claim7 := { stood := { row := macTwiceRow, standIns := [], harness := (true, "f9831e01cb14c9bfdd9acfd5e9ee13fdb3a768b48d4c668ddfbdc5671e68fa5d"), looks := false }, kinds := [], alts := [], laidByText := true, laidKinds := [.data, .data, .data, .data], laidTests := true, laidLooks := .later }
def MacTwiceCardSaid : Prop := Claim7.holds Tryd.pinned (.plain (OpenSpec.ofChange macTwiceSpec)) macTwiceCard

/-- THE SECOND FORM's CARD OF 'tearofflaw02.Sha2Sums'. -/
def sha2SumsUptoCard : Claim7 := { stood := { row := sha2SumsUptoRow, standIns := [], harness := (true, "f9831e01cb14c9bfdd9acfd5e9ee13fdb3a768b48d4c668ddfbdc5671e68fa5d"), looks := false }, kinds := [], alts := [], laidByText := true, laidKinds := [.data, .data], laidTests := true, laidLooks := .later }
def Sha2SumsUptoCardSaid : Prop := Claim7.holds Tryd.pinned (.plain (OpenSpec.upto sha2SumsSpec)) sha2SumsUptoCard

/-- THE SECOND FORM's CARD OF 'tearofflaw02.Sha2Turns'. -/
def sha2TurnsUptoCard : Claim7 := { stood := { row := sha2TurnsUptoRow, standIns := [], harness := (true, "f9831e01cb14c9bfdd9acfd5e9ee13fdb3a768b48d4c668ddfbdc5671e68fa5d"), looks := false }, kinds := [], alts := [], laidByText := true, laidKinds := [.data, .data], laidTests := true, laidLooks := .later }
def Sha2TurnsUptoCardSaid : Prop := Claim7.holds Tryd.pinned (.plain (OpenSpec.upto sha2TurnsSpec)) sha2TurnsUptoCard

/-- THE SECOND FORM's CARD OF 'tearofflaw02.Sha2Parts'. -/
def sha2PartsUptoCard : Claim7 := { stood := { row := sha2PartsUptoRow, standIns := [], harness := (true, "f9831e01cb14c9bfdd9acfd5e9ee13fdb3a768b48d4c668ddfbdc5671e68fa5d"), looks := false }, kinds := [], alts := [], laidByText := true, laidKinds := [.data, .data], laidTests := true, laidLooks := .later }
def Sha2PartsUptoCardSaid : Prop := Claim7.holds Tryd.pinned (.plain (OpenSpec.upto sha2PartsSpec)) sha2PartsUptoCard

/-- THE SECOND FORM's CARD OF 'tearofflaw02.Sha2Blocks'. -/
def sha2BlocksUptoCard : Claim7 := { stood := { row := sha2BlocksUptoRow, standIns := [], harness := (true, "f9831e01cb14c9bfdd9acfd5e9ee13fdb3a768b48d4c668ddfbdc5671e68fa5d"), looks := false }, kinds := [], alts := [], laidByText := true, laidKinds := [.data, .data], laidTests := true, laidLooks := .later }
def Sha2BlocksUptoCardSaid : Prop := Claim7.holds Tryd.pinned (.plain (OpenSpec.upto sha2BlocksSpec)) sha2BlocksUptoCard

/-- THE SECOND FORM's CARD OF 'tearofflaw02.Sha2Again'. -/
def sha2AgainUptoCard : Claim7 := { stood := { row := sha2AgainUptoRow, standIns := [], harness := (true, "f9831e01cb14c9bfdd9acfd5e9ee13fdb3a768b48d4c668ddfbdc5671e68fa5d"), looks := false }, kinds := [], alts := [], laidByText := true, laidKinds := [.data, .data], laidTests := true, laidLooks := .later }
def Sha2AgainUptoCardSaid : Prop := Claim7.holds Tryd.pinned (.plain (OpenSpec.upto sha2AgainSpec)) sha2AgainUptoCard

/-- THE SECOND FORM's CARD OF 'tearofflaw02.Sha2Adds'. -/
def sha2AddsUptoCard : Claim7 := { stood := { row := sha2AddsUptoRow, standIns := [], harness := (true, "f9831e01cb14c9bfdd9acfd5e9ee13fdb3a768b48d4c668ddfbdc5671e68fa5d"), looks := false }, kinds := [], alts := [], laidByText := true, laidKinds := [.data, .data], laidTests := true, laidLooks := .later }
def Sha2AddsUptoCardSaid : Prop := Claim7.holds Tryd.pinned (.plain (OpenSpec.upto sha2AddsSpec)) sha2AddsUptoCard

/-- THE SECOND FORM's CARD OF 'tearofflaw06.MacSums'. -/
def macSumsUptoCard : Claim7 := { stood := { row := macSumsUptoRow, standIns := [], harness := (true, "f9831e01cb14c9bfdd9acfd5e9ee13fdb3a768b48d4c668ddfbdc5671e68fa5d"), looks := false }, kinds := [], alts := [], laidByText := true, laidKinds := [.data, .data, .data, .data], laidTests := true, laidLooks := .later }
def MacSumsUptoCardSaid : Prop := Claim7.holds Tryd.pinned (.plain (OpenSpec.upto macSumsSpec)) macSumsUptoCard

/-- THE SECOND FORM's CARD OF 'tearofflaw06.MacKeys'. -/
def macKeysUptoCard : Claim7 := { stood := { row := macKeysUptoRow, standIns := [], harness := (true, "f9831e01cb14c9bfdd9acfd5e9ee13fdb3a768b48d4c668ddfbdc5671e68fa5d"), looks := false }, kinds := [], alts := [], laidByText := true, laidKinds := [.data, .data, .data, .data], laidTests := true, laidLooks := .later }
def MacKeysUptoCardSaid : Prop := Claim7.holds Tryd.pinned (.plain (OpenSpec.upto macKeysSpec)) macKeysUptoCard

/-- THE SECOND FORM's CARD OF 'tearofflaw06.MacParts'. -/
def macPartsUptoCard : Claim7 := { stood := { row := macPartsUptoRow, standIns := [], harness := (true, "f9831e01cb14c9bfdd9acfd5e9ee13fdb3a768b48d4c668ddfbdc5671e68fa5d"), looks := false }, kinds := [], alts := [], laidByText := true, laidKinds := [.data, .data, .data, .data], laidTests := true, laidLooks := .later }
def MacPartsUptoCardSaid : Prop := Claim7.holds Tryd.pinned (.plain (OpenSpec.upto macPartsSpec)) macPartsUptoCard

/-- THE SECOND FORM's CARD OF 'tearofflaw06.MacKinds'. -/
def macKindsUptoCard : Claim7 := { stood := { row := macKindsUptoRow, standIns := [], harness := (true, "f9831e01cb14c9bfdd9acfd5e9ee13fdb3a768b48d4c668ddfbdc5671e68fa5d"), looks := false }, kinds := [], alts := [], laidByText := true, laidKinds := [.data, .data, .data, .data], laidTests := true, laidLooks := .later }
def MacKindsUptoCardSaid : Prop := Claim7.holds Tryd.pinned (.plain (OpenSpec.upto macKindsSpec)) macKindsUptoCard

/-- THE SECOND FORM's CARD OF 'tearofflaw06.MacTwice'. -/
def macTwiceUptoCard : Claim7 := { stood := { row := macTwiceUptoRow, standIns := [], harness := (true, "f9831e01cb14c9bfdd9acfd5e9ee13fdb3a768b48d4c668ddfbdc5671e68fa5d"), looks := false }, kinds := [], alts := [], laidByText := true, laidKinds := [.data, .data, .data, .data], laidTests := true, laidLooks := .later }
def MacTwiceUptoCardSaid : Prop := Claim7.holds Tryd.pinned (.plain (OpenSpec.upto macTwiceSpec)) macTwiceUptoCard
end Rows
end Go.Proofs.YteidkdpfjponfaaDoor
