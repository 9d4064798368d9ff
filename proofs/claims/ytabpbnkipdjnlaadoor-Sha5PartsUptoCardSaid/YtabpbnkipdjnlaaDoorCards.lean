/-
  DERIVED. GIVEN WITH THE SEED: THE CARDS: each row of YtabpbnkipdjnlaaDoorRows.lean that lists a variable, with what it lists TIED to the program's text (the seventh form; the later family's looks); each row that meets fmt, with fmt's text TOLD by the authors' own Lean function (tested against real Go, not proved from fmt's source: count such statements apart). THE CARD IS WHAT COUNTS. Prove the row's statement (the work); the ties are given (YtabpbnkipdjnlaaDoorTie.lean); close each card by the builder's one call (the guide's Derived/Test/ToyasCard.lean, 'card_holds'). Laid BY PROGRAM, IN A SANDBOX (cutbox-door.mjs). By AI agents, Wed Nov 11 2026. No macro, syntax, notation, axiom, sorry.
-/
import Derived.Test.YtabpbnkipdjnlaaDoorRows
import GoSem.ClaimSeven
namespace Go.Proofs.YtabpbnkipdjnlaaDoor
namespace Rows

/-- THE TIED CARD OF 'tearofflaw04.KeccakTurns'. -/
def keccakTurnsCard : Claim7 := { stood := { row := keccakTurnsRow, standIns := [], harness := (true, "d80c736fe7426518ed691ed4009b2a5d8b1ee04a3a909f912c8707ced9d1815a"), looks := false }, kinds := [], alts := [], laidByText := true, laidKinds := [.data, .data], laidTests := true, laidLooks := .later }
def KeccakTurnsCardSaid : Prop := Claim7.holds Tryd.pinned (.plain (OpenSpec.ofChange keccakTurnsSpec)) keccakTurnsCard

/-- THE TIED CARD OF 'tearofflaw04.KeccakApart'. -/
def keccakApartCard : Claim7 := { stood := { row := keccakApartRow, standIns := [], harness := (true, "d80c736fe7426518ed691ed4009b2a5d8b1ee04a3a909f912c8707ced9d1815a"), looks := false }, kinds := [], alts := [], laidByText := true, laidKinds := [.data, .data], laidTests := true, laidLooks := .later }
def KeccakApartCardSaid : Prop := Claim7.holds Tryd.pinned (.plain (OpenSpec.ofChange keccakApartSpec)) keccakApartCard

/-- THE TIED CARD OF 'tearofflaw04.KeccakRounds'. -/
def keccakRoundsCard : Claim7 := { stood := { row := keccakRoundsRow, standIns := [], harness := (true, "d80c736fe7426518ed691ed4009b2a5d8b1ee04a3a909f912c8707ced9d1815a"), looks := false }, kinds := [], alts := [], laidByText := true, laidKinds := [.data, .data], laidTests := true, laidLooks := .later }
def KeccakRoundsCardSaid : Prop := Claim7.holds Tryd.pinned (.plain (OpenSpec.ofChange keccakRoundsSpec)) keccakRoundsCard

/-- THE TIED CARD OF 'tearofflaw04.KeccakLinear'. -/
def keccakLinearCard : Claim7 := { stood := { row := keccakLinearRow, standIns := [], harness := (true, "d80c736fe7426518ed691ed4009b2a5d8b1ee04a3a909f912c8707ced9d1815a"), looks := false }, kinds := [], alts := [], laidByText := true, laidKinds := [.data, .data], laidTests := true, laidLooks := .later }
def KeccakLinearCardSaid : Prop := Claim7.holds Tryd.pinned (.plain (OpenSpec.ofChange keccakLinearSpec)) keccakLinearCard

/-- THE TIED CARD OF 'tearofflaw05.ShakeSums'. -/
def shakeSumsCard : Claim7 := { stood := { row := shakeSumsRow, standIns := [], harness := (true, "d80c736fe7426518ed691ed4009b2a5d8b1ee04a3a909f912c8707ced9d1815a"), looks := false }, kinds := [], alts := [], laidByText := true, laidKinds := [.data, .data], laidTests := true, laidLooks := .later }
def ShakeSumsCardSaid : Prop := Claim7.holds Tryd.pinned (.plain (OpenSpec.ofChange shakeSumsSpec)) shakeSumsCard

/-- THE TIED CARD OF 'tearofflaw05.ShakeReads'. -/
def shakeReadsCard : Claim7 := { stood := { row := shakeReadsRow, standIns := [], harness := (true, "d80c736fe7426518ed691ed4009b2a5d8b1ee04a3a909f912c8707ced9d1815a"), looks := false }, kinds := [], alts := [], laidByText := true, laidKinds := [.data, .data], laidTests := true, laidLooks := .later }
def ShakeReadsCardSaid : Prop := Claim7.holds Tryd.pinned (.plain (OpenSpec.ofChange shakeReadsSpec)) shakeReadsCard

/-- THE TIED CARD OF 'tearofflaw05.ShakeBegins'. -/
def shakeBeginsCard : Claim7 := { stood := { row := shakeBeginsRow, standIns := [], harness := (true, "d80c736fe7426518ed691ed4009b2a5d8b1ee04a3a909f912c8707ced9d1815a"), looks := false }, kinds := [], alts := [], laidByText := true, laidKinds := [.data, .data], laidTests := true, laidLooks := .later }
def ShakeBeginsCardSaid : Prop := Claim7.holds Tryd.pinned (.plain (OpenSpec.ofChange shakeBeginsSpec)) shakeBeginsCard

/-- THE TIED CARD OF 'tearofflaw05.ShakeOne'. -/
def shakeOneCard : Claim7 := { stood := { row := shakeOneRow, standIns := [], harness := (true, "d80c736fe7426518ed691ed4009b2a5d8b1ee04a3a909f912c8707ced9d1815a"), looks := false }, kinds := [], alts := [], laidByText := true, laidKinds := [.data, .data], laidTests := true, laidLooks := .later }
def ShakeOneCardSaid : Prop := Claim7.holds Tryd.pinned (.plain (OpenSpec.ofChange shakeOneSpec)) shakeOneCard

/-- THE TIED CARD OF 'tearofflaw03.Sha5Sums'. -/
def sha5SumsCard : Claim7 := { stood := { row := sha5SumsRow, standIns := [], harness := (true, "d80c736fe7426518ed691ed4009b2a5d8b1ee04a3a909f912c8707ced9d1815a"), looks := false }, kinds := [], alts := [], laidByText := true, laidKinds := [.data, .data], laidTests := true, laidLooks := .later }
def Sha5SumsCardSaid : Prop := Claim7.holds Tryd.pinned (.plain (OpenSpec.ofChange sha5SumsSpec)) sha5SumsCard

/-- THE TIED CARD OF 'tearofflaw03.Sha5Parts'. -/
def sha5PartsCard : Claim7 := { stood := { row := sha5PartsRow, standIns := [], harness := (true, "d80c736fe7426518ed691ed4009b2a5d8b1ee04a3a909f912c8707ced9d1815a"), looks := false }, kinds := [], alts := [], laidByText := true, laidKinds := [.data, .data], laidTests := true, laidLooks := .later }
def Sha5PartsCardSaid : Prop := Claim7.holds Tryd.pinned (.plain (OpenSpec.ofChange sha5PartsSpec)) sha5PartsCard

/-- THE TIED CARD OF 'tearofflaw03.Sha5Long'. -/
def sha5LongCard : Claim7 := { stood := { row := sha5LongRow, standIns := [], harness := (true, "d80c736fe7426518ed691ed4009b2a5d8b1ee04a3a909f912c8707ced9d1815a"), looks := false }, kinds := [], alts := [], laidByText := true, laidKinds := [.data, .data], laidTests := true, laidLooks := .later }
def Sha5LongCardSaid : Prop := Claim7.holds Tryd.pinned (.plain (OpenSpec.ofChange sha5LongSpec)) sha5LongCard

/-- THE TIED CARD OF 'tearofflaw03.Sha5Again'. -/
def sha5AgainCard : Claim7 := { stood := { row := sha5AgainRow, standIns := [], harness := (true, "d80c736fe7426518ed691ed4009b2a5d8b1ee04a3a909f912c8707ced9d1815a"), looks := false }, kinds := [], alts := [], laidByText := true, laidKinds := [.data, .data], laidTests := true, laidLooks := .later }
def Sha5AgainCardSaid : Prop := Claim7.holds Tryd.pinned (.plain (OpenSpec.ofChange sha5AgainSpec)) sha5AgainCard

/-- THE SECOND FORM's CARD OF 'tearofflaw04.KeccakTurns'. -/
def keccakTurnsUptoCard : Claim7 := { stood := { row := keccakTurnsUptoRow, standIns := [], harness := (true, "d80c736fe7426518ed691ed4009b2a5d8b1ee04a3a909f912c8707ced9d1815a"), looks := false }, kinds := [], alts := [], laidByText := true, laidKinds := [.data, .data], laidTests := true, laidLooks := .later }
def KeccakTurnsUptoCardSaid : Prop := Claim7.holds Tryd.pinned (.plain (OpenSpec.upto keccakTurnsSpec)) keccakTurnsUptoCard

/-- THE SECOND FORM's CARD OF 'tearofflaw04.KeccakApart'. -/
def keccakApartUptoCard : Claim7 := { stood := { row := keccakApartUptoRow, standIns := [], harness := (true, "d80c736fe7426518ed691ed4009b2a5d8b1ee04a3a909f912c8707ced9d1815a"), looks := false }, kinds := [], alts := [], laidByText := true, laidKinds := [.data, .data], laidTests := true, laidLooks := .later }
def KeccakApartUptoCardSaid : Prop := Claim7.holds Tryd.pinned (.plain (OpenSpec.upto keccakApartSpec)) keccakApartUptoCard

/-- THE SECOND FORM's CARD OF 'tearofflaw04.KeccakRounds'. -/
def keccakRoundsUptoCard : Claim7 := { stood := { row := keccakRoundsUptoRow, standIns := [], harness := (true, "d80c736fe7426518ed691ed4009b2a5d8b1ee04a3a909f912c8707ced9d1815a"), looks := false }, kinds := [], alts := [], laidByText := true, laidKinds := [.data, .data], laidTests := true, laidLooks := .later }
def KeccakRoundsUptoCardSaid : Prop := Claim7.holds Tryd.pinned (.plain (OpenSpec.upto keccakRoundsSpec)) keccakRoundsUptoCard

/-- THE SECOND FORM's CARD OF 'tearofflaw04.KeccakLinear'. -/
def keccakLinearUptoCard : Claim7 := { stood := { row := keccakLinearUptoRow, standIns := [], harness := (true, "d80c736fe7426518ed691ed4009b2a5d8b1ee04a3a909f912c8707ced9d1815a"), looks := false }, kinds := [], alts := [], laidByText := true, laidKinds := [.data, .data], laidTests := true, laidLooks := .later }
def KeccakLinearUptoCardSaid : Prop := Claim7.holds Tryd.pinned (.plain (OpenSpec.upto keccakLinearSpec)) keccakLinearUptoCard

/-- THE SECOND FORM's CARD OF 'tearofflaw05.ShakeSums'. -/
def shakeSumsUptoCard : Claim7 := { stood := { row := shakeSumsUptoRow, standIns := [], harness := (true, "d80c736fe7426518ed691ed4009b2a5d8b1ee04a3a909f912c8707ced9d1815a"), looks := false }, kinds := [], alts := [], laidByText := true, laidKinds := [.data, .data], laidTests := true, laidLooks := .later }
def ShakeSumsUptoCardSaid : Prop := Claim7.holds Tryd.pinned (.plain (OpenSpec.upto shakeSumsSpec)) shakeSumsUptoCard

/-- THE SECOND FORM's CARD OF 'tearofflaw05.ShakeReads'. -/
def shakeReadsUptoCard : Claim7 := { stood := { row := shakeReadsUptoRow, standIns := [], harness := (true, "d80c736fe7426518ed691ed4009b2a5d8b1ee04a3a909f912c8707ced9d1815a"), looks := false }, kinds := [], alts := [], laidByText := true, laidKinds := [.data, .data], laidTests := true, laidLooks := .later }
def ShakeReadsUptoCardSaid : Prop := Claim7.holds Tryd.pinned (.plain (OpenSpec.upto shakeReadsSpec)) shakeReadsUptoCard

/-- THE SECOND FORM's CARD OF 'tearofflaw05.ShakeBegins'. -/
def shakeBeginsUptoCard : Claim7 := { stood := { row := shakeBeginsUptoRow, standIns := [], harness := (true, "d80c736fe7426518ed691ed4009b2a5d8b1ee04a3a909f912c8707ced9d1815a"), looks := false }, kinds := [], alts := [], laidByText := true, laidKinds := [.data, .data], laidTests := true, laidLooks := .later }
def ShakeBeginsUptoCardSaid : Prop := Claim7.holds Tryd.pinned (.plain (OpenSpec.upto shakeBeginsSpec)) shakeBeginsUptoCard

/-- THE SECOND FORM's CARD OF 'tearofflaw05.ShakeOne'. -/
def shakeOneUptoCard : Claim7 := { stood := { row := shakeOneUptoRow, standIns := [], harness := (true, "d80c736fe7426518ed691ed4009b2a5d8b1ee04a3a909f912c8707ced9d1815a"), looks := false }, kinds := [], alts := [], laidByText := true, laidKinds := [.data, .data], laidTests := true, laidLooks := .later }
def ShakeOneUptoCardSaid : Prop := Claim7.holds Tryd.pinned (.plain (OpenSpec.upto shakeOneSpec)) shakeOneUptoCard

/-- THE SECOND FORM's CARD OF 'tearofflaw03.Sha5Sums'. -/
def sha5SumsUptoCard : Claim7 := { stood := { row := sha5SumsUptoRow, standIns := [], harness := (true, "d80c736fe7426518ed691ed4009b2a5d8b1ee04a3a909f912c8707ced9d1815a"), looks := false }, kinds := [], alts := [], laidByText := true, laidKinds := [.data, .data], laidTests := true, laidLooks := .later }
def Sha5SumsUptoCardSaid : Prop := Claim7.holds Tryd.pinned (.plain (OpenSpec.upto sha5SumsSpec)) sha5SumsUptoCard

/-- THE SECOND FORM's CARD OF 'tearofflaw03.Sha5Parts'. -/
def sha5PartsUptoCard : Claim7 := { stood := { row := sha5PartsUptoRow, standIns := [], harness := (true, "d80c736fe7426518ed691ed4009b2a5d8b1ee04a3a909f912c8707ced9d1815a"), looks := false }, kinds := [], alts := [], laidByText := true, laidKinds := [.data, .data], laidTests := true, laidLooks := .later }
def Sha5PartsUptoCardSaid : Prop := Claim7.holds Tryd.pinned (.plain (OpenSpec.upto sha5PartsSpec)) sha5PartsUptoCard

/-- THE SECOND FORM's CARD OF 'tearofflaw03.Sha5Long'. -/
def sha5LongUptoCard : Claim7 := { stood := { row := sha5LongUptoRow, standIns := [], harness := (true, "d80c736fe7426518ed691ed4009b2a5d8b1ee04a3a909f912c8707ced9d1815a"), looks := false }, kinds := [], alts := [], laidByText := true, laidKinds := [.data, .data], laidTests := true, laidLooks := .later }
def Sha5LongUptoCardSaid : Prop := Claim7.holds Tryd.pinned (.plain (OpenSpec.upto sha5LongSpec)) sha5LongUptoCard

/-- THE SECOND FORM's CARD OF 'tearofflaw03.Sha5Again'. -/
def sha5AgainUptoCard : Claim7 := { stood := { row := sha5AgainUptoRow, standIns := [], harness := (true, "d80c736fe7426518ed691ed4009b2a5d8b1ee04a3a909f912c8707ced9d1815a"), looks := false }, kinds := [], alts := [], laidByText := true, laidKinds := [.data, .data], laidTests := true, laidLooks := .later }
def Sha5AgainUptoCardSaid : Prop := Claim7.holds Tryd.pinned (.plain (OpenSpec.upto sha5AgainSpec)) sha5AgainUptoCard
end Rows
end Go.Proofs.YtabpbnkipdjnlaaDoor
