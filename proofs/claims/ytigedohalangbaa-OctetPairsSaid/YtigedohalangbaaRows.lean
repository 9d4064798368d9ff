/-
  No cell of these rows narrows 'for every input' (looked for: loops, veiled, ifaces, maps, wideKeys, modest, calm, conditions, laid).
  DERIVED. THE GIVEN ROWS OF THIS SEAT. 10 by the template 'for every input the law returns true; each argument reads behind the call as it read before'; 0 by the template 'total and deterministic' (their statements: YtigedohalangbaaTotals.lean).
  GIVEN WITH THE SEED: the statements are not yours to turn. If you find one false, say at which input.
  Laid BY PROGRAM, IN A SANDBOX (cutbox-rows.mjs): the forced cells as the released guide's own fill.sh prints them over the translation 8a3681f5fe51db25… (all of the seat's roots in one cut). By AI agents, Wed Nov 11 2026. No macro, syntax, notation, axiom, sorry.
-/
import Derived.Test.YtigedohalangbaaChecked
import GoSem.Claim
import GoSem.ClaimJoined
import GoSem.ClaimMapViews
import Derived.JoinedTies
import Derived.KernelRfl
namespace Go.Proofs.Ytigedohalangbaa
/- THE CELL 'sum', in the pinned program and in every row, IS THE sha256 OF THE DUMP (.gsa) THAT YtigedohalangbaaProg.lean LOADS. Nothing in Lean hashes anything: it is a label: what it is worth is what the hold of that sum in a sandbox is worth. -/
noncomputable def Try.pinned : Pinned := { name := "ytigedohalangbaa", sum := "8a3681f5fe51db2511da92596a23c86a77ec820bd035723b476ac48cab18a3f4", checked := Try.checked }
namespace Rows
def none {H : Type} : Left H := { results := [], args := [] }

/-- 'tearofflaw07.DigitsTell': WHATEVER THE INPUT: true; the input reads as it did. -/
def digitsTellSpec : ChangeSpec := { name := "digitsTell", fn := fun _ => fun
  | [d1, d2, d3] => { results := [.lit (.bool true)], args := [d1, d2, d3] }
  | _ => none }
def digitsTellRow : OpenClaim := { program := "ytigedohalangbaa", sum := "8a3681f5fe51db2511da92596a23c86a77ec820bd035723b476ac48cab18a3f4", func := "tearoff/tearofflaw07.DigitsTell", spec := "digitsTell", unfollowed := true, recurses := true, apart := false }
def DigitsTellSaid : Prop := digitsTellRow.holds Try.pinned (OpenSpec.ofChange digitsTellSpec)

/-- ITS FALSE NEIGHBOUR: 'it returns false'. Refute it at one input. -/
def digitsTellWrong : ChangeSpec := { name := "digitsTell", fn := fun _ => fun
  | [d1, d2, d3] => { results := [.lit (.bool false)], args := [d1, d2, d3] }
  | _ => none }
def DigitsTellWrongFalsely : Prop := digitsTellRow.holds Try.pinned (OpenSpec.ofChange digitsTellWrong)

/-- 'tearofflaw07.DigitsBoth': WHATEVER THE INPUT: true; the input reads as it did. -/
def digitsBothSpec : ChangeSpec := { name := "digitsBoth", fn := fun _ => fun
  | [d1, d2, d3] => { results := [.lit (.bool true)], args := [d1, d2, d3] }
  | _ => none }
def digitsBothRow : OpenClaim := { program := "ytigedohalangbaa", sum := "8a3681f5fe51db2511da92596a23c86a77ec820bd035723b476ac48cab18a3f4", func := "tearoff/tearofflaw07.DigitsBoth", spec := "digitsBoth", unfollowed := true, recurses := true, apart := false }
def DigitsBothSaid : Prop := digitsBothRow.holds Try.pinned (OpenSpec.ofChange digitsBothSpec)

/-- ITS FALSE NEIGHBOUR: 'it returns false'. Refute it at one input. -/
def digitsBothWrong : ChangeSpec := { name := "digitsBoth", fn := fun _ => fun
  | [d1, d2, d3] => { results := [.lit (.bool false)], args := [d1, d2, d3] }
  | _ => none }
def DigitsBothWrongFalsely : Prop := digitsBothRow.holds Try.pinned (OpenSpec.ofChange digitsBothWrong)

/-- 'tearofflaw07.DigitsBack': WHATEVER THE INPUT: true; the input reads as it did. -/
def digitsBackSpec : ChangeSpec := { name := "digitsBack", fn := fun _ => fun
  | [d1, d2] => { results := [.lit (.bool true)], args := [d1, d2] }
  | _ => none }
def digitsBackRow : OpenClaim := { program := "ytigedohalangbaa", sum := "8a3681f5fe51db2511da92596a23c86a77ec820bd035723b476ac48cab18a3f4", func := "tearoff/tearofflaw07.DigitsBack", spec := "digitsBack", unfollowed := true, recurses := true, apart := false }
def DigitsBackSaid : Prop := digitsBackRow.holds Try.pinned (OpenSpec.ofChange digitsBackSpec)

/-- ITS FALSE NEIGHBOUR: 'it returns false'. Refute it at one input. -/
def digitsBackWrong : ChangeSpec := { name := "digitsBack", fn := fun _ => fun
  | [d1, d2] => { results := [.lit (.bool false)], args := [d1, d2] }
  | _ => none }
def DigitsBackWrongFalsely : Prop := digitsBackRow.holds Try.pinned (OpenSpec.ofChange digitsBackWrong)

/-- 'tearofflaw07.DigitsShapes': WHATEVER THE INPUT: true; the input reads as it did. -/
def digitsShapesSpec : ChangeSpec := { name := "digitsShapes", fn := fun _ => fun
  | [d1, d2] => { results := [.lit (.bool true)], args := [d1, d2] }
  | _ => none }
def digitsShapesRow : OpenClaim := { program := "ytigedohalangbaa", sum := "8a3681f5fe51db2511da92596a23c86a77ec820bd035723b476ac48cab18a3f4", func := "tearoff/tearofflaw07.DigitsShapes", spec := "digitsShapes", unfollowed := true, recurses := true, apart := false }
def DigitsShapesSaid : Prop := digitsShapesRow.holds Try.pinned (OpenSpec.ofChange digitsShapesSpec)

/-- ITS FALSE NEIGHBOUR: 'it returns false'. Refute it at one input. -/
def digitsShapesWrong : ChangeSpec := { name := "digitsShapes", fn := fun _ => fun
  | [d1, d2] => { results := [.lit (.bool false)], args := [d1, d2] }
  | _ => none }
def DigitsShapesWrongFalsely : Prop := digitsShapesRow.holds Try.pinned (OpenSpec.ofChange digitsShapesWrong)

/-- 'tearofflaw07.DigitsRaise': WHATEVER THE INPUT: true; the input reads as it did. -/
def digitsRaiseSpec : ChangeSpec := { name := "digitsRaise", fn := fun _ => fun
  | [d1, d2, d3] => { results := [.lit (.bool true)], args := [d1, d2, d3] }
  | _ => none }
def digitsRaiseRow : OpenClaim := { program := "ytigedohalangbaa", sum := "8a3681f5fe51db2511da92596a23c86a77ec820bd035723b476ac48cab18a3f4", func := "tearoff/tearofflaw07.DigitsRaise", spec := "digitsRaise", unfollowed := true, recurses := true, apart := false }
def DigitsRaiseSaid : Prop := digitsRaiseRow.holds Try.pinned (OpenSpec.ofChange digitsRaiseSpec)

/-- ITS FALSE NEIGHBOUR: 'it returns false'. Refute it at one input. -/
def digitsRaiseWrong : ChangeSpec := { name := "digitsRaise", fn := fun _ => fun
  | [d1, d2, d3] => { results := [.lit (.bool false)], args := [d1, d2, d3] }
  | _ => none }
def DigitsRaiseWrongFalsely : Prop := digitsRaiseRow.holds Try.pinned (OpenSpec.ofChange digitsRaiseWrong)

/-- 'tearofflaw01.OctetNums': WHATEVER THE INPUT: true; the input reads as it did. -/
def octetNumsSpec : ChangeSpec := { name := "octetNums", fn := fun _ => fun
  | [d1, d2, d3] => { results := [.lit (.bool true)], args := [d1, d2, d3] }
  | _ => none }
def octetNumsRow : OpenClaim := { program := "ytigedohalangbaa", sum := "8a3681f5fe51db2511da92596a23c86a77ec820bd035723b476ac48cab18a3f4", func := "tearoff/tearofflaw01.OctetNums", spec := "octetNums", inPlace := ["internal/bytealg.MakeNoZero"], unfollowed := true, recurses := true, apart := false }
def OctetNumsSaid : Prop := octetNumsRow.holds Try.pinned (OpenSpec.ofChange octetNumsSpec)

/-- ITS FALSE NEIGHBOUR: 'it returns false'. Refute it at one input. -/
def octetNumsWrong : ChangeSpec := { name := "octetNums", fn := fun _ => fun
  | [d1, d2, d3] => { results := [.lit (.bool false)], args := [d1, d2, d3] }
  | _ => none }
def OctetNumsWrongFalsely : Prop := octetNumsRow.holds Try.pinned (OpenSpec.ofChange octetNumsWrong)

/-- 'tearofflaw01.OctetOrder': WHATEVER THE INPUT: true; the input reads as it did. -/
def octetOrderSpec : ChangeSpec := { name := "octetOrder", fn := fun _ => fun
  | [d1, d2, d3] => { results := [.lit (.bool true)], args := [d1, d2, d3] }
  | _ => none }
def octetOrderRow : OpenClaim := { program := "ytigedohalangbaa", sum := "8a3681f5fe51db2511da92596a23c86a77ec820bd035723b476ac48cab18a3f4", func := "tearoff/tearofflaw01.OctetOrder", spec := "octetOrder", inPlace := ["internal/bytealg.MakeNoZero"], unfollowed := true, recurses := true, apart := false }
def OctetOrderSaid : Prop := octetOrderRow.holds Try.pinned (OpenSpec.ofChange octetOrderSpec)

/-- ITS FALSE NEIGHBOUR: 'it returns false'. Refute it at one input. -/
def octetOrderWrong : ChangeSpec := { name := "octetOrder", fn := fun _ => fun
  | [d1, d2, d3] => { results := [.lit (.bool false)], args := [d1, d2, d3] }
  | _ => none }
def OctetOrderWrongFalsely : Prop := octetOrderRow.holds Try.pinned (OpenSpec.ofChange octetOrderWrong)

/-- 'tearofflaw01.OctetFills': WHATEVER THE INPUT: true; the input reads as it did. -/
def octetFillsSpec : ChangeSpec := { name := "octetFills", fn := fun _ => fun
  | [d1, d2] => { results := [.lit (.bool true)], args := [d1, d2] }
  | _ => none }
def octetFillsRow : OpenClaim := { program := "ytigedohalangbaa", sum := "8a3681f5fe51db2511da92596a23c86a77ec820bd035723b476ac48cab18a3f4", func := "tearoff/tearofflaw01.OctetFills", spec := "octetFills", inPlace := ["internal/bytealg.MakeNoZero"], unfollowed := true, recurses := true, apart := false }
def OctetFillsSaid : Prop := octetFillsRow.holds Try.pinned (OpenSpec.ofChange octetFillsSpec)

/-- ITS FALSE NEIGHBOUR: 'it returns false'. Refute it at one input. -/
def octetFillsWrong : ChangeSpec := { name := "octetFills", fn := fun _ => fun
  | [d1, d2] => { results := [.lit (.bool false)], args := [d1, d2] }
  | _ => none }
def OctetFillsWrongFalsely : Prop := octetFillsRow.holds Try.pinned (OpenSpec.ofChange octetFillsWrong)

/-- 'tearofflaw01.OctetPairs': WHATEVER THE INPUT: true; the input reads as it did. -/
def octetPairsSpec : ChangeSpec := { name := "octetPairs", fn := fun _ => fun
  | [d1, d2, d3] => { results := [.lit (.bool true)], args := [d1, d2, d3] }
  | _ => none }
def octetPairsRow : OpenClaim := { program := "ytigedohalangbaa", sum := "8a3681f5fe51db2511da92596a23c86a77ec820bd035723b476ac48cab18a3f4", func := "tearoff/tearofflaw01.OctetPairs", spec := "octetPairs", inPlace := ["internal/bytealg.MakeNoZero"], unfollowed := true, recurses := true, apart := false }
def OctetPairsSaid : Prop := octetPairsRow.holds Try.pinned (OpenSpec.ofChange octetPairsSpec)

/-- ITS FALSE NEIGHBOUR: 'it returns false'. Refute it at one input. -/
def octetPairsWrong : ChangeSpec := { name := "octetPairs", fn := fun _ => fun
  | [d1, d2, d3] => { results := [.lit (.bool false)], args := [d1, d2, d3] }
  | _ => none }
def OctetPairsWrongFalsely : Prop := octetPairsRow.holds Try.pinned (OpenSpec.ofChange octetPairsWrong)

/-- 'tearofflaw01.OctetXors': WHATEVER THE INPUT: true; the input reads as it did. -/
def octetXorsSpec : ChangeSpec := { name := "octetXors", fn := fun _ => fun
  | [d1, d2, d3] => { results := [.lit (.bool true)], args := [d1, d2, d3] }
  | _ => none }
def octetXorsRow : OpenClaim := { program := "ytigedohalangbaa", sum := "8a3681f5fe51db2511da92596a23c86a77ec820bd035723b476ac48cab18a3f4", func := "tearoff/tearofflaw01.OctetXors", spec := "octetXors", inPlace := ["internal/bytealg.MakeNoZero"], unfollowed := true, recurses := true, apart := false }
def OctetXorsSaid : Prop := octetXorsRow.holds Try.pinned (OpenSpec.ofChange octetXorsSpec)

/-- ITS FALSE NEIGHBOUR: 'it returns false'. Refute it at one input. -/
def octetXorsWrong : ChangeSpec := { name := "octetXors", fn := fun _ => fun
  | [d1, d2, d3] => { results := [.lit (.bool false)], args := [d1, d2, d3] }
  | _ => none }
def OctetXorsWrongFalsely : Prop := octetXorsRow.holds Try.pinned (OpenSpec.ofChange octetXorsWrong)

/- THE SECOND FORM. 'bulk': how many values and letters a reading holds, each counted each time it is reached (what is shared counts as often as it is met; a slice's spare places count too). A statement '..UptoSaid' is the law's where the arguments, and the package variables that the reading takes, are together of bulk at most 1048576: NARROWER than '..Said'. Prove '..Said' where nothing that the law and all that it calls make is longer than what came in: it says more and counts as full. Else prove '..UptoSaid'. A law counts once. -/
mutual
def uptoBulk {H : Type} : DataW H → Nat
  | .lit (.string bytes) => bytes.length + 1
  | .lit _ => 1
  | .nil => 1
  | .ptr d => uptoBulk d + 1
  | .slice elems spare => uptoBulkAll elems + uptoBulkAll spare + 1
  | .agg parts => uptoBulkAll parts + 1
  | .iface _ d => uptoBulk d + 1
  | .map entries => uptoBulkEntries entries + 1
  | .held _ => 1
def uptoBulkAll {H : Type} : List (DataW H) → Nat
  | [] => 0
  | d :: r => uptoBulk d + uptoBulkAll r
def uptoBulkEntries {H : Type} : List (Lit × DataW H) → Nat
  | [] => 0
  | x :: r => uptoBulkEntry x + uptoBulkEntries r
def uptoBulkEntry {H : Type} : Lit × DataW H → Nat
  | (.string bytes, d) => bytes.length + uptoBulk d + 1
  | (_, d) => uptoBulk d + 1
 end
def uptoSmall : (H : Type) → List (DataW H) → Bool := fun _ ds => decide (uptoBulkAll ds ≤ 1048576)
def OpenSpec.upto (s : _root_.Go.ChangeSpec) : _root_.Go.OpenSpec := { _root_.Go.OpenSpec.ofChange s with cond := some uptoSmall }

/-- 'tearofflaw07.DigitsTell', WHERE WHAT IT READS IS OF BULK AT MOST 1048576: true; the input reads as it did. -/
def digitsTellUptoRow : OpenClaim := { program := "ytigedohalangbaa", sum := "8a3681f5fe51db2511da92596a23c86a77ec820bd035723b476ac48cab18a3f4", func := "tearoff/tearofflaw07.DigitsTell", spec := "digitsTell", unfollowed := true, recurses := true, apart := false, narrowed := true }
def DigitsTellUptoSaid : Prop := digitsTellUptoRow.holds Try.pinned (OpenSpec.upto digitsTellSpec)

/-- 'tearofflaw07.DigitsBoth', WHERE WHAT IT READS IS OF BULK AT MOST 1048576: true; the input reads as it did. -/
def digitsBothUptoRow : OpenClaim := { program := "ytigedohalangbaa", sum := "8a3681f5fe51db2511da92596a23c86a77ec820bd035723b476ac48cab18a3f4", func := "tearoff/tearofflaw07.DigitsBoth", spec := "digitsBoth", unfollowed := true, recurses := true, apart := false, narrowed := true }
def DigitsBothUptoSaid : Prop := digitsBothUptoRow.holds Try.pinned (OpenSpec.upto digitsBothSpec)

/-- 'tearofflaw07.DigitsBack', WHERE WHAT IT READS IS OF BULK AT MOST 1048576: true; the input reads as it did. -/
def digitsBackUptoRow : OpenClaim := { program := "ytigedohalangbaa", sum := "8a3681f5fe51db2511da92596a23c86a77ec820bd035723b476ac48cab18a3f4", func := "tearoff/tearofflaw07.DigitsBack", spec := "digitsBack", unfollowed := true, recurses := true, apart := false, narrowed := true }
def DigitsBackUptoSaid : Prop := digitsBackUptoRow.holds Try.pinned (OpenSpec.upto digitsBackSpec)

/-- 'tearofflaw07.DigitsShapes', WHERE WHAT IT READS IS OF BULK AT MOST 1048576: true; the input reads as it did. -/
def digitsShapesUptoRow : OpenClaim := { program := "ytigedohalangbaa", sum := "8a3681f5fe51db2511da92596a23c86a77ec820bd035723b476ac48cab18a3f4", func := "tearoff/tearofflaw07.DigitsShapes", spec := "digitsShapes", unfollowed := true, recurses := true, apart := false, narrowed := true }
def DigitsShapesUptoSaid : Prop := digitsShapesUptoRow.holds Try.pinned (OpenSpec.upto digitsShapesSpec)

/-- 'tearofflaw07.DigitsRaise', WHERE WHAT IT READS IS OF BULK AT MOST 1048576: true; the input reads as it did. -/
def digitsRaiseUptoRow : OpenClaim := { program := "ytigedohalangbaa", sum := "8a3681f5fe51db2511da92596a23c86a77ec820bd035723b476ac48cab18a3f4", func := "tearoff/tearofflaw07.DigitsRaise", spec := "digitsRaise", unfollowed := true, recurses := true, apart := false, narrowed := true }
def DigitsRaiseUptoSaid : Prop := digitsRaiseUptoRow.holds Try.pinned (OpenSpec.upto digitsRaiseSpec)

/-- 'tearofflaw01.OctetNums', WHERE WHAT IT READS IS OF BULK AT MOST 1048576: true; the input reads as it did. -/
def octetNumsUptoRow : OpenClaim := { program := "ytigedohalangbaa", sum := "8a3681f5fe51db2511da92596a23c86a77ec820bd035723b476ac48cab18a3f4", func := "tearoff/tearofflaw01.OctetNums", spec := "octetNums", inPlace := ["internal/bytealg.MakeNoZero"], unfollowed := true, recurses := true, apart := false, narrowed := true }
def OctetNumsUptoSaid : Prop := octetNumsUptoRow.holds Try.pinned (OpenSpec.upto octetNumsSpec)

/-- 'tearofflaw01.OctetOrder', WHERE WHAT IT READS IS OF BULK AT MOST 1048576: true; the input reads as it did. -/
def octetOrderUptoRow : OpenClaim := { program := "ytigedohalangbaa", sum := "8a3681f5fe51db2511da92596a23c86a77ec820bd035723b476ac48cab18a3f4", func := "tearoff/tearofflaw01.OctetOrder", spec := "octetOrder", inPlace := ["internal/bytealg.MakeNoZero"], unfollowed := true, recurses := true, apart := false, narrowed := true }
def OctetOrderUptoSaid : Prop := octetOrderUptoRow.holds Try.pinned (OpenSpec.upto octetOrderSpec)

/-- 'tearofflaw01.OctetFills', WHERE WHAT IT READS IS OF BULK AT MOST 1048576: true; the input reads as it did. -/
def octetFillsUptoRow : OpenClaim := { program := "ytigedohalangbaa", sum := "8a3681f5fe51db2511da92596a23c86a77ec820bd035723b476ac48cab18a3f4", func := "tearoff/tearofflaw01.OctetFills", spec := "octetFills", inPlace := ["internal/bytealg.MakeNoZero"], unfollowed := true, recurses := true, apart := false, narrowed := true }
def OctetFillsUptoSaid : Prop := octetFillsUptoRow.holds Try.pinned (OpenSpec.upto octetFillsSpec)

/-- 'tearofflaw01.OctetPairs', WHERE WHAT IT READS IS OF BULK AT MOST 1048576: true; the input reads as it did. -/
def octetPairsUptoRow : OpenClaim := { program := "ytigedohalangbaa", sum := "8a3681f5fe51db2511da92596a23c86a77ec820bd035723b476ac48cab18a3f4", func := "tearoff/tearofflaw01.OctetPairs", spec := "octetPairs", inPlace := ["internal/bytealg.MakeNoZero"], unfollowed := true, recurses := true, apart := false, narrowed := true }
def OctetPairsUptoSaid : Prop := octetPairsUptoRow.holds Try.pinned (OpenSpec.upto octetPairsSpec)

/-- 'tearofflaw01.OctetXors', WHERE WHAT IT READS IS OF BULK AT MOST 1048576: true; the input reads as it did. -/
def octetXorsUptoRow : OpenClaim := { program := "ytigedohalangbaa", sum := "8a3681f5fe51db2511da92596a23c86a77ec820bd035723b476ac48cab18a3f4", func := "tearoff/tearofflaw01.OctetXors", spec := "octetXors", inPlace := ["internal/bytealg.MakeNoZero"], unfollowed := true, recurses := true, apart := false, narrowed := true }
def OctetXorsUptoSaid : Prop := octetXorsUptoRow.holds Try.pinned (OpenSpec.upto octetXorsSpec)

end Rows
end Go.Proofs.Ytigedohalangbaa
