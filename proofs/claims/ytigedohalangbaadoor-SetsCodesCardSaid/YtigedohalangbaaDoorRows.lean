/-
  NARROWER THAN 'FOR EVERY INPUT', by the rows' own cells (each row's printed sentence says how): SetsTell: laid · SetsCodes: laid · SetsFit: laid · SetsLeaves: laid · SetsDigits: laid.
  DERIVED. THE GIVEN ROWS OF THIS SEAT. 5 by the template 'for every input the law returns true; each argument reads behind the call as it read before'; 0 by the template 'total and deterministic' (their statements: YtigedohalangbaaDoorTotals.lean).
  GIVEN WITH THE SEED: the statements are not yours to turn. If you find one false, say at which input.
  Laid BY PROGRAM, IN A SANDBOX (cutbox-rows.mjs): the forced cells as the released guide's own fill.sh prints them over the translation 15f502e3de64f6c3… (all of the seat's roots in one cut). By AI agents, Wed Nov 11 2026. No macro, syntax, notation, axiom, sorry.
-/
import Derived.Test.YtigedohalangbaaDoorChecked
import GoSem.Claim
import GoSem.ClaimJoined
import GoSem.ClaimMapViews
import Derived.JoinedTies
import Derived.KernelRfl
namespace Go.Proofs.YtigedohalangbaaDoor
/- THE CELL 'sum', in the pinned program and in every row, IS THE sha256 OF THE DUMP (.gsa) THAT YtigedohalangbaaDoorProg.lean LOADS. Nothing in Lean hashes anything: it is a label: what it is worth is what the hold of that sum in a sandbox is worth. -/
noncomputable def Tryd.pinned : Pinned := { name := "ytigedohalangbaadoor", sum := "15f502e3de64f6c306be9e20908b05782f752991eb1c953fb31243e5fe98e197", checked := Tryd.checked }
namespace Rows
def none {H : Type} : Left H := { results := [], args := [] }

/- WHAT THE LISTED PACKAGE-LEVEL VARIABLES READ AS WHEN THE CALL BEGINS. Each datum BY PROGRAM (the guide's laid-datum.mjs) off the statement by which the dump's own 'gosem.cut.vars' lays the variable. In a bare row this is a premise. The card (YtigedohalangbaaDoorCards.lean) ties it to the program's text. -/
def laid_tearoff_sets_sums {H : Type} : DataW H := .agg [.agg [.lit (.int .i64 0), .lit (.int .i64 32)], .agg [.lit (.int .i64 0), .lit (.int .i64 24)], .agg [.lit (.int .i64 1), .lit (.int .i64 32)], .agg [.lit (.int .i64 1), .lit (.int .i64 24)]]
def laid_tearoff_sets_widths {H : Type} : DataW H := .agg [.lit (.int .i64 1), .lit (.int .i64 2), .lit (.int .i64 4), .lit (.int .i64 8)]
def laid_tearoff_sets_heights {H : Type} : DataW H := .agg [.lit (.int .i64 5), .lit (.int .i64 10), .lit (.int .i64 15), .lit (.int .i64 20), .lit (.int .i64 25)]
def laid_tearoff_sets_own {H : Type} : DataW H := .agg [.lit (.int .i64 1), .lit (.int .i64 2), .lit (.int .i64 3), .lit (.int .i64 4)]

/-- 'tearofflaw08.SetsTell': WHATEVER THE INPUT: true; the input reads as it did. -/
def setsTellSpec : ChangeSpec := { name := "setsTell", fn := fun _ => fun
  | [d1, d2, d3] => { results := [.lit (.bool true)], args := [d1, d2, d3] }
  | _ => none }
def setsTellRow : OpenClaim := { program := "ytigedohalangbaadoor", sum := "15f502e3de64f6c306be9e20908b05782f752991eb1c953fb31243e5fe98e197", func := "tearoff/tearofflaw08.SetsTell", spec := "setsTell", unfollowed := true, recurses := true, named := ["tearoff/sets.widths", "tearoff/sets.sums", "tearoff/sets.own", "tearoff/sets.heights"], apart := false, laid := [("tearoff/sets.sums", laid_tearoff_sets_sums), ("tearoff/sets.widths", laid_tearoff_sets_widths), ("tearoff/sets.heights", laid_tearoff_sets_heights), ("tearoff/sets.own", laid_tearoff_sets_own)] }
def SetsTellSaid : Prop := setsTellRow.holds Tryd.pinned (OpenSpec.ofChange setsTellSpec)

/-- ITS FALSE NEIGHBOUR: 'it returns false'. Refute it at one input. -/
def setsTellWrong : ChangeSpec := { name := "setsTell", fn := fun _ => fun
  | [d1, d2, d3] => { results := [.lit (.bool false)], args := [d1, d2, d3] }
  | _ => none }
def SetsTellWrongFalsely : Prop := setsTellRow.holds Tryd.pinned (OpenSpec.ofChange setsTellWrong)

/-- 'tearofflaw08.SetsCodes': WHATEVER THE INPUT: true; the input reads as it did. -/
def setsCodesSpec : ChangeSpec := { name := "setsCodes", fn := fun _ => fun
  | [d] => { results := [.lit (.bool true)], args := [d] }
  | _ => none }
def setsCodesRow : OpenClaim := { program := "ytigedohalangbaadoor", sum := "15f502e3de64f6c306be9e20908b05782f752991eb1c953fb31243e5fe98e197", func := "tearoff/tearofflaw08.SetsCodes", spec := "setsCodes", unfollowed := true, recurses := true, named := ["tearoff/sets.widths", "tearoff/sets.sums", "tearoff/sets.own", "tearoff/sets.heights"], apart := false, laid := [("tearoff/sets.sums", laid_tearoff_sets_sums), ("tearoff/sets.widths", laid_tearoff_sets_widths), ("tearoff/sets.heights", laid_tearoff_sets_heights), ("tearoff/sets.own", laid_tearoff_sets_own)] }
def SetsCodesSaid : Prop := setsCodesRow.holds Tryd.pinned (OpenSpec.ofChange setsCodesSpec)

/-- ITS FALSE NEIGHBOUR: 'it returns false'. Refute it at one input. -/
def setsCodesWrong : ChangeSpec := { name := "setsCodes", fn := fun _ => fun
  | [d] => { results := [.lit (.bool false)], args := [d] }
  | _ => none }
def SetsCodesWrongFalsely : Prop := setsCodesRow.holds Tryd.pinned (OpenSpec.ofChange setsCodesWrong)

/-- 'tearofflaw08.SetsFit': WHATEVER THE INPUT: true; the input reads as it did. -/
def setsFitSpec : ChangeSpec := { name := "setsFit", fn := fun _ => fun
  | [d] => { results := [.lit (.bool true)], args := [d] }
  | _ => none }
def setsFitRow : OpenClaim := { program := "ytigedohalangbaadoor", sum := "15f502e3de64f6c306be9e20908b05782f752991eb1c953fb31243e5fe98e197", func := "tearoff/tearofflaw08.SetsFit", spec := "setsFit", unfollowed := true, recurses := true, named := ["tearoff/sets.widths", "tearoff/sets.sums", "tearoff/sets.own", "tearoff/sets.heights"], apart := false, laid := [("tearoff/sets.sums", laid_tearoff_sets_sums), ("tearoff/sets.widths", laid_tearoff_sets_widths), ("tearoff/sets.heights", laid_tearoff_sets_heights), ("tearoff/sets.own", laid_tearoff_sets_own)] }
def SetsFitSaid : Prop := setsFitRow.holds Tryd.pinned (OpenSpec.ofChange setsFitSpec)

/-- ITS FALSE NEIGHBOUR: 'it returns false'. Refute it at one input. -/
def setsFitWrong : ChangeSpec := { name := "setsFit", fn := fun _ => fun
  | [d] => { results := [.lit (.bool false)], args := [d] }
  | _ => none }
def SetsFitWrongFalsely : Prop := setsFitRow.holds Tryd.pinned (OpenSpec.ofChange setsFitWrong)

/-- 'tearofflaw08.SetsLeaves': WHATEVER THE INPUT: true; the input reads as it did. -/
def setsLeavesSpec : ChangeSpec := { name := "setsLeaves", fn := fun _ => fun
  | [d] => { results := [.lit (.bool true)], args := [d] }
  | _ => none }
def setsLeavesRow : OpenClaim := { program := "ytigedohalangbaadoor", sum := "15f502e3de64f6c306be9e20908b05782f752991eb1c953fb31243e5fe98e197", func := "tearoff/tearofflaw08.SetsLeaves", spec := "setsLeaves", unfollowed := true, recurses := true, named := ["tearoff/sets.widths", "tearoff/sets.sums", "tearoff/sets.own", "tearoff/sets.heights"], apart := false, laid := [("tearoff/sets.sums", laid_tearoff_sets_sums), ("tearoff/sets.widths", laid_tearoff_sets_widths), ("tearoff/sets.heights", laid_tearoff_sets_heights), ("tearoff/sets.own", laid_tearoff_sets_own)] }
def SetsLeavesSaid : Prop := setsLeavesRow.holds Tryd.pinned (OpenSpec.ofChange setsLeavesSpec)

/-- ITS FALSE NEIGHBOUR: 'it returns false'. Refute it at one input. -/
def setsLeavesWrong : ChangeSpec := { name := "setsLeaves", fn := fun _ => fun
  | [d] => { results := [.lit (.bool false)], args := [d] }
  | _ => none }
def SetsLeavesWrongFalsely : Prop := setsLeavesRow.holds Tryd.pinned (OpenSpec.ofChange setsLeavesWrong)

/-- 'tearofflaw08.SetsDigits': WHATEVER THE INPUT: true; the input reads as it did. -/
def setsDigitsSpec : ChangeSpec := { name := "setsDigits", fn := fun _ => fun
  | [d] => { results := [.lit (.bool true)], args := [d] }
  | _ => none }
def setsDigitsRow : OpenClaim := { program := "ytigedohalangbaadoor", sum := "15f502e3de64f6c306be9e20908b05782f752991eb1c953fb31243e5fe98e197", func := "tearoff/tearofflaw08.SetsDigits", spec := "setsDigits", unfollowed := true, recurses := true, named := ["tearoff/sets.widths", "tearoff/sets.sums", "tearoff/sets.own", "tearoff/sets.heights"], apart := false, laid := [("tearoff/sets.sums", laid_tearoff_sets_sums), ("tearoff/sets.widths", laid_tearoff_sets_widths), ("tearoff/sets.heights", laid_tearoff_sets_heights), ("tearoff/sets.own", laid_tearoff_sets_own)] }
def SetsDigitsSaid : Prop := setsDigitsRow.holds Tryd.pinned (OpenSpec.ofChange setsDigitsSpec)

/-- ITS FALSE NEIGHBOUR: 'it returns false'. Refute it at one input. -/
def setsDigitsWrong : ChangeSpec := { name := "setsDigits", fn := fun _ => fun
  | [d] => { results := [.lit (.bool false)], args := [d] }
  | _ => none }
def SetsDigitsWrongFalsely : Prop := setsDigitsRow.holds Tryd.pinned (OpenSpec.ofChange setsDigitsWrong)

/- THE SECOND FORM. 'bulk': how many values and letters a reading holds, each counted each time it is reached (what is shared counts as often as it is met; a slice's spare places count too). A statement '..UptoSaid' is the law's where the arguments, and the package variables that the reading takes, are together of bulk at most 1048576: NARROWER than '..Said'. Prove '..Said' where nothing that the law and all that it calls make is longer than what came in: it says more and counts as full. Else prove '..UptoSaid'. A law counts once. -/
mutual
def uptoBulk {H : Type} : DataW H → Nat
  | .lit (.string bytes) => bytes.length + 1
  | .lit _ => 1
  | .nil => 1
  | .ptr d => uptoBulk d + 1
  | .slice elems spare => uptoBulkAll elems + uptoBulkAll spare + 1
  | .agg parts => uptoBulkAll parts + 1
  | .iface _ d => uptoBulk d + 1
  | .map entries => uptoBulkEntries entries + 1
  | .held _ => 1
def uptoBulkAll {H : Type} : List (DataW H) → Nat
  | [] => 0
  | d :: r => uptoBulk d + uptoBulkAll r
def uptoBulkEntries {H : Type} : List (Lit × DataW H) → Nat
  | [] => 0
  | x :: r => uptoBulkEntry x + uptoBulkEntries r
def uptoBulkEntry {H : Type} : Lit × DataW H → Nat
  | (.string bytes, d) => bytes.length + uptoBulk d + 1
  | (_, d) => uptoBulk d + 1
 end
def uptoSmall : (H : Type) → List (DataW H) → Bool := fun _ ds => decide (uptoBulkAll ds ≤ 1048576)
def OpenSpec.upto (s : _root_.Go.ChangeSpec) : _root_.Go.OpenSpec := { _root_.Go.OpenSpec.ofChange s with cond := some uptoSmall }

/-- 'tearofflaw08.SetsTell', WHERE WHAT IT READS IS OF BULK AT MOST 1048576: true; the input reads as it did. -/
def setsTellUptoRow : OpenClaim := { program := "ytigedohalangbaadoor", sum := "15f502e3de64f6c306be9e20908b05782f752991eb1c953fb31243e5fe98e197", func := "tearoff/tearofflaw08.SetsTell", spec := "setsTell", unfollowed := true, recurses := true, named := ["tearoff/sets.widths", "tearoff/sets.sums", "tearoff/sets.own", "tearoff/sets.heights"], apart := false, laid := [("tearoff/sets.sums", laid_tearoff_sets_sums), ("tearoff/sets.widths", laid_tearoff_sets_widths), ("tearoff/sets.heights", laid_tearoff_sets_heights), ("tearoff/sets.own", laid_tearoff_sets_own)], narrowed := true }
def SetsTellUptoSaid : Prop := setsTellUptoRow.holds Tryd.pinned (OpenSpec.upto setsTellSpec)

/-- 'tearofflaw08.SetsCodes', WHERE WHAT IT READS IS OF BULK AT MOST 1048576: true; the input reads as it did. -/
def setsCodesUptoRow : OpenClaim := { program := "ytigedohalangbaadoor", sum := "15f502e3de64f6c306be9e20908b05782f752991eb1c953fb31243e5fe98e197", func := "tearoff/tearofflaw08.SetsCodes", spec := "setsCodes", unfollowed := true, recurses := true, named := ["tearoff/sets.widths", "tearoff/sets.sums", "tearoff/sets.own", "tearoff/sets.heights"], apart := false, laid := [("tearoff/sets.sums", laid_tearoff_sets_sums), ("tearoff/sets.widths", laid_tearoff_sets_widths), ("tearoff/sets.heights", laid_tearoff_sets_heights), ("tearoff/sets.own", laid_tearoff_sets_own)], narrowed := true }
def SetsCodesUptoSaid : Prop := setsCodesUptoRow.holds Tryd.pinned (OpenSpec.upto setsCodesSpec)

/-- 'tearofflaw08.SetsFit', WHERE WHAT IT READS IS OF BULK AT MOST 1048576: true; the input reads as it did. -/
def setsFitUptoRow : OpenClaim := { program := "ytigedohalangbaadoor", sum := "15f502e3de64f6c306be9e20908b05782f752991eb1c953fb31243e5fe98e197", func := "tearoff/tearofflaw08.SetsFit", spec := "setsFit", unfollowed := true, recurses := true, named := ["tearoff/sets.widths", "tearoff/sets.sums", "tearoff/sets.own", "tearoff/sets.heights"], apart := false, laid := [("tearoff/sets.sums", laid_tearoff_sets_sums), ("tearoff/sets.widths", laid_tearoff_sets_widths), ("tearoff/sets.heights", laid_tearoff_sets_heights), ("tearoff/sets.own", laid_tearoff_sets_own)], narrowed := true }
def SetsFitUptoSaid : Prop := setsFitUptoRow.holds Tryd.pinned (OpenSpec.upto setsFitSpec)

/-- 'tearofflaw08.SetsLeaves', WHERE WHAT IT READS IS OF BULK AT MOST 1048576: true; the input reads as it did. -/
def setsLeavesUptoRow : OpenClaim := { program := "ytigedohalangbaadoor", sum := "15f502e3de64f6c306be9e20908b05782f752991eb1c953fb31243e5fe98e197", func := "tearoff/tearofflaw08.SetsLeaves", spec := "setsLeaves", unfollowed := true, recurses := true, named := ["tearoff/sets.widths", "tearoff/sets.sums", "tearoff/sets.own", "tearoff/sets.heights"], apart := false, laid := [("tearoff/sets.sums", laid_tearoff_sets_sums), ("tearoff/sets.widths", laid_tearoff_sets_widths), ("tearoff/sets.heights", laid_tearoff_sets_heights), ("tearoff/sets.own", laid_tearoff_sets_own)], narrowed := true }
def SetsLeavesUptoSaid : Prop := setsLeavesUptoRow.holds Tryd.pinned (OpenSpec.upto setsLeavesSpec)

/-- 'tearofflaw08.SetsDigits', WHERE WHAT IT READS IS OF BULK AT MOST 1048576: true; the input reads as it did. -/
def setsDigitsUptoRow : OpenClaim := { program := "ytigedohalangbaadoor", sum := "15f502e3de64f6c306be9e20908b05782f752991eb1c953fb31243e5fe98e197", func := "tearoff/tearofflaw08.SetsDigits", spec := "setsDigits", unfollowed := true, recurses := true, named := ["tearoff/sets.widths", "tearoff/sets.sums", "tearoff/sets.own", "tearoff/sets.heights"], apart := false, laid := [("tearoff/sets.sums", laid_tearoff_sets_sums), ("tearoff/sets.widths", laid_tearoff_sets_widths), ("tearoff/sets.heights", laid_tearoff_sets_heights), ("tearoff/sets.own", laid_tearoff_sets_own)], narrowed := true }
def SetsDigitsUptoSaid : Prop := setsDigitsUptoRow.holds Tryd.pinned (OpenSpec.upto setsDigitsSpec)

end Rows
end Go.Proofs.YtigedohalangbaaDoor
