/-
  NARROWER THAN 'FOR EVERY INPUT', by the rows' own cells (each row's printed sentence says how): ForsStands: laid · ForsDigits: laid · ForsTells: laid · ForsKeeps: laid · AdrsSums: laid · AdrsApart: laid · AdrsNums: laid · AdrsLengths: laid · AdrsMasked: laid.
  DERIVED. THE GIVEN ROWS OF THIS SEAT. 9 by the template 'for every input the law returns true; each argument reads behind the call as it read before'; 0 by the template 'total and deterministic' (their statements: YtfaonieaagepjaaDoorTotals.lean).
  GIVEN WITH THE SEED: the statements are not yours to turn. If you find one false, say at which input.
  Laid BY PROGRAM, IN A SANDBOX (cutbox-rows.mjs): the forced cells as the released guide's own fill.sh prints them over the translation 08cc4ea92d90c338… (all of the seat's roots in one cut). By AI agents, Wed Nov 11 2026. No macro, syntax, notation, axiom, sorry.
-/
import Derived.Test.YtfaonieaagepjaaDoorChecked
import GoSem.Claim
import GoSem.ClaimJoined
import GoSem.ClaimMapViews
import Derived.JoinedTies
import Derived.KernelRfl
namespace Go.Proofs.YtfaonieaagepjaaDoor
/- THE CELL 'sum', in the pinned program and in every row, IS THE sha256 OF THE DUMP (.gsa) THAT YtfaonieaagepjaaDoorProg.lean LOADS. Nothing in Lean hashes anything: it is a label: what it is worth is what the hold of that sum in a sandbox is worth. -/
noncomputable def Tryd.pinned : Pinned := { name := "ytfaonieaagepjaadoor", sum := "08cc4ea92d90c3389b383230c6dc2e25f481d0aadced56f6989834c22c847f1a", checked := Tryd.checked }
namespace Rows
def none {H : Type} : Left H := { results := [], args := [] }

/- WHAT THE LISTED PACKAGE-LEVEL VARIABLES READ AS WHEN THE CALL BEGINS. Each datum BY PROGRAM (the guide's laid-datum.mjs) off the statement by which the dump's own 'gosem.cut.vars' lays the variable. In a bare row this is a premise. The card (YtfaonieaagepjaaDoorCards.lean) ties it to the program's text. -/
def laid_tearoff_keccak_rc {H : Type} : DataW H := .agg [.lit (.int .u64 1), .lit (.int .u64 32898), .lit (.int .u64 9223372036854808714), .lit (.int .u64 9223372039002292224), .lit (.int .u64 32907), .lit (.int .u64 2147483649), .lit (.int .u64 9223372039002292353), .lit (.int .u64 9223372036854808585), .lit (.int .u64 138), .lit (.int .u64 136), .lit (.int .u64 2147516425), .lit (.int .u64 2147483658), .lit (.int .u64 2147516555), .lit (.int .u64 9223372036854775947), .lit (.int .u64 9223372036854808713), .lit (.int .u64 9223372036854808579), .lit (.int .u64 9223372036854808578), .lit (.int .u64 9223372036854775936), .lit (.int .u64 32778), .lit (.int .u64 9223372039002259466), .lit (.int .u64 9223372039002292353), .lit (.int .u64 9223372036854808704), .lit (.int .u64 2147483649), .lit (.int .u64 9223372039002292232)]
def laid_tearoff_keccak_turns {H : Type} : DataW H := .agg [.lit (.int .i64 0), .lit (.int .i64 1), .lit (.int .i64 62), .lit (.int .i64 28), .lit (.int .i64 27), .lit (.int .i64 36), .lit (.int .i64 44), .lit (.int .i64 6), .lit (.int .i64 55), .lit (.int .i64 20), .lit (.int .i64 3), .lit (.int .i64 10), .lit (.int .i64 43), .lit (.int .i64 25), .lit (.int .i64 39), .lit (.int .i64 41), .lit (.int .i64 45), .lit (.int .i64 15), .lit (.int .i64 21), .lit (.int .i64 8), .lit (.int .i64 18), .lit (.int .i64 2), .lit (.int .i64 61), .lit (.int .i64 56), .lit (.int .i64 14)]
def laid_tearoff_sha2_k {H : Type} : DataW H := .agg [.lit (.int .u32 1116352408), .lit (.int .u32 1899447441), .lit (.int .u32 3049323471), .lit (.int .u32 3921009573), .lit (.int .u32 961987163), .lit (.int .u32 1508970993), .lit (.int .u32 2453635748), .lit (.int .u32 2870763221), .lit (.int .u32 3624381080), .lit (.int .u32 310598401), .lit (.int .u32 607225278), .lit (.int .u32 1426881987), .lit (.int .u32 1925078388), .lit (.int .u32 2162078206), .lit (.int .u32 2614888103), .lit (.int .u32 3248222580), .lit (.int .u32 3835390401), .lit (.int .u32 4022224774), .lit (.int .u32 264347078), .lit (.int .u32 604807628), .lit (.int .u32 770255983), .lit (.int .u32 1249150122), .lit (.int .u32 1555081692), .lit (.int .u32 1996064986), .lit (.int .u32 2554220882), .lit (.int .u32 2821834349), .lit (.int .u32 2952996808), .lit (.int .u32 3210313671), .lit (.int .u32 3336571891), .lit (.int .u32 3584528711), .lit (.int .u32 113926993), .lit (.int .u32 338241895), .lit (.int .u32 666307205), .lit (.int .u32 773529912), .lit (.int .u32 1294757372), .lit (.int .u32 1396182291), .lit (.int .u32 1695183700), .lit (.int .u32 1986661051), .lit (.int .u32 2177026350), .lit (.int .u32 2456956037), .lit (.int .u32 2730485921), .lit (.int .u32 2820302411), .lit (.int .u32 3259730800), .lit (.int .u32 3345764771), .lit (.int .u32 3516065817), .lit (.int .u32 3600352804), .lit (.int .u32 4094571909), .lit (.int .u32 275423344), .lit (.int .u32 430227734), .lit (.int .u32 506948616), .lit (.int .u32 659060556), .lit (.int .u32 883997877), .lit (.int .u32 958139571), .lit (.int .u32 1322822218), .lit (.int .u32 1537002063), .lit (.int .u32 1747873779), .lit (.int .u32 1955562222), .lit (.int .u32 2024104815), .lit (.int .u32 2227730452), .lit (.int .u32 2361852424), .lit (.int .u32 2428436474), .lit (.int .u32 2756734187), .lit (.int .u32 3204031479), .lit (.int .u32 3329325298)]
def laid_tearoff_sha2_first {H : Type} : DataW H := .agg [.lit (.int .u32 1779033703), .lit (.int .u32 3144134277), .lit (.int .u32 1013904242), .lit (.int .u32 2773480762), .lit (.int .u32 1359893119), .lit (.int .u32 2600822924), .lit (.int .u32 528734635), .lit (.int .u32 1541459225)]

/-- 'tearofflaw17.ForsStands': WHATEVER THE INPUT: true; the input reads as it did. -/
def forsStandsSpec : ChangeSpec := { name := "forsStands", fn := fun _ => fun
  | [d1, d2, d3] => { results := [.lit (.bool true)], args := [d1, d2, d3] }
  | _ => none }
def forsStandsRow : OpenClaim := { program := "ytfaonieaagepjaadoor", sum := "08cc4ea92d90c3389b383230c6dc2e25f481d0aadced56f6989834c22c847f1a", func := "tearoff/tearofflaw17.ForsStands", spec := "forsStands", inPlace := ["internal/bytealg.MakeNoZero"], unfollowed := true, recurses := true, named := ["tearoff/keccak.turns", "tearoff/keccak.rc"], apart := false, laid := [("tearoff/keccak.rc", laid_tearoff_keccak_rc), ("tearoff/keccak.turns", laid_tearoff_keccak_turns)] }
def ForsStandsSaid : Prop := forsStandsRow.holds Tryd.pinned (OpenSpec.ofChange forsStandsSpec)

/-- ITS FALSE NEIGHBOUR: 'it returns false'. Refute it at one input. -/
def forsStandsWrong : ChangeSpec := { name := "forsStands", fn := fun _ => fun
  | [d1, d2, d3] => { results := [.lit (.bool false)], args := [d1, d2, d3] }
  | _ => none }
def ForsStandsWrongFalsely : Prop := forsStandsRow.holds Tryd.pinned (OpenSpec.ofChange forsStandsWrong)

/-- 'tearofflaw17.ForsDigits': WHATEVER THE INPUT: true; the input reads as it did. -/
def forsDigitsSpec : ChangeSpec := { name := "forsDigits", fn := fun _ => fun
  | [d1, d2] => { results := [.lit (.bool true)], args := [d1, d2] }
  | _ => none }
def forsDigitsRow : OpenClaim := { program := "ytfaonieaagepjaadoor", sum := "08cc4ea92d90c3389b383230c6dc2e25f481d0aadced56f6989834c22c847f1a", func := "tearoff/tearofflaw17.ForsDigits", spec := "forsDigits", inPlace := ["internal/bytealg.MakeNoZero"], unfollowed := true, recurses := true, named := ["tearoff/keccak.turns", "tearoff/keccak.rc"], apart := false, laid := [("tearoff/keccak.rc", laid_tearoff_keccak_rc), ("tearoff/keccak.turns", laid_tearoff_keccak_turns)] }
def ForsDigitsSaid : Prop := forsDigitsRow.holds Tryd.pinned (OpenSpec.ofChange forsDigitsSpec)

/-- ITS FALSE NEIGHBOUR: 'it returns false'. Refute it at one input. -/
def forsDigitsWrong : ChangeSpec := { name := "forsDigits", fn := fun _ => fun
  | [d1, d2] => { results := [.lit (.bool false)], args := [d1, d2] }
  | _ => none }
def ForsDigitsWrongFalsely : Prop := forsDigitsRow.holds Tryd.pinned (OpenSpec.ofChange forsDigitsWrong)

/-- 'tearofflaw17.ForsTells': WHATEVER THE INPUT: true; the input reads as it did. -/
def forsTellsSpec : ChangeSpec := { name := "forsTells", fn := fun _ => fun
  | [d1, d2, d3] => { results := [.lit (.bool true)], args := [d1, d2, d3] }
  | _ => none }
def forsTellsRow : OpenClaim := { program := "ytfaonieaagepjaadoor", sum := "08cc4ea92d90c3389b383230c6dc2e25f481d0aadced56f6989834c22c847f1a", func := "tearoff/tearofflaw17.ForsTells", spec := "forsTells", inPlace := ["internal/bytealg.MakeNoZero"], unfollowed := true, recurses := true, named := ["tearoff/keccak.turns", "tearoff/keccak.rc"], apart := false, laid := [("tearoff/keccak.rc", laid_tearoff_keccak_rc), ("tearoff/keccak.turns", laid_tearoff_keccak_turns)] }
def ForsTellsSaid : Prop := forsTellsRow.holds Tryd.pinned (OpenSpec.ofChange forsTellsSpec)

/-- ITS FALSE NEIGHBOUR: 'it returns false'. Refute it at one input. -/
def forsTellsWrong : ChangeSpec := { name := "forsTells", fn := fun _ => fun
  | [d1, d2, d3] => { results := [.lit (.bool false)], args := [d1, d2, d3] }
  | _ => none }
def ForsTellsWrongFalsely : Prop := forsTellsRow.holds Tryd.pinned (OpenSpec.ofChange forsTellsWrong)

/-- 'tearofflaw17.ForsKeeps': WHATEVER THE INPUT: true; the input reads as it did. -/
def forsKeepsSpec : ChangeSpec := { name := "forsKeeps", fn := fun _ => fun
  | [d1, d2, d3] => { results := [.lit (.bool true)], args := [d1, d2, d3] }
  | _ => none }
def forsKeepsRow : OpenClaim := { program := "ytfaonieaagepjaadoor", sum := "08cc4ea92d90c3389b383230c6dc2e25f481d0aadced56f6989834c22c847f1a", func := "tearoff/tearofflaw17.ForsKeeps", spec := "forsKeeps", inPlace := ["internal/bytealg.MakeNoZero"], unfollowed := true, recurses := true, named := ["tearoff/keccak.turns", "tearoff/keccak.rc"], apart := false, laid := [("tearoff/keccak.rc", laid_tearoff_keccak_rc), ("tearoff/keccak.turns", laid_tearoff_keccak_turns)] }
def ForsKeepsSaid : Prop := forsKeepsRow.holds Tryd.pinned (OpenSpec.ofChange forsKeepsSpec)

/-- ITS FALSE NEIGHBOUR: 'it returns false'. Refute it at one input. -/
def forsKeepsWrong : ChangeSpec := { name := "forsKeeps", fn := fun _ => fun
  | [d1, d2, d3] => { results := [.lit (.bool false)], args := [d1, d2, d3] }
  | _ => none }
def ForsKeepsWrongFalsely : Prop := forsKeepsRow.holds Tryd.pinned (OpenSpec.ofChange forsKeepsWrong)

/-- 'tearofflaw14.AdrsSums': WHATEVER THE INPUT: true; the input reads as it did. -/
def adrsSumsSpec : ChangeSpec := { name := "adrsSums", fn := fun _ => fun
  | [d1, d2, d3] => { results := [.lit (.bool true)], args := [d1, d2, d3] }
  | _ => none }
def adrsSumsRow : OpenClaim := { program := "ytfaonieaagepjaadoor", sum := "08cc4ea92d90c3389b383230c6dc2e25f481d0aadced56f6989834c22c847f1a", func := "tearoff/tearofflaw14.AdrsSums", spec := "adrsSums", inPlace := ["internal/bytealg.MakeNoZero"], unfollowed := true, recurses := true, named := ["tearoff/sha2.first", "tearoff/sha2.k", "tearoff/keccak.turns", "tearoff/keccak.rc"], apart := false, laid := [("tearoff/keccak.rc", laid_tearoff_keccak_rc), ("tearoff/keccak.turns", laid_tearoff_keccak_turns), ("tearoff/sha2.k", laid_tearoff_sha2_k), ("tearoff/sha2.first", laid_tearoff_sha2_first)] }
def AdrsSumsSaid : Prop := adrsSumsRow.holds Tryd.pinned (OpenSpec.ofChange adrsSumsSpec)

/-- ITS FALSE NEIGHBOUR: 'it returns false'. Refute it at one input. -/
def adrsSumsWrong : ChangeSpec := { name := "adrsSums", fn := fun _ => fun
  | [d1, d2, d3] => { results := [.lit (.bool false)], args := [d1, d2, d3] }
  | _ => none }
def AdrsSumsWrongFalsely : Prop := adrsSumsRow.holds Tryd.pinned (OpenSpec.ofChange adrsSumsWrong)

/-- 'tearofflaw14.AdrsApart': WHATEVER THE INPUT: true; the input reads as it did. -/
def adrsApartSpec : ChangeSpec := { name := "adrsApart", fn := fun _ => fun
  | [d1, d2, d3] => { results := [.lit (.bool true)], args := [d1, d2, d3] }
  | _ => none }
def adrsApartRow : OpenClaim := { program := "ytfaonieaagepjaadoor", sum := "08cc4ea92d90c3389b383230c6dc2e25f481d0aadced56f6989834c22c847f1a", func := "tearoff/tearofflaw14.AdrsApart", spec := "adrsApart", inPlace := ["internal/bytealg.MakeNoZero"], unfollowed := true, recurses := true, named := ["tearoff/sha2.first", "tearoff/sha2.k", "tearoff/keccak.turns", "tearoff/keccak.rc"], apart := false, laid := [("tearoff/keccak.rc", laid_tearoff_keccak_rc), ("tearoff/keccak.turns", laid_tearoff_keccak_turns), ("tearoff/sha2.k", laid_tearoff_sha2_k), ("tearoff/sha2.first", laid_tearoff_sha2_first)] }
def AdrsApartSaid : Prop := adrsApartRow.holds Tryd.pinned (OpenSpec.ofChange adrsApartSpec)

/-- ITS FALSE NEIGHBOUR: 'it returns false'. Refute it at one input. -/
def adrsApartWrong : ChangeSpec := { name := "adrsApart", fn := fun _ => fun
  | [d1, d2, d3] => { results := [.lit (.bool false)], args := [d1, d2, d3] }
  | _ => none }
def AdrsApartWrongFalsely : Prop := adrsApartRow.holds Tryd.pinned (OpenSpec.ofChange adrsApartWrong)

/-- 'tearofflaw14.AdrsNums': WHATEVER THE INPUT: true; the input reads as it did. -/
def adrsNumsSpec : ChangeSpec := { name := "adrsNums", fn := fun _ => fun
  | [d1, d2, d3] => { results := [.lit (.bool true)], args := [d1, d2, d3] }
  | _ => none }
def adrsNumsRow : OpenClaim := { program := "ytfaonieaagepjaadoor", sum := "08cc4ea92d90c3389b383230c6dc2e25f481d0aadced56f6989834c22c847f1a", func := "tearoff/tearofflaw14.AdrsNums", spec := "adrsNums", inPlace := ["internal/bytealg.MakeNoZero"], unfollowed := true, recurses := true, named := ["tearoff/sha2.first", "tearoff/sha2.k", "tearoff/keccak.turns", "tearoff/keccak.rc"], apart := false, laid := [("tearoff/keccak.rc", laid_tearoff_keccak_rc), ("tearoff/keccak.turns", laid_tearoff_keccak_turns), ("tearoff/sha2.k", laid_tearoff_sha2_k), ("tearoff/sha2.first", laid_tearoff_sha2_first)] }
def AdrsNumsSaid : Prop := adrsNumsRow.holds Tryd.pinned (OpenSpec.ofChange adrsNumsSpec)

/-- ITS FALSE NEIGHBOUR: 'it returns false'. Refute it at one input. -/
def adrsNumsWrong : ChangeSpec := { name := "adrsNums", fn := fun _ => fun
  | [d1, d2, d3] => { results := [.lit (.bool false)], args := [d1, d2, d3] }
  | _ => none }
def AdrsNumsWrongFalsely : Prop := adrsNumsRow.holds Tryd.pinned (OpenSpec.ofChange adrsNumsWrong)

/-- 'tearofflaw14.AdrsLengths': WHATEVER THE INPUT: true; the input reads as it did. -/
def adrsLengthsSpec : ChangeSpec := { name := "adrsLengths", fn := fun _ => fun
  | [d1, d2, d3] => { results := [.lit (.bool true)], args := [d1, d2, d3] }
  | _ => none }
def adrsLengthsRow : OpenClaim := { program := "ytfaonieaagepjaadoor", sum := "08cc4ea92d90c3389b383230c6dc2e25f481d0aadced56f6989834c22c847f1a", func := "tearoff/tearofflaw14.AdrsLengths", spec := "adrsLengths", inPlace := ["internal/bytealg.MakeNoZero"], unfollowed := true, recurses := true, named := ["tearoff/sha2.first", "tearoff/sha2.k", "tearoff/keccak.turns", "tearoff/keccak.rc"], apart := false, laid := [("tearoff/keccak.rc", laid_tearoff_keccak_rc), ("tearoff/keccak.turns", laid_tearoff_keccak_turns), ("tearoff/sha2.k", laid_tearoff_sha2_k), ("tearoff/sha2.first", laid_tearoff_sha2_first)] }
def AdrsLengthsSaid : Prop := adrsLengthsRow.holds Tryd.pinned (OpenSpec.ofChange adrsLengthsSpec)

/-- ITS FALSE NEIGHBOUR: 'it returns false'. Refute it at one input. -/
def adrsLengthsWrong : ChangeSpec := { name := "adrsLengths", fn := fun _ => fun
  | [d1, d2, d3] => { results := [.lit (.bool false)], args := [d1, d2, d3] }
  | _ => none }
def AdrsLengthsWrongFalsely : Prop := adrsLengthsRow.holds Tryd.pinned (OpenSpec.ofChange adrsLengthsWrong)

/-- 'tearofflaw14.AdrsMasked': WHATEVER THE INPUT: true; the input reads as it did. -/
def adrsMaskedSpec : ChangeSpec := { name := "adrsMasked", fn := fun _ => fun
  | [d1, d2] => { results := [.lit (.bool true)], args := [d1, d2] }
  | _ => none }
def adrsMaskedRow : OpenClaim := { program := "ytfaonieaagepjaadoor", sum := "08cc4ea92d90c3389b383230c6dc2e25f481d0aadced56f6989834c22c847f1a", func := "tearoff/tearofflaw14.AdrsMasked", spec := "adrsMasked", inPlace := ["internal/bytealg.MakeNoZero"], unfollowed := true, recurses := true, named := ["tearoff/sha2.first", "tearoff/sha2.k", "tearoff/keccak.turns", "tearoff/keccak.rc"], apart := false, laid := [("tearoff/keccak.rc", laid_tearoff_keccak_rc), ("tearoff/keccak.turns", laid_tearoff_keccak_turns), ("tearoff/sha2.k", laid_tearoff_sha2_k), ("tearoff/sha2.first", laid_tearoff_sha2_first)] }
def AdrsMaskedSaid : Prop := adrsMaskedRow.holds Tryd.pinned (OpenSpec.ofChange adrsMaskedSpec)

/-- ITS FALSE NEIGHBOUR: 'it returns false'. Refute it at one input. -/
def adrsMaskedWrong : ChangeSpec := { name := "adrsMasked", fn := fun _ => fun
  | [d1, d2] => { results := [.lit (.bool false)], args := [d1, d2] }
  | _ => none }
def AdrsMaskedWrongFalsely : Prop := adrsMaskedRow.holds Tryd.pinned (OpenSpec.ofChange adrsMaskedWrong)

/- THE SECOND FORM. 'bulk': how many values and letters a reading holds, each counted each time it is reached (what is shared counts as often as it is met; a slice's spare places count too). A statement '..UptoSaid' is the law's where the arguments, and the package variables that the reading takes, are together of bulk at most 1048576: NARROWER than '..Said'. Prove '..Said' where nothing that the law and all that it calls make is longer than what came in: it says more and counts as full. Else prove '..UptoSaid'. A law counts once. -/
mutual
def uptoBulk {H : Type} : DataW H → Nat
  | .lit (.string bytes) => bytes.length + 1
  | .lit _ => 1
  | .nil => 1
  | .ptr d => uptoBulk d + 1
  | .slice elems spare => uptoBulkAll elems + uptoBulkAll spare + 1
  | .agg parts => uptoBulkAll parts + 1
  | .iface _ d => uptoBulk d + 1
  | .map entries => uptoBulkEntries entries + 1
  | .held _ => 1
def uptoBulkAll {H : Type} : List (DataW H) → Nat
  | [] => 0
  | d :: r => uptoBulk d + uptoBulkAll r
def uptoBulkEntries {H : Type} : List (Lit × DataW H) → Nat
  | [] => 0
  | x :: r => uptoBulkEntry x + uptoBulkEntries r
def uptoBulkEntry {H : Type} : Lit × DataW H → Nat
  | (.string bytes, d) => bytes.length + uptoBulk d + 1
  | (_, d) => uptoBulk d + 1
 end
def uptoSmall : (H : Type) → List (DataW H) → Bool := fun _ ds => decide (uptoBulkAll ds ≤ 1048576)
def OpenSpec.upto (s : _root_.Go.ChangeSpec) : _root_.Go.OpenSpec := { _root_.Go.OpenSpec.ofChange s with cond := some uptoSmall }

/-- 'tearofflaw17.ForsStands', WHERE WHAT IT READS IS OF BULK AT MOST 1048576: true; the input reads as it did. -/
def forsStandsUptoRow : OpenClaim := { program := "ytfaonieaagepjaadoor", sum := "08cc4ea92d90c3389b383230c6dc2e25f481d0aadced56f6989834c22c847f1a", func := "tearoff/tearofflaw17.ForsStands", spec := "forsStands", inPlace := ["internal/bytealg.MakeNoZero"], unfollowed := true, recurses := true, named := ["tearoff/keccak.turns", "tearoff/keccak.rc"], apart := false, laid := [("tearoff/keccak.rc", laid_tearoff_keccak_rc), ("tearoff/keccak.turns", laid_tearoff_keccak_turns)], narrowed := true }
def ForsStandsUptoSaid : Prop := forsStandsUptoRow.holds Tryd.pinned (OpenSpec.upto forsStandsSpec)

/-- 'tearofflaw17.ForsDigits', WHERE WHAT IT READS IS OF BULK AT MOST 1048576: true; the input reads as it did. -/
def forsDigitsUptoRow : OpenClaim := { program := "ytfaonieaagepjaadoor", sum := "08cc4ea92d90c3389b383230c6dc2e25f481d0aadced56f6989834c22c847f1a", func := "tearoff/tearofflaw17.ForsDigits", spec := "forsDigits", inPlace := ["internal/bytealg.MakeNoZero"], unfollowed := true, recurses := true, named := ["tearoff/keccak.turns", "tearoff/keccak.rc"], apart := false, laid := [("tearoff/keccak.rc", laid_tearoff_keccak_rc), ("tearoff/keccak.turns", laid_tearoff_keccak_turns)], narrowed := true }
def ForsDigitsUptoSaid : Prop := forsDigitsUptoRow.holds Tryd.pinned (OpenSpec.upto forsDigitsSpec)

/-- 'tearofflaw17.ForsTells', WHERE WHAT IT READS IS OF BULK AT MOST 1048576: true; the input reads as it did. -/
def forsTellsUptoRow : OpenClaim := { program := "ytfaonieaagepjaadoor", sum := "08cc4ea92d90c3389b383230c6dc2e25f481d0aadced56f6989834c22c847f1a", func := "tearoff/tearofflaw17.ForsTells", spec := "forsTells", inPlace := ["internal/bytealg.MakeNoZero"], unfollowed := true, recurses := true, named := ["tearoff/keccak.turns", "tearoff/keccak.rc"], apart := false, laid := [("tearoff/keccak.rc", laid_tearoff_keccak_rc), ("tearoff/keccak.turns", laid_tearoff_keccak_turns)], narrowed := true }
def ForsTellsUptoSaid : Prop := forsTellsUptoRow.holds Tryd.pinned (OpenSpec.upto forsTellsSpec)

/-- 'tearofflaw17.ForsKeeps', WHERE WHAT IT READS IS OF BULK AT MOST 1048576: true; the input reads as it did. -/
def forsKeepsUptoRow : OpenClaim := { program := "ytfaonieaagepjaadoor", sum := "08cc4ea92d90c3389b383230c6dc2e25f481d0aadced56f6989834c22c847f1a", func := "tearoff/tearofflaw17.ForsKeeps", spec := "forsKeeps", inPlace := ["internal/bytealg.MakeNoZero"], unfollowed := true, recurses := true, named := ["tearoff/keccak.turns", "tearoff/keccak.rc"], apart := false, laid := [("tearoff/keccak.rc", laid_tearoff_keccak_rc), ("tearoff/keccak.turns", laid_tearoff_keccak_turns)], narrowed := true }
def ForsKeepsUptoSaid : Prop := forsKeepsUptoRow.holds Tryd.pinned (OpenSpec.upto forsKeepsSpec)

/-- 'tearofflaw14.AdrsSums', WHERE WHAT IT READS IS OF BULK AT MOST 1048576: true; the input reads as it did. -/
def adrsSumsUptoRow : OpenClaim := { program := "ytfaonieaagepjaadoor", sum := "08cc4ea92d90c3389b383230c6dc2e25f481d0aadced56f6989834c22c847f1a", func := "tearoff/tearofflaw14.AdrsSums", spec := "adrsSums", inPlace := ["internal/bytealg.MakeNoZero"], unfollowed := true, recurses := true, named := ["tearoff/sha2.first", "tearoff/sha2.k", "tearoff/keccak.turns", "tearoff/keccak.rc"], apart := false, laid := [("tearoff/keccak.rc", laid_tearoff_keccak_rc), ("tearoff/keccak.turns", laid_tearoff_keccak_turns), ("tearoff/sha2.k", laid_tearoff_sha2_k), ("tearoff/sha2.first", laid_tearoff_sha2_first)], narrowed := true }
def AdrsSumsUptoSaid : Prop := adrsSumsUptoRow.holds Tryd.pinned (OpenSpec.upto adrsSumsSpec)

/-- 'tearofflaw14.AdrsApart', WHERE WHAT IT READS IS OF BULK AT MOST 1048576: true; the input reads as it did. -/
def adrsApartUptoRow : OpenClaim := { program := "ytfaonieaagepjaadoor", sum := "08cc4ea92d90c3389b383230c6dc2e25f481d0aadced56f6989834c22c847f1a", func := "tearoff/tearofflaw14.AdrsApart", spec := "adrsApart", inPlace := ["internal/bytealg.MakeNoZero"], unfollowed := true, recurses := true, named := ["tearoff/sha2.first", "tearoff/sha2.k", "tearoff/keccak.turns", "tearoff/keccak.rc"], apart := false, laid := [("tearoff/keccak.rc", laid_tearoff_keccak_rc), ("tearoff/keccak.turns", laid_tearoff_keccak_turns), ("tearoff/sha2.k", laid_tearoff_sha2_k), ("tearoff/sha2.first", laid_tearoff_sha2_first)], narrowed := true }
def AdrsApartUptoSaid : Prop := adrsApartUptoRow.holds Tryd.pinned (OpenSpec.upto adrsApartSpec)

/-- 'tearofflaw14.AdrsNums', WHERE WHAT IT READS IS OF BULK AT MOST 1048576: true; the input reads as it did. -/
def adrsNumsUptoRow : OpenClaim := { program := "ytfaonieaagepjaadoor", sum := "08cc4ea92d90c3389b383230c6dc2e25f481d0aadced56f6989834c22c847f1a", func := "tearoff/tearofflaw14.AdrsNums", spec := "adrsNums", inPlace := ["internal/bytealg.MakeNoZero"], unfollowed := true, recurses := true, named := ["tearoff/sha2.first", "tearoff/sha2.k", "tearoff/keccak.turns", "tearoff/keccak.rc"], apart := false, laid := [("tearoff/keccak.rc", laid_tearoff_keccak_rc), ("tearoff/keccak.turns", laid_tearoff_keccak_turns), ("tearoff/sha2.k", laid_tearoff_sha2_k), ("tearoff/sha2.first", laid_tearoff_sha2_first)], narrowed := true }
def AdrsNumsUptoSaid : Prop := adrsNumsUptoRow.holds Tryd.pinned (OpenSpec.upto adrsNumsSpec)

/-- 'tearofflaw14.AdrsLengths', WHERE WHAT IT READS IS OF BULK AT MOST 1048576: true; the input reads as it did. -/
def adrsLengthsUptoRow : OpenClaim := { program := "ytfaonieaagepjaadoor", sum := "08cc4ea92d90c3389b383230c6dc2e25f481d0aadced56f6989834c22c847f1a", func := "tearoff/tearofflaw14.AdrsLengths", spec := "adrsLengths", inPlace := ["internal/bytealg.MakeNoZero"], unfollowed := true, recurses := true, named := ["tearoff/sha2.first", "tearoff/sha2.k", "tearoff/keccak.turns", "tearoff/keccak.rc"], apart := false, laid := [("tearoff/keccak.rc", laid_tearoff_keccak_rc), ("tearoff/keccak.turns", laid_tearoff_keccak_turns), ("tearoff/sha2.k", laid_tearoff_sha2_k), ("tearoff/sha2.first", laid_tearoff_sha2_first)], narrowed := true }
def AdrsLengthsUptoSaid : Prop := adrsLengthsUptoRow.holds Tryd.pinned (OpenSpec.upto adrsLengthsSpec)

/-- 'tearofflaw14.AdrsMasked', WHERE WHAT IT READS IS OF BULK AT MOST 1048576: true; the input reads as it did. -/
def adrsMaskedUptoRow : OpenClaim := { program := "ytfaonieaagepjaadoor", sum := "08cc4ea92d90c3389b383230c6dc2e25f481d0aadced56f6989834c22c847f1a", func := "tearoff/tearofflaw14.AdrsMasked", spec := "adrsMasked", inPlace := ["internal/bytealg.MakeNoZero"], unfollowed := true, recurses := true, named := ["tearoff/sha2.first", "tearoff/sha2.k", "tearoff/keccak.turns", "tearoff/keccak.rc"], apart := false, laid := [("tearoff/keccak.rc", laid_tearoff_keccak_rc), ("tearoff/keccak.turns", laid_tearoff_keccak_turns), ("tearoff/sha2.k", laid_tearoff_sha2_k), ("tearoff/sha2.first", laid_tearoff_sha2_first)], narrowed := true }
def AdrsMaskedUptoSaid : Prop := adrsMaskedUptoRow.holds Tryd.pinned (OpenSpec.upto adrsMaskedSpec)

end Rows
end Go.Proofs.YtfaonieaagepjaaDoor
