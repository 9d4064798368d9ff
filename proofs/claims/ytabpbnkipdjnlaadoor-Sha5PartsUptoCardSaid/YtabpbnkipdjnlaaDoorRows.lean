/-
  NARROWER THAN 'FOR EVERY INPUT', by the rows' own cells (each row's printed sentence says how): KeccakTurns: laid · KeccakApart: laid · KeccakRounds: laid · KeccakLinear: laid · ShakeSums: laid · ShakeReads: laid · ShakeBegins: laid · ShakeOne: laid · Sha5Sums: laid · Sha5Parts: laid · Sha5Long: laid · Sha5Again: laid.
  DERIVED. THE GIVEN ROWS OF THIS SEAT. 12 by the template 'for every input the law returns true; each argument reads behind the call as it read before'; 0 by the template 'total and deterministic' (their statements: YtabpbnkipdjnlaaDoorTotals.lean).
  GIVEN WITH THE SEED: the statements are not yours to turn. If you find one false, say at which input.
  Laid BY PROGRAM, IN A SANDBOX (cutbox-rows.mjs): the forced cells as the released guide's own fill.sh prints them over the translation ff54e0b13aa383cd… (all of the seat's roots in one cut). By AI agents, Wed Nov 11 2026. No macro, syntax, notation, axiom, sorry.
-/
import Derived.Test.YtabpbnkipdjnlaaDoorChecked
import GoSem.Claim
import GoSem.ClaimJoined
import GoSem.ClaimMapViews
import Derived.JoinedTies
import Derived.KernelRfl
namespace Go.Proofs.YtabpbnkipdjnlaaDoor
/- THE CELL 'sum', in the pinned program and in every row, IS THE sha256 OF THE DUMP (.gsa) THAT YtabpbnkipdjnlaaDoorProg.lean LOADS. Nothing in Lean hashes anything: it is a label: what it is worth is what the hold of that sum in a sandbox is worth. -/
noncomputable def Tryd.pinned : Pinned := { name := "ytabpbnkipdjnlaadoor", sum := "ff54e0b13aa383cdc876ea639f752bd12447b7d520b5a6c0779ef8c193544cc0", checked := Tryd.checked }
namespace Rows
def none {H : Type} : Left H := { results := [], args := [] }

/- WHAT THE LISTED PACKAGE-LEVEL VARIABLES READ AS WHEN THE CALL BEGINS. Each datum BY PROGRAM (the guide's laid-datum.mjs) off the statement by which the dump's own 'gosem.cut.vars' lays the variable. In a bare row this is a premise. The card (YtabpbnkipdjnlaaDoorCards.lean) ties it to the program's text. -/
def laid_tearoff_keccak_rc {H : Type} : DataW H := .agg [.lit (.int .u64 1), .lit (.int .u64 32898), .lit (.int .u64 9223372036854808714), .lit (.int .u64 9223372039002292224), .lit (.int .u64 32907), .lit (.int .u64 2147483649), .lit (.int .u64 9223372039002292353), .lit (.int .u64 9223372036854808585), .lit (.int .u64 138), .lit (.int .u64 136), .lit (.int .u64 2147516425), .lit (.int .u64 2147483658), .lit (.int .u64 2147516555), .lit (.int .u64 9223372036854775947), .lit (.int .u64 9223372036854808713), .lit (.int .u64 9223372036854808579), .lit (.int .u64 9223372036854808578), .lit (.int .u64 9223372036854775936), .lit (.int .u64 32778), .lit (.int .u64 9223372039002259466), .lit (.int .u64 9223372039002292353), .lit (.int .u64 9223372036854808704), .lit (.int .u64 2147483649), .lit (.int .u64 9223372039002292232)]
def laid_tearoff_keccak_turns {H : Type} : DataW H := .agg [.lit (.int .i64 0), .lit (.int .i64 1), .lit (.int .i64 62), .lit (.int .i64 28), .lit (.int .i64 27), .lit (.int .i64 36), .lit (.int .i64 44), .lit (.int .i64 6), .lit (.int .i64 55), .lit (.int .i64 20), .lit (.int .i64 3), .lit (.int .i64 10), .lit (.int .i64 43), .lit (.int .i64 25), .lit (.int .i64 39), .lit (.int .i64 41), .lit (.int .i64 45), .lit (.int .i64 15), .lit (.int .i64 21), .lit (.int .i64 8), .lit (.int .i64 18), .lit (.int .i64 2), .lit (.int .i64 61), .lit (.int .i64 56), .lit (.int .i64 14)]
def laid_tearoff_sha5_k {H : Type} : DataW H := .agg [.lit (.int .u64 4794697086780616226), .lit (.int .u64 8158064640168781261), .lit (.int .u64 13096744586834688815), .lit (.int .u64 16840607885511220156), .lit (.int .u64 4131703408338449720), .lit (.int .u64 6480981068601479193), .lit (.int .u64 10538285296894168987), .lit (.int .u64 12329834152419229976), .lit (.int .u64 15566598209576043074), .lit (.int .u64 1334009975649890238), .lit (.int .u64 2608012711638119052), .lit (.int .u64 6128411473006802146), .lit (.int .u64 8268148722764581231), .lit (.int .u64 9286055187155687089), .lit (.int .u64 11230858885718282805), .lit (.int .u64 13951009754708518548), .lit (.int .u64 16472876342353939154), .lit (.int .u64 17275323862435702243), .lit (.int .u64 1135362057144423861), .lit (.int .u64 2597628984639134821), .lit (.int .u64 3308224258029322869), .lit (.int .u64 5365058923640841347), .lit (.int .u64 6679025012923562964), .lit (.int .u64 8573033837759648693), .lit (.int .u64 10970295158949994411), .lit (.int .u64 12119686244451234320), .lit (.int .u64 12683024718118986047), .lit (.int .u64 13788192230050041572), .lit (.int .u64 14330467153632333762), .lit (.int .u64 15395433587784984357), .lit (.int .u64 489312712824947311), .lit (.int .u64 1452737877330783856), .lit (.int .u64 2861767655752347644), .lit (.int .u64 3322285676063803686), .lit (.int .u64 5560940570517711597), .lit (.int .u64 5996557281743188959), .lit (.int .u64 7280758554555802590), .lit (.int .u64 8532644243296465576), .lit (.int .u64 9350256976987008742), .lit (.int .u64 10552545826968843579), .lit (.int .u64 11727347734174303076), .lit (.int .u64 12113106623233404929), .lit (.int .u64 14000437183269869457), .lit (.int .u64 14369950271660146224), .lit (.int .u64 15101387698204529176), .lit (.int .u64 15463397548674623760), .lit (.int .u64 17586052441742319658), .lit (.int .u64 1182934255886127544), .lit (.int .u64 1847814050463011016), .lit (.int .u64 2177327727835720531), .lit (.int .u64 2830643537854262169), .lit (.int .u64 3796741975233480872), .lit (.int .u64 4115178125766777443), .lit (.int .u64 5681478168544905931), .lit (.int .u64 6601373596472566643), .lit (.int .u64 7507060721942968483), .lit (.int .u64 8399075790359081724), .lit (.int .u64 8693463985226723168), .lit (.int .u64 9568029438360202098), .lit (.int .u64 10144078919501101548), .lit (.int .u64 10430055236837252648), .lit (.int .u64 11840083180663258601), .lit (.int .u64 13761210420658862357), .lit (.int .u64 14299343276471374635), .lit (.int .u64 14566680578165727644), .lit (.int .u64 15097957966210449927), .lit (.int .u64 16922976911328602910), .lit (.int .u64 17689382322260857208), .lit (.int .u64 500013540394364858), .lit (.int .u64 748580250866718886), .lit (.int .u64 1242879168328830382), .lit (.int .u64 1977374033974150939), .lit (.int .u64 2944078676154940804), .lit (.int .u64 3659926193048069267), .lit (.int .u64 4368137639120453308), .lit (.int .u64 4836135668995329356), .lit (.int .u64 5532061633213252278), .lit (.int .u64 6448918945643986474), .lit (.int .u64 6902733635092675308), .lit (.int .u64 7801388544844847127)]
def laid_tearoff_sha5_first {H : Type} : DataW H := .agg [.lit (.int .u64 7640891576956012808), .lit (.int .u64 13503953896175478587), .lit (.int .u64 4354685564936845355), .lit (.int .u64 11912009170470909681), .lit (.int .u64 5840696475078001361), .lit (.int .u64 11170449401992604703), .lit (.int .u64 2270897969802886507), .lit (.int .u64 6620516959819538809)]

/-- 'tearofflaw04.KeccakTurns': WHATEVER THE INPUT: true; the input reads as it did. -/
def keccakTurnsSpec : ChangeSpec := { name := "keccakTurns", fn := fun _ => fun
  | [d1, d2] => { results := [.lit (.bool true)], args := [d1, d2] }
  | _ => none }
def keccakTurnsRow : OpenClaim := { program := "ytabpbnkipdjnlaadoor", sum := "ff54e0b13aa383cdc876ea639f752bd12447b7d520b5a6c0779ef8c193544cc0", func := "tearoff/tearofflaw04.KeccakTurns", spec := "keccakTurns", named := ["tearoff/keccak.turns", "tearoff/keccak.rc"], apart := false, laid := [("tearoff/keccak.rc", laid_tearoff_keccak_rc), ("tearoff/keccak.turns", laid_tearoff_keccak_turns)] }
def KeccakTurnsSaid : Prop := keccakTurnsRow.holds Tryd.pinned (OpenSpec.ofChange keccakTurnsSpec)

/-- ITS FALSE NEIGHBOUR: 'it returns false'. Refute it at one input. -/
def keccakTurnsWrong : ChangeSpec := { name := "keccakTurns", fn := fun _ => fun
  | [d1, d2] => { results := [.lit (.bool false)], args := [d1, d2] }
  | _ => none }
def KeccakTurnsWrongFalsely : Prop := keccakTurnsRow.holds Tryd.pinned (OpenSpec.ofChange keccakTurnsWrong)

/-- 'tearofflaw04.KeccakApart': WHATEVER THE INPUT: true; the input reads as it did. -/
def keccakApartSpec : ChangeSpec := { name := "keccakApart", fn := fun _ => fun
  | [d1, d2, d3] => { results := [.lit (.bool true)], args := [d1, d2, d3] }
  | _ => none }
def keccakApartRow : OpenClaim := { program := "ytabpbnkipdjnlaadoor", sum := "ff54e0b13aa383cdc876ea639f752bd12447b7d520b5a6c0779ef8c193544cc0", func := "tearoff/tearofflaw04.KeccakApart", spec := "keccakApart", named := ["tearoff/keccak.turns", "tearoff/keccak.rc"], apart := false, laid := [("tearoff/keccak.rc", laid_tearoff_keccak_rc), ("tearoff/keccak.turns", laid_tearoff_keccak_turns)] }
def KeccakApartSaid : Prop := keccakApartRow.holds Tryd.pinned (OpenSpec.ofChange keccakApartSpec)

/-- ITS FALSE NEIGHBOUR: 'it returns false'. Refute it at one input. -/
def keccakApartWrong : ChangeSpec := { name := "keccakApart", fn := fun _ => fun
  | [d1, d2, d3] => { results := [.lit (.bool false)], args := [d1, d2, d3] }
  | _ => none }
def KeccakApartWrongFalsely : Prop := keccakApartRow.holds Tryd.pinned (OpenSpec.ofChange keccakApartWrong)

/-- 'tearofflaw04.KeccakRounds': WHATEVER THE INPUT: true; the input reads as it did. -/
def keccakRoundsSpec : ChangeSpec := { name := "keccakRounds", fn := fun _ => fun
  | [d1, d2] => { results := [.lit (.bool true)], args := [d1, d2] }
  | _ => none }
def keccakRoundsRow : OpenClaim := { program := "ytabpbnkipdjnlaadoor", sum := "ff54e0b13aa383cdc876ea639f752bd12447b7d520b5a6c0779ef8c193544cc0", func := "tearoff/tearofflaw04.KeccakRounds", spec := "keccakRounds", named := ["tearoff/keccak.turns", "tearoff/keccak.rc"], apart := false, laid := [("tearoff/keccak.rc", laid_tearoff_keccak_rc), ("tearoff/keccak.turns", laid_tearoff_keccak_turns)] }
def KeccakRoundsSaid : Prop := keccakRoundsRow.holds Tryd.pinned (OpenSpec.ofChange keccakRoundsSpec)

/-- ITS FALSE NEIGHBOUR: 'it returns false'. Refute it at one input. -/
def keccakRoundsWrong : ChangeSpec := { name := "keccakRounds", fn := fun _ => fun
  | [d1, d2] => { results := [.lit (.bool false)], args := [d1, d2] }
  | _ => none }
def KeccakRoundsWrongFalsely : Prop := keccakRoundsRow.holds Tryd.pinned (OpenSpec.ofChange keccakRoundsWrong)

/-- 'tearofflaw04.KeccakLinear': WHATEVER THE INPUT: true; the input reads as it did. -/
def keccakLinearSpec : ChangeSpec := { name := "keccakLinear", fn := fun _ => fun
  | [d1, d2, d3] => { results := [.lit (.bool true)], args := [d1, d2, d3] }
  | _ => none }
def keccakLinearRow : OpenClaim := { program := "ytabpbnkipdjnlaadoor", sum := "ff54e0b13aa383cdc876ea639f752bd12447b7d520b5a6c0779ef8c193544cc0", func := "tearoff/tearofflaw04.KeccakLinear", spec := "keccakLinear", named := ["tearoff/keccak.turns", "tearoff/keccak.rc"], apart := false, laid := [("tearoff/keccak.rc", laid_tearoff_keccak_rc), ("tearoff/keccak.turns", laid_tearoff_keccak_turns)] }
def KeccakLinearSaid : Prop := keccakLinearRow.holds Tryd.pinned (OpenSpec.ofChange keccakLinearSpec)

/-- ITS FALSE NEIGHBOUR: 'it returns false'. Refute it at one input. -/
def keccakLinearWrong : ChangeSpec := { name := "keccakLinear", fn := fun _ => fun
  | [d1, d2, d3] => { results := [.lit (.bool false)], args := [d1, d2, d3] }
  | _ => none }
def KeccakLinearWrongFalsely : Prop := keccakLinearRow.holds Tryd.pinned (OpenSpec.ofChange keccakLinearWrong)

/-- 'tearofflaw05.ShakeSums': WHATEVER THE INPUT: true; the input reads as it did. -/
def shakeSumsSpec : ChangeSpec := { name := "shakeSums", fn := fun _ => fun
  | [d1, d2] => { results := [.lit (.bool true)], args := [d1, d2] }
  | _ => none }
def shakeSumsRow : OpenClaim := { program := "ytabpbnkipdjnlaadoor", sum := "ff54e0b13aa383cdc876ea639f752bd12447b7d520b5a6c0779ef8c193544cc0", func := "tearoff/tearofflaw05.ShakeSums", spec := "shakeSums", named := ["tearoff/keccak.turns", "tearoff/keccak.rc"], apart := false, laid := [("tearoff/keccak.rc", laid_tearoff_keccak_rc), ("tearoff/keccak.turns", laid_tearoff_keccak_turns)] }
def ShakeSumsSaid : Prop := shakeSumsRow.holds Tryd.pinned (OpenSpec.ofChange shakeSumsSpec)

/-- ITS FALSE NEIGHBOUR: 'it returns false'. Refute it at one input. -/
def shakeSumsWrong : ChangeSpec := { name := "shakeSums", fn := fun _ => fun
  | [d1, d2] => { results := [.lit (.bool false)], args := [d1, d2] }
  | _ => none }
def ShakeSumsWrongFalsely : Prop := shakeSumsRow.holds Tryd.pinned (OpenSpec.ofChange shakeSumsWrong)

/-- 'tearofflaw05.ShakeReads': WHATEVER THE INPUT: true; the input reads as it did. -/
def shakeReadsSpec : ChangeSpec := { name := "shakeReads", fn := fun _ => fun
  | [d1, d2] => { results := [.lit (.bool true)], args := [d1, d2] }
  | _ => none }
def shakeReadsRow : OpenClaim := { program := "ytabpbnkipdjnlaadoor", sum := "ff54e0b13aa383cdc876ea639f752bd12447b7d520b5a6c0779ef8c193544cc0", func := "tearoff/tearofflaw05.ShakeReads", spec := "shakeReads", named := ["tearoff/keccak.turns", "tearoff/keccak.rc"], apart := false, laid := [("tearoff/keccak.rc", laid_tearoff_keccak_rc), ("tearoff/keccak.turns", laid_tearoff_keccak_turns)] }
def ShakeReadsSaid : Prop := shakeReadsRow.holds Tryd.pinned (OpenSpec.ofChange shakeReadsSpec)

/-- ITS FALSE NEIGHBOUR: 'it returns false'. Refute it at one input. -/
def shakeReadsWrong : ChangeSpec := { name := "shakeReads", fn := fun _ => fun
  | [d1, d2] => { results := [.lit (.bool false)], args := [d1, d2] }
  | _ => none }
def ShakeReadsWrongFalsely : Prop := shakeReadsRow.holds Tryd.pinned (OpenSpec.ofChange shakeReadsWrong)

/-- 'tearofflaw05.ShakeBegins': WHATEVER THE INPUT: true; the input reads as it did. -/
def shakeBeginsSpec : ChangeSpec := { name := "shakeBegins", fn := fun _ => fun
  | [d1, d2, d3] => { results := [.lit (.bool true)], args := [d1, d2, d3] }
  | _ => none }
def shakeBeginsRow : OpenClaim := { program := "ytabpbnkipdjnlaadoor", sum := "ff54e0b13aa383cdc876ea639f752bd12447b7d520b5a6c0779ef8c193544cc0", func := "tearoff/tearofflaw05.ShakeBegins", spec := "shakeBegins", named := ["tearoff/keccak.turns", "tearoff/keccak.rc"], apart := false, laid := [("tearoff/keccak.rc", laid_tearoff_keccak_rc), ("tearoff/keccak.turns", laid_tearoff_keccak_turns)] }
def ShakeBeginsSaid : Prop := shakeBeginsRow.holds Tryd.pinned (OpenSpec.ofChange shakeBeginsSpec)

/-- ITS FALSE NEIGHBOUR: 'it returns false'. Refute it at one input. -/
def shakeBeginsWrong : ChangeSpec := { name := "shakeBegins", fn := fun _ => fun
  | [d1, d2, d3] => { results := [.lit (.bool false)], args := [d1, d2, d3] }
  | _ => none }
def ShakeBeginsWrongFalsely : Prop := shakeBeginsRow.holds Tryd.pinned (OpenSpec.ofChange shakeBeginsWrong)

/-- 'tearofflaw05.ShakeOne': WHATEVER THE INPUT: true; the input reads as it did. -/
def shakeOneSpec : ChangeSpec := { name := "shakeOne", fn := fun _ => fun
  | [d] => { results := [.lit (.bool true)], args := [d] }
  | _ => none }
def shakeOneRow : OpenClaim := { program := "ytabpbnkipdjnlaadoor", sum := "ff54e0b13aa383cdc876ea639f752bd12447b7d520b5a6c0779ef8c193544cc0", func := "tearoff/tearofflaw05.ShakeOne", spec := "shakeOne", named := ["tearoff/keccak.turns", "tearoff/keccak.rc"], apart := false, laid := [("tearoff/keccak.rc", laid_tearoff_keccak_rc), ("tearoff/keccak.turns", laid_tearoff_keccak_turns)] }
def ShakeOneSaid : Prop := shakeOneRow.holds Tryd.pinned (OpenSpec.ofChange shakeOneSpec)

/-- ITS FALSE NEIGHBOUR: 'it returns false'. Refute it at one input. -/
def shakeOneWrong : ChangeSpec := { name := "shakeOne", fn := fun _ => fun
  | [d] => { results := [.lit (.bool false)], args := [d] }
  | _ => none }
def ShakeOneWrongFalsely : Prop := shakeOneRow.holds Tryd.pinned (OpenSpec.ofChange shakeOneWrong)

/-- 'tearofflaw03.Sha5Sums': WHATEVER THE INPUT: true; the input reads as it did. -/
def sha5SumsSpec : ChangeSpec := { name := "sha5Sums", fn := fun _ => fun
  | [d1, d2] => { results := [.lit (.bool true)], args := [d1, d2] }
  | _ => none }
def sha5SumsRow : OpenClaim := { program := "ytabpbnkipdjnlaadoor", sum := "ff54e0b13aa383cdc876ea639f752bd12447b7d520b5a6c0779ef8c193544cc0", func := "tearoff/tearofflaw03.Sha5Sums", spec := "sha5Sums", inPlace := ["internal/bytealg.MakeNoZero"], named := ["tearoff/sha5.first", "tearoff/sha5.k"], apart := false, laid := [("tearoff/sha5.k", laid_tearoff_sha5_k), ("tearoff/sha5.first", laid_tearoff_sha5_first)] }
def Sha5SumsSaid : Prop := sha5SumsRow.holds Tryd.pinned (OpenSpec.ofChange sha5SumsSpec)

/-- ITS FALSE NEIGHBOUR: 'it returns false'. Refute it at one input. -/
def sha5SumsWrong : ChangeSpec := { name := "sha5Sums", fn := fun _ => fun
  | [d1, d2] => { results := [.lit (.bool false)], args := [d1, d2] }
  | _ => none }
def Sha5SumsWrongFalsely : Prop := sha5SumsRow.holds Tryd.pinned (OpenSpec.ofChange sha5SumsWrong)

/-- 'tearofflaw03.Sha5Parts': WHATEVER THE INPUT: true; the input reads as it did. -/
def sha5PartsSpec : ChangeSpec := { name := "sha5Parts", fn := fun _ => fun
  | [d] => { results := [.lit (.bool true)], args := [d] }
  | _ => none }
def sha5PartsRow : OpenClaim := { program := "ytabpbnkipdjnlaadoor", sum := "ff54e0b13aa383cdc876ea639f752bd12447b7d520b5a6c0779ef8c193544cc0", func := "tearoff/tearofflaw03.Sha5Parts", spec := "sha5Parts", inPlace := ["internal/bytealg.MakeNoZero"], named := ["tearoff/sha5.first", "tearoff/sha5.k"], apart := false, laid := [("tearoff/sha5.k", laid_tearoff_sha5_k), ("tearoff/sha5.first", laid_tearoff_sha5_first)] }
def Sha5PartsSaid : Prop := sha5PartsRow.holds Tryd.pinned (OpenSpec.ofChange sha5PartsSpec)

/-- ITS FALSE NEIGHBOUR: 'it returns false'. Refute it at one input. -/
def sha5PartsWrong : ChangeSpec := { name := "sha5Parts", fn := fun _ => fun
  | [d] => { results := [.lit (.bool false)], args := [d] }
  | _ => none }
def Sha5PartsWrongFalsely : Prop := sha5PartsRow.holds Tryd.pinned (OpenSpec.ofChange sha5PartsWrong)

/-- 'tearofflaw03.Sha5Long': WHATEVER THE INPUT: true; the input reads as it did. -/
def sha5LongSpec : ChangeSpec := { name := "sha5Long", fn := fun _ => fun
  | [d1, d2] => { results := [.lit (.bool true)], args := [d1, d2] }
  | _ => none }
def sha5LongRow : OpenClaim := { program := "ytabpbnkipdjnlaadoor", sum := "ff54e0b13aa383cdc876ea639f752bd12447b7d520b5a6c0779ef8c193544cc0", func := "tearoff/tearofflaw03.Sha5Long", spec := "sha5Long", inPlace := ["internal/bytealg.MakeNoZero"], named := ["tearoff/sha5.first", "tearoff/sha5.k"], apart := false, laid := [("tearoff/sha5.k", laid_tearoff_sha5_k), ("tearoff/sha5.first", laid_tearoff_sha5_first)] }
def Sha5LongSaid : Prop := sha5LongRow.holds Tryd.pinned (OpenSpec.ofChange sha5LongSpec)

/-- ITS FALSE NEIGHBOUR: 'it returns false'. Refute it at one input. -/
def sha5LongWrong : ChangeSpec := { name := "sha5Long", fn := fun _ => fun
  | [d1, d2] => { results := [.lit (.bool false)], args := [d1, d2] }
  | _ => none }
def Sha5LongWrongFalsely : Prop := sha5LongRow.holds Tryd.pinned (OpenSpec.ofChange sha5LongWrong)

/-- 'tearofflaw03.Sha5Again': WHATEVER THE INPUT: true; the input reads as it did. -/
def sha5AgainSpec : ChangeSpec := { name := "sha5Again", fn := fun _ => fun
  | [d1, d2, d3] => { results := [.lit (.bool true)], args := [d1, d2, d3] }
  | _ => none }
def sha5AgainRow : OpenClaim := { program := "ytabpbnkipdjnlaadoor", sum := "ff54e0b13aa383cdc876ea639f752bd12447b7d520b5a6c0779ef8c193544cc0", func := "tearoff/tearofflaw03.Sha5Again", spec := "sha5Again", inPlace := ["internal/bytealg.MakeNoZero"], named := ["tearoff/sha5.first", "tearoff/sha5.k"], apart := false, laid := [("tearoff/sha5.k", laid_tearoff_sha5_k), ("tearoff/sha5.first", laid_tearoff_sha5_first)] }
def Sha5AgainSaid : Prop := sha5AgainRow.holds Tryd.pinned (OpenSpec.ofChange sha5AgainSpec)

/-- ITS FALSE NEIGHBOUR: 'it returns false'. Refute it at one input. -/
def sha5AgainWrong : ChangeSpec := { name := "sha5Again", fn := fun _ => fun
  | [d1, d2, d3] => { results := [.lit (.bool false)], args := [d1, d2, d3] }
  | _ => none }
def Sha5AgainWrongFalsely : Prop := sha5AgainRow.holds Tryd.pinned (OpenSpec.ofChange sha5AgainWrong)

/- THE SECOND FORM. 'bulk': how many values and letters a reading holds, each counted each time it is reached (what is shared counts as often as it is met; a slice's spare places count too). A statement '..UptoSaid' is the law's where the arguments, and the package variables that the reading takes, are together of bulk at most 1048576: NARROWER than '..Said'. Prove '..Said' where nothing that the law and all that it calls make is longer than what came in: it says more and counts as full. Else prove '..UptoSaid'. A law counts once. -/
mutual
def uptoBulk {H : Type} : DataW H → Nat
  | .lit (.string bytes) => bytes.length + 1
  | .lit _ => 1
  | .nil => 1
  | .ptr d => uptoBulk d + 1
  | .slice elems spare => uptoBulkAll elems + uptoBulkAll spare + 1
  | .agg parts => uptoBulkAll parts + 1
  | .iface _ d => uptoBulk d + 1
  | .map entries => uptoBulkEntries entries + 1
  | .held _ => 1
def uptoBulkAll {H : Type} : List (DataW H) → Nat
  | [] => 0
  | d :: r => uptoBulk d + uptoBulkAll r
def uptoBulkEntries {H : Type} : List (Lit × DataW H) → Nat
  | [] => 0
  | x :: r => uptoBulkEntry x + uptoBulkEntries r
def uptoBulkEntry {H : Type} : Lit × DataW H → Nat
  | (.string bytes, d) => bytes.length + uptoBulk d + 1
  | (_, d) => uptoBulk d + 1
 end
def uptoSmall : (H : Type) → List (DataW H) → Bool := fun _ ds => decide (uptoBulkAll ds ≤ 1048576)
def OpenSpec.upto (s : _root_.Go.ChangeSpec) : _root_.Go.OpenSpec := { _root_.Go.OpenSpec.ofChange s with cond := some uptoSmall }

/-- 'tearofflaw04.KeccakTurns', WHERE WHAT IT READS IS OF BULK AT MOST 1048576: true; the input reads as it did. -/
def keccakTurnsUptoRow : OpenClaim := { program := "ytabpbnkipdjnlaadoor", sum := "ff54e0b13aa383cdc876ea639f752bd12447b7d520b5a6c0779ef8c193544cc0", func := "tearoff/tearofflaw04.KeccakTurns", spec := "keccakTurns", named := ["tearoff/keccak.turns", "tearoff/keccak.rc"], apart := false, laid := [("tearoff/keccak.rc", laid_tearoff_keccak_rc), ("tearoff/keccak.turns", laid_tearoff_keccak_turns)], narrowed := true }
def KeccakTurnsUptoSaid : Prop := keccakTurnsUptoRow.holds Tryd.pinned (OpenSpec.upto keccakTurnsSpec)

/-- 'tearofflaw04.KeccakApart', WHERE WHAT IT READS IS OF BULK AT MOST 1048576: true; the input reads as it did. -/
def keccakApartUptoRow : OpenClaim := { program := "ytabpbnkipdjnlaadoor", sum := "ff54e0b13aa383cdc876ea639f752bd12447b7d520b5a6c0779ef8c193544cc0", func := "tearoff/tearofflaw04.KeccakApart", spec := "keccakApart", named := ["tearoff/keccak.turns", "tearoff/keccak.rc"], apart := false, laid := [("tearoff/keccak.rc", laid_tearoff_keccak_rc), ("tearoff/keccak.turns", laid_tearoff_keccak_turns)], narrowed := true }
def KeccakApartUptoSaid : Prop := keccakApartUptoRow.holds Tryd.pinned (OpenSpec.upto keccakApartSpec)

/-- 'tearofflaw04.KeccakRounds', WHERE WHAT IT READS IS OF BULK AT MOST 1048576: true; the input reads as it did. -/
def keccakRoundsUptoRow : OpenClaim := { program := "ytabpbnkipdjnlaadoor", sum := "ff54e0b13aa383cdc876ea639f752bd12447b7d520b5a6c0779ef8c193544cc0", func := "tearoff/tearofflaw04.KeccakRounds", spec := "keccakRounds", named := ["tearoff/keccak.turns", "tearoff/keccak.rc"], apart := false, laid := [("tearoff/keccak.rc", laid_tearoff_keccak_rc), ("tearoff/keccak.turns", laid_tearoff_keccak_turns)], narrowed := true }
def KeccakRoundsUptoSaid : Prop := keccakRoundsUptoRow.holds Tryd.pinned (OpenSpec.upto keccakRoundsSpec)

/-- 'tearofflaw04.KeccakLinear', WHERE WHAT IT READS IS OF BULK AT MOST 1048576: true; the input reads as it did. -/
def keccakLinearUptoRow : OpenClaim := { program := "ytabpbnkipdjnlaadoor", sum := "ff54e0b13aa383cdc876ea639f752bd12447b7d520b5a6c0779ef8c193544cc0", func := "tearoff/tearofflaw04.KeccakLinear", spec := "keccakLinear", named := ["tearoff/keccak.turns", "tearoff/keccak.rc"], apart := false, laid := [("tearoff/keccak.rc", laid_tearoff_keccak_rc), ("tearoff/keccak.turns", laid_tearoff_keccak_turns)], narrowed := true }
def KeccakLinearUptoSaid : Prop := keccakLinearUptoRow.holds Tryd.pinned (OpenSpec.upto keccakLinearSpec)

/-- 'tearofflaw05.ShakeSums', WHERE WHAT IT READS IS OF BULK AT MOST 1048576: true; the input reads as it did. -/
def shakeSumsUptoRow : OpenClaim := { program := "ytabpbnkipdjnlaadoor", sum := "ff54e0b13aa383cdc876ea639f752bd12447b7d520b5a6c0779ef8c193544cc0", func := "tearoff/tearofflaw05.ShakeSums", spec := "shakeSums", named := ["tearoff/keccak.turns", "tearoff/keccak.rc"], apart := false, laid := [("tearoff/keccak.rc", laid_tearoff_keccak_rc), ("tearoff/keccak.turns", laid_tearoff_keccak_turns)], narrowed := true }
def ShakeSumsUptoSaid : Prop := shakeSumsUptoRow.holds Tryd.pinned (OpenSpec.upto shakeSumsSpec)

/-- 'tearofflaw05.ShakeReads', WHERE WHAT IT READS IS OF BULK AT MOST 1048576: true; the input reads as it did. -/
def shakeReadsUptoRow : OpenClaim := { program := "ytabpbnkipdjnlaadoor", sum := "ff54e0b13aa383cdc876ea639f752bd12447b7d520b5a6c0779ef8c193544cc0", func := "tearoff/tearofflaw05.ShakeReads", spec := "shakeReads", named := ["tearoff/keccak.turns", "tearoff/keccak.rc"], apart := false, laid := [("tearoff/keccak.rc", laid_tearoff_keccak_rc), ("tearoff/keccak.turns", laid_tearoff_keccak_turns)], narrowed := true }
def ShakeReadsUptoSaid : Prop := shakeReadsUptoRow.holds Tryd.pinned (OpenSpec.upto shakeReadsSpec)

/-- 'tearofflaw05.ShakeBegins', WHERE WHAT IT READS IS OF BULK AT MOST 1048576: true; the input reads as it did. -/
def shakeBeginsUptoRow : OpenClaim := { program := "ytabpbnkipdjnlaadoor", sum := "ff54e0b13aa383cdc876ea639f752bd12447b7d520b5a6c0779ef8c193544cc0", func := "tearoff/tearofflaw05.ShakeBegins", spec := "shakeBegins", named := ["tearoff/keccak.turns", "tearoff/keccak.rc"], apart := false, laid := [("tearoff/keccak.rc", laid_tearoff_keccak_rc), ("tearoff/keccak.turns", laid_tearoff_keccak_turns)], narrowed := true }
def ShakeBeginsUptoSaid : Prop := shakeBeginsUptoRow.holds Tryd.pinned (OpenSpec.upto shakeBeginsSpec)

/-- 'tearofflaw05.ShakeOne', WHERE WHAT IT READS IS OF BULK AT MOST 1048576: true; the input reads as it did. -/
def shakeOneUptoRow : OpenClaim := { program := "ytabpbnkipdjnlaadoor", sum := "ff54e0b13aa383cdc876ea639f752bd12447b7d520b5a6c0779ef8c193544cc0", func := "tearoff/tearofflaw05.ShakeOne", spec := "shakeOne", named := ["tearoff/keccak.turns", "tearoff/keccak.rc"], apart := false, laid := [("tearoff/keccak.rc", laid_tearoff_keccak_rc), ("tearoff/keccak.turns", laid_tearoff_keccak_turns)], narrowed := true }
def ShakeOneUptoSaid : Prop := shakeOneUptoRow.holds Tryd.pinned (OpenSpec.upto shakeOneSpec)

/-- 'tearofflaw03.Sha5Sums', WHERE WHAT IT READS IS OF BULK AT MOST 1048576: true; the input reads as it did. -/
def sha5SumsUptoRow : OpenClaim := { program := "ytabpbnkipdjnlaadoor", sum := "ff54e0b13aa383cdc876ea639f752bd12447b7d520b5a6c0779ef8c193544cc0", func := "tearoff/tearofflaw03.Sha5Sums", spec := "sha5Sums", inPlace := ["internal/bytealg.MakeNoZero"], named := ["tearoff/sha5.first", "tearoff/sha5.k"], apart := false, laid := [("tearoff/sha5.k", laid_tearoff_sha5_k), ("tearoff/sha5.first", laid_tearoff_sha5_first)], narrowed := true }
def Sha5SumsUptoSaid : Prop := sha5SumsUptoRow.holds Tryd.pinned (OpenSpec.upto sha5SumsSpec)

/-- 'tearofflaw03.Sha5Parts', WHERE WHAT IT READS IS OF BULK AT MOST 1048576: true; the input reads as it did. -/
def sha5PartsUptoRow : OpenClaim := { program := "ytabpbnkipdjnlaadoor", sum := "ff54e0b13aa383cdc876ea639f752bd12447b7d520b5a6c0779ef8c193544cc0", func := "tearoff/tearofflaw03.Sha5Parts", spec := "sha5Parts", inPlace := ["internal/bytealg.MakeNoZero"], named := ["tearoff/sha5.first", "tearoff/sha5.k"], apart := false, laid := [("tearoff/sha5.k", laid_tearoff_sha5_k), ("tearoff/sha5.first", laid_tearoff_sha5_first)], narrowed := true }
def Sha5PartsUptoSaid : Prop := sha5PartsUptoRow.holds Tryd.pinned (OpenSpec.upto sha5PartsSpec)

/-- 'tearofflaw03.Sha5Long', WHERE WHAT IT READS IS OF BULK AT MOST 1048576: true; the input reads as it did. -/
def sha5LongUptoRow : OpenClaim := { program := "ytabpbnkipdjnlaadoor", sum := "ff54e0b13aa383cdc876ea639f752bd12447b7d520b5a6c0779ef8c193544cc0", func := "tearoff/tearofflaw03.Sha5Long", spec := "sha5Long", inPlace := ["internal/bytealg.MakeNoZero"], named := ["tearoff/sha5.first", "tearoff/sha5.k"], apart := false, laid := [("tearoff/sha5.k", laid_tearoff_sha5_k), ("tearoff/sha5.first", laid_tearoff_sha5_first)], narrowed := true }
def Sha5LongUptoSaid : Prop := sha5LongUptoRow.holds Tryd.pinned (OpenSpec.upto sha5LongSpec)

/-- 'tearofflaw03.Sha5Again', WHERE WHAT IT READS IS OF BULK AT MOST 1048576: true; the input reads as it did. -/
def sha5AgainUptoRow : OpenClaim := { program := "ytabpbnkipdjnlaadoor", sum := "ff54e0b13aa383cdc876ea639f752bd12447b7d520b5a6c0779ef8c193544cc0", func := "tearoff/tearofflaw03.Sha5Again", spec := "sha5Again", inPlace := ["internal/bytealg.MakeNoZero"], named := ["tearoff/sha5.first", "tearoff/sha5.k"], apart := false, laid := [("tearoff/sha5.k", laid_tearoff_sha5_k), ("tearoff/sha5.first", laid_tearoff_sha5_first)], narrowed := true }
def Sha5AgainUptoSaid : Prop := sha5AgainUptoRow.holds Tryd.pinned (OpenSpec.upto sha5AgainSpec)

end Rows
end Go.Proofs.YtabpbnkipdjnlaaDoor
