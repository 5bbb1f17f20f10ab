/-
  NARROWER THAN 'FOR EVERY INPUT', by the rows' own cells (each row's printed sentence says how): ControllerNew: laid · ControllerRun: laid · ControllerSafe: laid · ControllerFinish: laid · ControllerToken: laid · ControllerStep: laid · ControllerExpected: laid.
  DERIVED. THE GIVEN ROWS OF THIS SEAT. 7 by the template 'for every input the law returns true; each argument reads behind the call as it read before'; 0 by the template 'total and deterministic' (their statements: YtdpeoolildjohaaGreatDoorTotals.lean).
  GIVEN WITH THE SEED: the statements are not yours to turn. If you find one false, say at which input.
  Laid BY PROGRAM, IN A SANDBOX (cutbox-rows.mjs): the forced cells as the released guide's own fill.sh prints them over the translation 4fa48c96eba481ba… (all of the seat's roots in one cut). By AI agents, Wed Nov 11 2026. No macro, syntax, notation, axiom, sorry.
-/
import Derived.Test.YtdpeoolildjohaaGreatDoorChecked
import GoSem.Claim
import GoSem.ClaimJoined
import GoSem.ClaimMapViews
import Derived.JoinedTies
import Derived.KernelRfl
namespace Go.Proofs.YtdpeoolildjohaaGreatDoor
/- THE CELL 'sum', in the pinned program and in every row, IS THE sha256 OF THE DUMP (.gsa) THAT YtdpeoolildjohaaGreatDoorProg.lean LOADS. Nothing in Lean hashes anything: it is a label: what it is worth is what the hold of that sum in a sandbox is worth. -/
noncomputable def Tryz.pinned : Pinned := { name := "ytdpeoolildjohaagreatdoor", sum := "4fa48c96eba481ba09aa7fe6b1712ea6c4cc3b68a6a32ad7eb30377fde954c1d", checked := Tryz.checked }
namespace Rows
def none {H : Type} : Left H := { results := [], args := [] }

/- WHAT THE LISTED PACKAGE-LEVEL VARIABLES READ AS WHEN THE CALL BEGINS. Each datum BY PROGRAM (the guide's laid-datum.mjs) off the statement by which the dump's own 'gosem.cut.vars' lays the variable. In a bare row this is a premise. The card (YtdpeoolildjohaaGreatDoorCards.lean) ties it to the program's text. -/
def laid_math_bits_deBruijn32tab {H : Type} : DataW H := .agg [.lit (.int .u8 0), .lit (.int .u8 1), .lit (.int .u8 28), .lit (.int .u8 2), .lit (.int .u8 29), .lit (.int .u8 14), .lit (.int .u8 24), .lit (.int .u8 3), .lit (.int .u8 30), .lit (.int .u8 22), .lit (.int .u8 20), .lit (.int .u8 15), .lit (.int .u8 25), .lit (.int .u8 17), .lit (.int .u8 4), .lit (.int .u8 8), .lit (.int .u8 31), .lit (.int .u8 27), .lit (.int .u8 13), .lit (.int .u8 23), .lit (.int .u8 21), .lit (.int .u8 19), .lit (.int .u8 16), .lit (.int .u8 7), .lit (.int .u8 26), .lit (.int .u8 12), .lit (.int .u8 18), .lit (.int .u8 6), .lit (.int .u8 11), .lit (.int .u8 5), .lit (.int .u8 10), .lit (.int .u8 9)]
def laid_math_bits_deBruijn64tab {H : Type} : DataW H := .agg [.lit (.int .u8 0), .lit (.int .u8 1), .lit (.int .u8 56), .lit (.int .u8 2), .lit (.int .u8 57), .lit (.int .u8 49), .lit (.int .u8 28), .lit (.int .u8 3), .lit (.int .u8 61), .lit (.int .u8 58), .lit (.int .u8 42), .lit (.int .u8 50), .lit (.int .u8 38), .lit (.int .u8 29), .lit (.int .u8 17), .lit (.int .u8 4), .lit (.int .u8 62), .lit (.int .u8 47), .lit (.int .u8 59), .lit (.int .u8 36), .lit (.int .u8 45), .lit (.int .u8 43), .lit (.int .u8 51), .lit (.int .u8 22), .lit (.int .u8 53), .lit (.int .u8 39), .lit (.int .u8 33), .lit (.int .u8 30), .lit (.int .u8 24), .lit (.int .u8 18), .lit (.int .u8 12), .lit (.int .u8 5), .lit (.int .u8 63), .lit (.int .u8 55), .lit (.int .u8 48), .lit (.int .u8 27), .lit (.int .u8 60), .lit (.int .u8 41), .lit (.int .u8 37), .lit (.int .u8 16), .lit (.int .u8 46), .lit (.int .u8 35), .lit (.int .u8 44), .lit (.int .u8 21), .lit (.int .u8 52), .lit (.int .u8 32), .lit (.int .u8 23), .lit (.int .u8 11), .lit (.int .u8 54), .lit (.int .u8 26), .lit (.int .u8 40), .lit (.int .u8 15), .lit (.int .u8 34), .lit (.int .u8 20), .lit (.int .u8 31), .lit (.int .u8 10), .lit (.int .u8 25), .lit (.int .u8 14), .lit (.int .u8 19), .lit (.int .u8 9), .lit (.int .u8 13), .lit (.int .u8 8), .lit (.int .u8 7), .lit (.int .u8 6)]
def laid_internal_strconv_uint64pow10 {H : Type} : DataW H := .agg [.lit (.int .u64 1), .lit (.int .u64 10), .lit (.int .u64 100), .lit (.int .u64 1000), .lit (.int .u64 10000), .lit (.int .u64 100000), .lit (.int .u64 1000000), .lit (.int .u64 10000000), .lit (.int .u64 100000000), .lit (.int .u64 1000000000), .lit (.int .u64 10000000000), .lit (.int .u64 100000000000), .lit (.int .u64 1000000000000), .lit (.int .u64 10000000000000), .lit (.int .u64 100000000000000), .lit (.int .u64 1000000000000000), .lit (.int .u64 10000000000000000), .lit (.int .u64 100000000000000000), .lit (.int .u64 1000000000000000000), .lit (.int .u64 10000000000000000000)]

/-- 'sheavelaw53.ControllerNew': WHATEVER THE INPUT: true; the input reads as it did. -/
def controllerNewSpec : ChangeSpec := { name := "controllerNew", fn := fun _ => fun
  | [d1, d2, d3] => { results := [.lit (.bool true)], args := [d1, d2, d3] }
  | _ => none }
def controllerNewRow : OpenClaim := { program := "ytdpeoolildjohaagreatdoor", sum := "4fa48c96eba481ba09aa7fe6b1712ea6c4cc3b68a6a32ad7eb30377fde954c1d", func := "sheave/sheavelaw53.ControllerNew", spec := "controllerNew", unfollowed := true, recurses := true, named := ["internal/strconv.uint64pow10", "math/bits.deBruijn32tab", "math/bits.deBruijn64tab"], apart := false, laid := [("math/bits.deBruijn32tab", laid_math_bits_deBruijn32tab), ("math/bits.deBruijn64tab", laid_math_bits_deBruijn64tab), ("internal/strconv.uint64pow10", laid_internal_strconv_uint64pow10)] }
def ControllerNewSaid : Prop := controllerNewRow.holds Tryz.pinned (OpenSpec.ofChange controllerNewSpec)

/-- ITS FALSE NEIGHBOUR: 'it returns false'. Refute it at one input. -/
def controllerNewWrong : ChangeSpec := { name := "controllerNew", fn := fun _ => fun
  | [d1, d2, d3] => { results := [.lit (.bool false)], args := [d1, d2, d3] }
  | _ => none }
def ControllerNewWrongFalsely : Prop := controllerNewRow.holds Tryz.pinned (OpenSpec.ofChange controllerNewWrong)

/-- 'sheavelaw53.ControllerRun': WHATEVER THE INPUT: true; the input reads as it did. -/
def controllerRunSpec : ChangeSpec := { name := "controllerRun", fn := fun _ => fun
  | [d1, d2] => { results := [.lit (.bool true)], args := [d1, d2] }
  | _ => none }
def controllerRunRow : OpenClaim := { program := "ytdpeoolildjohaagreatdoor", sum := "4fa48c96eba481ba09aa7fe6b1712ea6c4cc3b68a6a32ad7eb30377fde954c1d", func := "sheave/sheavelaw53.ControllerRun", spec := "controllerRun", unfollowed := true, recurses := true, named := ["internal/strconv.uint64pow10", "math/bits.deBruijn32tab", "math/bits.deBruijn64tab"], apart := false, laid := [("math/bits.deBruijn32tab", laid_math_bits_deBruijn32tab), ("math/bits.deBruijn64tab", laid_math_bits_deBruijn64tab), ("internal/strconv.uint64pow10", laid_internal_strconv_uint64pow10)] }
def ControllerRunSaid : Prop := controllerRunRow.holds Tryz.pinned (OpenSpec.ofChange controllerRunSpec)

/-- ITS FALSE NEIGHBOUR: 'it returns false'. Refute it at one input. -/
def controllerRunWrong : ChangeSpec := { name := "controllerRun", fn := fun _ => fun
  | [d1, d2] => { results := [.lit (.bool false)], args := [d1, d2] }
  | _ => none }
def ControllerRunWrongFalsely : Prop := controllerRunRow.holds Tryz.pinned (OpenSpec.ofChange controllerRunWrong)

/-- 'sheavelaw53.ControllerSafe': WHATEVER THE INPUT: true; the input reads as it did. -/
def controllerSafeSpec : ChangeSpec := { name := "controllerSafe", fn := fun _ => fun
  | [d1, d2] => { results := [.lit (.bool true)], args := [d1, d2] }
  | _ => none }
def controllerSafeRow : OpenClaim := { program := "ytdpeoolildjohaagreatdoor", sum := "4fa48c96eba481ba09aa7fe6b1712ea6c4cc3b68a6a32ad7eb30377fde954c1d", func := "sheave/sheavelaw53.ControllerSafe", spec := "controllerSafe", unfollowed := true, recurses := true, named := ["internal/strconv.uint64pow10", "math/bits.deBruijn32tab", "math/bits.deBruijn64tab"], apart := false, laid := [("math/bits.deBruijn32tab", laid_math_bits_deBruijn32tab), ("math/bits.deBruijn64tab", laid_math_bits_deBruijn64tab), ("internal/strconv.uint64pow10", laid_internal_strconv_uint64pow10)] }
def ControllerSafeSaid : Prop := controllerSafeRow.holds Tryz.pinned (OpenSpec.ofChange controllerSafeSpec)

/-- ITS FALSE NEIGHBOUR: 'it returns false'. Refute it at one input. -/
def controllerSafeWrong : ChangeSpec := { name := "controllerSafe", fn := fun _ => fun
  | [d1, d2] => { results := [.lit (.bool false)], args := [d1, d2] }
  | _ => none }
def ControllerSafeWrongFalsely : Prop := controllerSafeRow.holds Tryz.pinned (OpenSpec.ofChange controllerSafeWrong)

/-- 'sheavelaw53.ControllerFinish': WHATEVER THE INPUT: true; the input reads as it did. -/
def controllerFinishSpec : ChangeSpec := { name := "controllerFinish", fn := fun _ => fun
  | [d] => { results := [.lit (.bool true)], args := [d] }
  | _ => none }
def controllerFinishRow : OpenClaim := { program := "ytdpeoolildjohaagreatdoor", sum := "4fa48c96eba481ba09aa7fe6b1712ea6c4cc3b68a6a32ad7eb30377fde954c1d", func := "sheave/sheavelaw53.ControllerFinish", spec := "controllerFinish", unfollowed := true, recurses := true, named := ["internal/strconv.uint64pow10", "math/bits.deBruijn32tab", "math/bits.deBruijn64tab"], apart := false, laid := [("math/bits.deBruijn32tab", laid_math_bits_deBruijn32tab), ("math/bits.deBruijn64tab", laid_math_bits_deBruijn64tab), ("internal/strconv.uint64pow10", laid_internal_strconv_uint64pow10)] }
def ControllerFinishSaid : Prop := controllerFinishRow.holds Tryz.pinned (OpenSpec.ofChange controllerFinishSpec)

/-- ITS FALSE NEIGHBOUR: 'it returns false'. Refute it at one input. -/
def controllerFinishWrong : ChangeSpec := { name := "controllerFinish", fn := fun _ => fun
  | [d] => { results := [.lit (.bool false)], args := [d] }
  | _ => none }
def ControllerFinishWrongFalsely : Prop := controllerFinishRow.holds Tryz.pinned (OpenSpec.ofChange controllerFinishWrong)

/-- 'sheavelaw53.ControllerToken': WHATEVER THE INPUT: true; the input reads as it did. -/
def controllerTokenSpec : ChangeSpec := { name := "controllerToken", fn := fun _ => fun
  | [d1, d2] => { results := [.lit (.bool true)], args := [d1, d2] }
  | _ => none }
def controllerTokenRow : OpenClaim := { program := "ytdpeoolildjohaagreatdoor", sum := "4fa48c96eba481ba09aa7fe6b1712ea6c4cc3b68a6a32ad7eb30377fde954c1d", func := "sheave/sheavelaw53.ControllerToken", spec := "controllerToken", unfollowed := true, recurses := true, named := ["internal/strconv.uint64pow10", "math/bits.deBruijn32tab", "math/bits.deBruijn64tab"], apart := false, laid := [("math/bits.deBruijn32tab", laid_math_bits_deBruijn32tab), ("math/bits.deBruijn64tab", laid_math_bits_deBruijn64tab), ("internal/strconv.uint64pow10", laid_internal_strconv_uint64pow10)] }
def ControllerTokenSaid : Prop := controllerTokenRow.holds Tryz.pinned (OpenSpec.ofChange controllerTokenSpec)

/-- ITS FALSE NEIGHBOUR: 'it returns false'. Refute it at one input. -/
def controllerTokenWrong : ChangeSpec := { name := "controllerToken", fn := fun _ => fun
  | [d1, d2] => { results := [.lit (.bool false)], args := [d1, d2] }
  | _ => none }
def ControllerTokenWrongFalsely : Prop := controllerTokenRow.holds Tryz.pinned (OpenSpec.ofChange controllerTokenWrong)

/-- 'sheavelaw53.ControllerStep': WHATEVER THE INPUT: true; the input reads as it did. -/
def controllerStepSpec : ChangeSpec := { name := "controllerStep", fn := fun _ => fun
  | [d1, d2] => { results := [.lit (.bool true)], args := [d1, d2] }
  | _ => none }
def controllerStepRow : OpenClaim := { program := "ytdpeoolildjohaagreatdoor", sum := "4fa48c96eba481ba09aa7fe6b1712ea6c4cc3b68a6a32ad7eb30377fde954c1d", func := "sheave/sheavelaw53.ControllerStep", spec := "controllerStep", unfollowed := true, recurses := true, named := ["internal/strconv.uint64pow10", "math/bits.deBruijn32tab", "math/bits.deBruijn64tab"], apart := false, laid := [("math/bits.deBruijn32tab", laid_math_bits_deBruijn32tab), ("math/bits.deBruijn64tab", laid_math_bits_deBruijn64tab), ("internal/strconv.uint64pow10", laid_internal_strconv_uint64pow10)] }
def ControllerStepSaid : Prop := controllerStepRow.holds Tryz.pinned (OpenSpec.ofChange controllerStepSpec)

/-- ITS FALSE NEIGHBOUR: 'it returns false'. Refute it at one input. -/
def controllerStepWrong : ChangeSpec := { name := "controllerStep", fn := fun _ => fun
  | [d1, d2] => { results := [.lit (.bool false)], args := [d1, d2] }
  | _ => none }
def ControllerStepWrongFalsely : Prop := controllerStepRow.holds Tryz.pinned (OpenSpec.ofChange controllerStepWrong)

/-- 'sheavelaw53.ControllerExpected': WHATEVER THE INPUT: true; the input reads as it did. -/
def controllerExpectedSpec : ChangeSpec := { name := "controllerExpected", fn := fun _ => fun
  | [d1, d2, d3] => { results := [.lit (.bool true)], args := [d1, d2, d3] }
  | _ => none }
def controllerExpectedRow : OpenClaim := { program := "ytdpeoolildjohaagreatdoor", sum := "4fa48c96eba481ba09aa7fe6b1712ea6c4cc3b68a6a32ad7eb30377fde954c1d", func := "sheave/sheavelaw53.ControllerExpected", spec := "controllerExpected", unfollowed := true, recurses := true, named := ["internal/strconv.uint64pow10", "math/bits.deBruijn32tab", "math/bits.deBruijn64tab"], apart := false, laid := [("math/bits.deBruijn32tab", laid_math_bits_deBruijn32tab), ("math/bits.deBruijn64tab", laid_math_bits_deBruijn64tab), ("internal/strconv.uint64pow10", laid_internal_strconv_uint64pow10)] }
def ControllerExpectedSaid : Prop := controllerExpectedRow.holds Tryz.pinned (OpenSpec.ofChange controllerExpectedSpec)

/-- ITS FALSE NEIGHBOUR: 'it returns false'. Refute it at one input. -/
def controllerExpectedWrong : ChangeSpec := { name := "controllerExpected", fn := fun _ => fun
  | [d1, d2, d3] => { results := [.lit (.bool false)], args := [d1, d2, d3] }
  | _ => none }
def ControllerExpectedWrongFalsely : Prop := controllerExpectedRow.holds Tryz.pinned (OpenSpec.ofChange controllerExpectedWrong)

/- THE SECOND FORM. 'bulk': how many values and letters a reading holds, each counted each time it is reached (what is shared counts as often as it is met; a slice's spare places count too). A statement '..UptoSaid' is the law's where the arguments, and the package variables that the reading takes, are together of bulk at most 1048576: NARROWER than '..Said'. Prove '..Said' where nothing that the law and all that it calls make is longer than what came in: it says more and counts as full. Else prove '..UptoSaid'. A law counts once. -/
mutual
def uptoBulk {H : Type} : DataW H → Nat
  | .lit (.string bytes) => bytes.length + 1
  | .lit _ => 1
  | .nil => 1
  | .ptr d => uptoBulk d + 1
  | .slice elems spare => uptoBulkAll elems + uptoBulkAll spare + 1
  | .agg parts => uptoBulkAll parts + 1
  | .iface _ d => uptoBulk d + 1
  | .map entries => uptoBulkEntries entries + 1
  | .held _ => 1
def uptoBulkAll {H : Type} : List (DataW H) → Nat
  | [] => 0
  | d :: r => uptoBulk d + uptoBulkAll r
def uptoBulkEntries {H : Type} : List (Lit × DataW H) → Nat
  | [] => 0
  | x :: r => uptoBulkEntry x + uptoBulkEntries r
def uptoBulkEntry {H : Type} : Lit × DataW H → Nat
  | (.string bytes, d) => bytes.length + uptoBulk d + 1
  | (_, d) => uptoBulk d + 1
 end
def uptoSmall : (H : Type) → List (DataW H) → Bool := fun _ ds => decide (uptoBulkAll ds ≤ 1048576)
def OpenSpec.upto (s : _root_.Go.ChangeSpec) : _root_.Go.OpenSpec := { _root_.Go.OpenSpec.ofChange s with cond := some uptoSmall }

/-- 'sheavelaw53.ControllerNew', WHERE WHAT IT READS IS OF BULK AT MOST 1048576: true; the input reads as it did. -/
def controllerNewUptoRow : OpenClaim := { program := "ytdpeoolildjohaagreatdoor", sum := "4fa48c96eba481ba09aa7fe6b1712ea6c4cc3b68a6a32ad7eb30377fde954c1d", func := "sheave/sheavelaw53.ControllerNew", spec := "controllerNew", unfollowed := true, recurses := true, named := ["internal/strconv.uint64pow10", "math/bits.deBruijn32tab", "math/bits.deBruijn64tab"], apart := false, laid := [("math/bits.deBruijn32tab", laid_math_bits_deBruijn32tab), ("math/bits.deBruijn64tab", laid_math_bits_deBruijn64tab), ("internal/strconv.uint64pow10", laid_internal_strconv_uint64pow10)], narrowed := true }
def ControllerNewUptoSaid : Prop := controllerNewUptoRow.holds Tryz.pinned (OpenSpec.upto controllerNewSpec)

/-- 'sheavelaw53.ControllerRun', WHERE WHAT IT READS IS OF BULK AT MOST 1048576: true; the input reads as it did. -/
def controllerRunUptoRow : OpenClaim := { program := "ytdpeoolildjohaagreatdoor", sum := "4fa48c96eba481ba09aa7fe6b1712ea6c4cc3b68a6a32ad7eb30377fde954c1d", func := "sheave/sheavelaw53.ControllerRun", spec := "controllerRun", unfollowed := true, recurses := true, named := ["internal/strconv.uint64pow10", "math/bits.deBruijn32tab", "math/bits.deBruijn64tab"], apart := false, laid := [("math/bits.deBruijn32tab", laid_math_bits_deBruijn32tab), ("math/bits.deBruijn64tab", laid_math_bits_deBruijn64tab), ("internal/strconv.uint64pow10", laid_internal_strconv_uint64pow10)], narrowed := true }
def ControllerRunUptoSaid : Prop := controllerRunUptoRow.holds Tryz.pinned (OpenSpec.upto controllerRunSpec)

/-- 'sheavelaw53.ControllerSafe', WHERE WHAT IT READS IS OF BULK AT MOST 1048576: true; the input reads as it did. -/
def controllerSafeUptoRow : OpenClaim := { program := "ytdpeoolildjohaagreatdoor", sum := "4fa48c96eba481ba09aa7fe6b1712ea6c4cc3b68a6a32ad7eb30377fde954c1d", func := "sheave/sheavelaw53.ControllerSafe", spec := "controllerSafe", unfollowed := true, recurses := true, named := ["internal/strconv.uint64pow10", "math/bits.deBruijn32tab", "math/bits.deBruijn64tab"], apart := false, laid := [("math/bits.deBruijn32tab", laid_math_bits_deBruijn32tab), ("math/bits.deBruijn64tab", laid_math_bits_deBruijn64tab), ("internal/strconv.uint64pow10", laid_internal_strconv_uint64pow10)], narrowed := true }
def ControllerSafeUptoSaid : Prop := controllerSafeUptoRow.holds Tryz.pinned (OpenSpec.upto controllerSafeSpec)

/-- 'sheavelaw53.ControllerFinish', WHERE WHAT IT READS IS OF BULK AT MOST 1048576: true; the input reads as it did. -/
def controllerFinishUptoRow : OpenClaim := { program := "ytdpeoolildjohaagreatdoor", sum := "4fa48c96eba481ba09aa7fe6b1712ea6c4cc3b68a6a32ad7eb30377fde954c1d", func := "sheave/sheavelaw53.ControllerFinish", spec := "controllerFinish", unfollowed := true, recurses := true, named := ["internal/strconv.uint64pow10", "math/bits.deBruijn32tab", "math/bits.deBruijn64tab"], apart := false, laid := [("math/bits.deBruijn32tab", laid_math_bits_deBruijn32tab), ("math/bits.deBruijn64tab", laid_math_bits_deBruijn64tab), ("internal/strconv.uint64pow10", laid_internal_strconv_uint64pow10)], narrowed := true }
def ControllerFinishUptoSaid : Prop := controllerFinishUptoRow.holds Tryz.pinned (OpenSpec.upto controllerFinishSpec)

/-- 'sheavelaw53.ControllerToken', WHERE WHAT IT READS IS OF BULK AT MOST 1048576: true; the input reads as it did. -/
def controllerTokenUptoRow : OpenClaim := { program := "ytdpeoolildjohaagreatdoor", sum := "4fa48c96eba481ba09aa7fe6b1712ea6c4cc3b68a6a32ad7eb30377fde954c1d", func := "sheave/sheavelaw53.ControllerToken", spec := "controllerToken", unfollowed := true, recurses := true, named := ["internal/strconv.uint64pow10", "math/bits.deBruijn32tab", "math/bits.deBruijn64tab"], apart := false, laid := [("math/bits.deBruijn32tab", laid_math_bits_deBruijn32tab), ("math/bits.deBruijn64tab", laid_math_bits_deBruijn64tab), ("internal/strconv.uint64pow10", laid_internal_strconv_uint64pow10)], narrowed := true }
def ControllerTokenUptoSaid : Prop := controllerTokenUptoRow.holds Tryz.pinned (OpenSpec.upto controllerTokenSpec)

/-- 'sheavelaw53.ControllerStep', WHERE WHAT IT READS IS OF BULK AT MOST 1048576: true; the input reads as it did. -/
def controllerStepUptoRow : OpenClaim := { program := "ytdpeoolildjohaagreatdoor", sum := "4fa48c96eba481ba09aa7fe6b1712ea6c4cc3b68a6a32ad7eb30377fde954c1d", func := "sheave/sheavelaw53.ControllerStep", spec := "controllerStep", unfollowed := true, recurses := true, named := ["internal/strconv.uint64pow10", "math/bits.deBruijn32tab", "math/bits.deBruijn64tab"], apart := false, laid := [("math/bits.deBruijn32tab", laid_math_bits_deBruijn32tab), ("math/bits.deBruijn64tab", laid_math_bits_deBruijn64tab), ("internal/strconv.uint64pow10", laid_internal_strconv_uint64pow10)], narrowed := true }
def ControllerStepUptoSaid : Prop := controllerStepUptoRow.holds Tryz.pinned (OpenSpec.upto controllerStepSpec)

/-- 'sheavelaw53.ControllerExpected', WHERE WHAT IT READS IS OF BULK AT MOST 1048576: true; the input reads as it did. -/
def controllerExpectedUptoRow : OpenClaim := { program := "ytdpeoolildjohaagreatdoor", sum := "4fa48c96eba481ba09aa7fe6b1712ea6c4cc3b68a6a32ad7eb30377fde954c1d", func := "sheave/sheavelaw53.ControllerExpected", spec := "controllerExpected", unfollowed := true, recurses := true, named := ["internal/strconv.uint64pow10", "math/bits.deBruijn32tab", "math/bits.deBruijn64tab"], apart := false, laid := [("math/bits.deBruijn32tab", laid_math_bits_deBruijn32tab), ("math/bits.deBruijn64tab", laid_math_bits_deBruijn64tab), ("internal/strconv.uint64pow10", laid_internal_strconv_uint64pow10)], narrowed := true }
def ControllerExpectedUptoSaid : Prop := controllerExpectedUptoRow.holds Tryz.pinned (OpenSpec.upto controllerExpectedSpec)

end Rows
end Go.Proofs.YtdpeoolildjohaaGreatDoor
