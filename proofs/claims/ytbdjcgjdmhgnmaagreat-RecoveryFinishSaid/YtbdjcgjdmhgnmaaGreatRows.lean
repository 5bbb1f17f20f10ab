/-
  No cell of these rows narrows 'for every input' (looked for: loops, veiled, ifaces, maps, wideKeys, modest, calm, conditions, laid).
  DERIVED. THE GIVEN ROWS OF THIS SEAT. 5 by the template 'for every input the law returns true; each argument reads behind the call as it read before'; 0 by the template 'total and deterministic' (their statements: YtbdjcgjdmhgnmaaGreatTotals.lean).
  GIVEN WITH THE SEED: the statements are not yours to turn. If you find one false, say at which input.
  Laid BY PROGRAM, IN A SANDBOX (cutbox-rows.mjs): the forced cells as the released guide's own fill.sh prints them over the translation 614e5938c2929d44… (all of the seat's roots in one cut). By AI agents, Wed Nov 11 2026. No macro, syntax, notation, axiom, sorry.
-/
import Derived.Test.YtbdjcgjdmhgnmaaGreatChecked
import GoSem.Claim
import GoSem.ClaimJoined
import GoSem.ClaimMapViews
import Derived.JoinedTies
import Derived.KernelRfl
namespace Go.Proofs.YtbdjcgjdmhgnmaaGreat
/- THE CELL 'sum', in the pinned program and in every row, IS THE sha256 OF THE DUMP (.gsa) THAT YtbdjcgjdmhgnmaaGreatProg.lean LOADS. Nothing in Lean hashes anything: it is a label: what it is worth is what the hold of that sum in a sandbox is worth. -/
noncomputable def Tryz.pinned : Pinned := { name := "ytbdjcgjdmhgnmaagreat", sum := "614e5938c2929d442aae9e37199307d99c1a991c6b73a8beb617fab83470c72b", checked := Tryz.checked }
namespace Rows
def none {H : Type} : Left H := { results := [], args := [] }

/-- 'sheavelaw54.RecoveryReplay': WHATEVER THE INPUT: true; the input reads as it did. -/
def recoveryReplaySpec : ChangeSpec := { name := "recoveryReplay", fn := fun _ => fun
  | [d1, d2] => { results := [.lit (.bool true)], args := [d1, d2] }
  | _ => none }
def recoveryReplayRow : OpenClaim := { program := "ytbdjcgjdmhgnmaagreat", sum := "614e5938c2929d442aae9e37199307d99c1a991c6b73a8beb617fab83470c72b", func := "sheave/sheavelaw54.RecoveryReplay", spec := "recoveryReplay", unfollowed := true, recurses := true, apart := false }
def RecoveryReplaySaid : Prop := recoveryReplayRow.holds Tryz.pinned (OpenSpec.ofChange recoveryReplaySpec)

/-- ITS FALSE NEIGHBOUR: 'it returns false'. Refute it at one input. -/
def recoveryReplayWrong : ChangeSpec := { name := "recoveryReplay", fn := fun _ => fun
  | [d1, d2] => { results := [.lit (.bool false)], args := [d1, d2] }
  | _ => none }
def RecoveryReplayWrongFalsely : Prop := recoveryReplayRow.holds Tryz.pinned (OpenSpec.ofChange recoveryReplayWrong)

/-- 'sheavelaw54.RecoveryLoad': WHATEVER THE INPUT: true; the input reads as it did. -/
def recoveryLoadSpec : ChangeSpec := { name := "recoveryLoad", fn := fun _ => fun
  | [d1, d2, d3] => { results := [.lit (.bool true)], args := [d1, d2, d3] }
  | _ => none }
def recoveryLoadRow : OpenClaim := { program := "ytbdjcgjdmhgnmaagreat", sum := "614e5938c2929d442aae9e37199307d99c1a991c6b73a8beb617fab83470c72b", func := "sheave/sheavelaw54.RecoveryLoad", spec := "recoveryLoad", unfollowed := true, recurses := true, apart := false }
def RecoveryLoadSaid : Prop := recoveryLoadRow.holds Tryz.pinned (OpenSpec.ofChange recoveryLoadSpec)

/-- ITS FALSE NEIGHBOUR: 'it returns false'. Refute it at one input. -/
def recoveryLoadWrong : ChangeSpec := { name := "recoveryLoad", fn := fun _ => fun
  | [d1, d2, d3] => { results := [.lit (.bool false)], args := [d1, d2, d3] }
  | _ => none }
def RecoveryLoadWrongFalsely : Prop := recoveryLoadRow.holds Tryz.pinned (OpenSpec.ofChange recoveryLoadWrong)

/-- 'sheavelaw54.RecoveryFinish': WHATEVER THE INPUT: true; the input reads as it did. -/
def recoveryFinishSpec : ChangeSpec := { name := "recoveryFinish", fn := fun _ => fun
  | [d1, d2] => { results := [.lit (.bool true)], args := [d1, d2] }
  | _ => none }
def recoveryFinishRow : OpenClaim := { program := "ytbdjcgjdmhgnmaagreat", sum := "614e5938c2929d442aae9e37199307d99c1a991c6b73a8beb617fab83470c72b", func := "sheave/sheavelaw54.RecoveryFinish", spec := "recoveryFinish", unfollowed := true, recurses := true, apart := false }
def RecoveryFinishSaid : Prop := recoveryFinishRow.holds Tryz.pinned (OpenSpec.ofChange recoveryFinishSpec)

/-- ITS FALSE NEIGHBOUR: 'it returns false'. Refute it at one input. -/
def recoveryFinishWrong : ChangeSpec := { name := "recoveryFinish", fn := fun _ => fun
  | [d1, d2] => { results := [.lit (.bool false)], args := [d1, d2] }
  | _ => none }
def RecoveryFinishWrongFalsely : Prop := recoveryFinishRow.holds Tryz.pinned (OpenSpec.ofChange recoveryFinishWrong)

/-- 'sheavelaw54.RecoveryForget': WHATEVER THE INPUT: true; the input reads as it did. -/
def recoveryForgetSpec : ChangeSpec := { name := "recoveryForget", fn := fun _ => fun
  | [d1, d2] => { results := [.lit (.bool true)], args := [d1, d2] }
  | _ => none }
def recoveryForgetRow : OpenClaim := { program := "ytbdjcgjdmhgnmaagreat", sum := "614e5938c2929d442aae9e37199307d99c1a991c6b73a8beb617fab83470c72b", func := "sheave/sheavelaw54.RecoveryForget", spec := "recoveryForget", unfollowed := true, recurses := true, apart := false }
def RecoveryForgetSaid : Prop := recoveryForgetRow.holds Tryz.pinned (OpenSpec.ofChange recoveryForgetSpec)

/-- ITS FALSE NEIGHBOUR: 'it returns false'. Refute it at one input. -/
def recoveryForgetWrong : ChangeSpec := { name := "recoveryForget", fn := fun _ => fun
  | [d1, d2] => { results := [.lit (.bool false)], args := [d1, d2] }
  | _ => none }
def RecoveryForgetWrongFalsely : Prop := recoveryForgetRow.holds Tryz.pinned (OpenSpec.ofChange recoveryForgetWrong)

/-- 'sheavelaw54.RecoveryPast': WHATEVER THE INPUT: true; the input reads as it did. -/
def recoveryPastSpec : ChangeSpec := { name := "recoveryPast", fn := fun _ => fun
  | [d] => { results := [.lit (.bool true)], args := [d] }
  | _ => none }
def recoveryPastRow : OpenClaim := { program := "ytbdjcgjdmhgnmaagreat", sum := "614e5938c2929d442aae9e37199307d99c1a991c6b73a8beb617fab83470c72b", func := "sheave/sheavelaw54.RecoveryPast", spec := "recoveryPast", unfollowed := true, recurses := true, apart := false }
def RecoveryPastSaid : Prop := recoveryPastRow.holds Tryz.pinned (OpenSpec.ofChange recoveryPastSpec)

/-- ITS FALSE NEIGHBOUR: 'it returns false'. Refute it at one input. -/
def recoveryPastWrong : ChangeSpec := { name := "recoveryPast", fn := fun _ => fun
  | [d] => { results := [.lit (.bool false)], args := [d] }
  | _ => none }
def RecoveryPastWrongFalsely : Prop := recoveryPastRow.holds Tryz.pinned (OpenSpec.ofChange recoveryPastWrong)

/- THE SECOND FORM. 'bulk': how many values and letters a reading holds, each counted each time it is reached (what is shared counts as often as it is met; a slice's spare places count too). A statement '..UptoSaid' is the law's where the arguments, and the package variables that the reading takes, are together of bulk at most 1048576: NARROWER than '..Said'. Prove '..Said' where nothing that the law and all that it calls make is longer than what came in: it says more and counts as full. Else prove '..UptoSaid'. A law counts once. -/
mutual
def uptoBulk {H : Type} : DataW H → Nat
  | .lit (.string bytes) => bytes.length + 1
  | .lit _ => 1
  | .nil => 1
  | .ptr d => uptoBulk d + 1
  | .slice elems spare => uptoBulkAll elems + uptoBulkAll spare + 1
  | .agg parts => uptoBulkAll parts + 1
  | .iface _ d => uptoBulk d + 1
  | .map entries => uptoBulkEntries entries + 1
  | .held _ => 1
def uptoBulkAll {H : Type} : List (DataW H) → Nat
  | [] => 0
  | d :: r => uptoBulk d + uptoBulkAll r
def uptoBulkEntries {H : Type} : List (Lit × DataW H) → Nat
  | [] => 0
  | x :: r => uptoBulkEntry x + uptoBulkEntries r
def uptoBulkEntry {H : Type} : Lit × DataW H → Nat
  | (.string bytes, d) => bytes.length + uptoBulk d + 1
  | (_, d) => uptoBulk d + 1
 end
def uptoSmall : (H : Type) → List (DataW H) → Bool := fun _ ds => decide (uptoBulkAll ds ≤ 1048576)
def OpenSpec.upto (s : _root_.Go.ChangeSpec) : _root_.Go.OpenSpec := { _root_.Go.OpenSpec.ofChange s with cond := some uptoSmall }

/-- 'sheavelaw54.RecoveryReplay', WHERE WHAT IT READS IS OF BULK AT MOST 1048576: true; the input reads as it did. -/
def recoveryReplayUptoRow : OpenClaim := { program := "ytbdjcgjdmhgnmaagreat", sum := "614e5938c2929d442aae9e37199307d99c1a991c6b73a8beb617fab83470c72b", func := "sheave/sheavelaw54.RecoveryReplay", spec := "recoveryReplay", unfollowed := true, recurses := true, apart := false, narrowed := true }
def RecoveryReplayUptoSaid : Prop := recoveryReplayUptoRow.holds Tryz.pinned (OpenSpec.upto recoveryReplaySpec)

/-- 'sheavelaw54.RecoveryLoad', WHERE WHAT IT READS IS OF BULK AT MOST 1048576: true; the input reads as it did. -/
def recoveryLoadUptoRow : OpenClaim := { program := "ytbdjcgjdmhgnmaagreat", sum := "614e5938c2929d442aae9e37199307d99c1a991c6b73a8beb617fab83470c72b", func := "sheave/sheavelaw54.RecoveryLoad", spec := "recoveryLoad", unfollowed := true, recurses := true, apart := false, narrowed := true }
def RecoveryLoadUptoSaid : Prop := recoveryLoadUptoRow.holds Tryz.pinned (OpenSpec.upto recoveryLoadSpec)

/-- 'sheavelaw54.RecoveryFinish', WHERE WHAT IT READS IS OF BULK AT MOST 1048576: true; the input reads as it did. -/
def recoveryFinishUptoRow : OpenClaim := { program := "ytbdjcgjdmhgnmaagreat", sum := "614e5938c2929d442aae9e37199307d99c1a991c6b73a8beb617fab83470c72b", func := "sheave/sheavelaw54.RecoveryFinish", spec := "recoveryFinish", unfollowed := true, recurses := true, apart := false, narrowed := true }
def RecoveryFinishUptoSaid : Prop := recoveryFinishUptoRow.holds Tryz.pinned (OpenSpec.upto recoveryFinishSpec)

/-- 'sheavelaw54.RecoveryForget', WHERE WHAT IT READS IS OF BULK AT MOST 1048576: true; the input reads as it did. -/
def recoveryForgetUptoRow : OpenClaim := { program := "ytbdjcgjdmhgnmaagreat", sum := "614e5938c2929d442aae9e37199307d99c1a991c6b73a8beb617fab83470c72b", func := "sheave/sheavelaw54.RecoveryForget", spec := "recoveryForget", unfollowed := true, recurses := true, apart := false, narrowed := true }
def RecoveryForgetUptoSaid : Prop := recoveryForgetUptoRow.holds Tryz.pinned (OpenSpec.upto recoveryForgetSpec)

/-- 'sheavelaw54.RecoveryPast', WHERE WHAT IT READS IS OF BULK AT MOST 1048576: true; the input reads as it did. -/
def recoveryPastUptoRow : OpenClaim := { program := "ytbdjcgjdmhgnmaagreat", sum := "614e5938c2929d442aae9e37199307d99c1a991c6b73a8beb617fab83470c72b", func := "sheave/sheavelaw54.RecoveryPast", spec := "recoveryPast", unfollowed := true, recurses := true, apart := false, narrowed := true }
def RecoveryPastUptoSaid : Prop := recoveryPastUptoRow.holds Tryz.pinned (OpenSpec.upto recoveryPastSpec)

end Rows
end Go.Proofs.YtbdjcgjdmhgnmaaGreat
