/-
  No cell of these rows narrows 'for every input' (looked for: loops, veiled, ifaces, maps, wideKeys, modest, calm, conditions, laid).
  DERIVED. THE GIVEN ROWS OF THIS SEAT. 7 by the template 'for every input the law returns true; each argument reads behind the call as it read before'; 0 by the template 'total and deterministic' (their statements: YtgegkemoefcdnaaTotals.lean).
  GIVEN WITH THE SEED: the statements are not yours to turn. If you find one false, say at which input.
  Laid BY PROGRAM, IN A SANDBOX (cutbox-rows.mjs): the forced cells as the released guide's own fill.sh prints them over the translation 4c02d49df9da28bc… (all of the seat's roots in one cut). By AI agents, Wed Nov 11 2026. No macro, syntax, notation, axiom, sorry.
-/
import Derived.Test.YtgegkemoefcdnaaChecked
import GoSem.Claim
import GoSem.ClaimJoined
import GoSem.ClaimMapViews
import Derived.JoinedTies
import Derived.KernelRfl
namespace Go.Proofs.Ytgegkemoefcdnaa
/- THE CELL 'sum', in the pinned program and in every row, IS THE sha256 OF THE DUMP (.gsa) THAT YtgegkemoefcdnaaProg.lean LOADS. Nothing in Lean hashes anything: it is a label: what it is worth is what the hold of that sum in a sandbox is worth. -/
noncomputable def Try.pinned : Pinned := { name := "ytgegkemoefcdnaa", sum := "4c02d49df9da28bc6582b89f5256d3a7fb8a243e0392d8cec2148c4c00bdc051", checked := Try.checked }
namespace Rows
def none {H : Type} : Left H := { results := [], args := [] }

/-- 'sheavelaw49.LeaseAcquire': WHATEVER THE INPUT: true; the input reads as it did. -/
def leaseAcquireSpec : ChangeSpec := { name := "leaseAcquire", fn := fun _ => fun
  | [d1, d2, d3] => { results := [.lit (.bool true)], args := [d1, d2, d3] }
  | _ => none }
def leaseAcquireRow : OpenClaim := { program := "ytgegkemoefcdnaa", sum := "4c02d49df9da28bc6582b89f5256d3a7fb8a243e0392d8cec2148c4c00bdc051", func := "sheave/sheavelaw49.LeaseAcquire", spec := "leaseAcquire", apart := false }
def LeaseAcquireSaid : Prop := leaseAcquireRow.holds Try.pinned (OpenSpec.ofChange leaseAcquireSpec)

/-- ITS FALSE NEIGHBOUR: 'it returns false'. Refute it at one input. -/
def leaseAcquireWrong : ChangeSpec := { name := "leaseAcquire", fn := fun _ => fun
  | [d1, d2, d3] => { results := [.lit (.bool false)], args := [d1, d2, d3] }
  | _ => none }
def LeaseAcquireWrongFalsely : Prop := leaseAcquireRow.holds Try.pinned (OpenSpec.ofChange leaseAcquireWrong)

/-- 'sheavelaw49.LeaseFence': WHATEVER THE INPUT: true; the input reads as it did. -/
def leaseFenceSpec : ChangeSpec := { name := "leaseFence", fn := fun _ => fun
  | [d1, d2] => { results := [.lit (.bool true)], args := [d1, d2] }
  | _ => none }
def leaseFenceRow : OpenClaim := { program := "ytgegkemoefcdnaa", sum := "4c02d49df9da28bc6582b89f5256d3a7fb8a243e0392d8cec2148c4c00bdc051", func := "sheave/sheavelaw49.LeaseFence", spec := "leaseFence", apart := false }
def LeaseFenceSaid : Prop := leaseFenceRow.holds Try.pinned (OpenSpec.ofChange leaseFenceSpec)

/-- ITS FALSE NEIGHBOUR: 'it returns false'. Refute it at one input. -/
def leaseFenceWrong : ChangeSpec := { name := "leaseFence", fn := fun _ => fun
  | [d1, d2] => { results := [.lit (.bool false)], args := [d1, d2] }
  | _ => none }
def LeaseFenceWrongFalsely : Prop := leaseFenceRow.holds Try.pinned (OpenSpec.ofChange leaseFenceWrong)

/-- 'sheavelaw49.LeaseRenew': WHATEVER THE INPUT: true; the input reads as it did. -/
def leaseRenewSpec : ChangeSpec := { name := "leaseRenew", fn := fun _ => fun
  | [d1, d2, d3] => { results := [.lit (.bool true)], args := [d1, d2, d3] }
  | _ => none }
def leaseRenewRow : OpenClaim := { program := "ytgegkemoefcdnaa", sum := "4c02d49df9da28bc6582b89f5256d3a7fb8a243e0392d8cec2148c4c00bdc051", func := "sheave/sheavelaw49.LeaseRenew", spec := "leaseRenew", apart := false }
def LeaseRenewSaid : Prop := leaseRenewRow.holds Try.pinned (OpenSpec.ofChange leaseRenewSpec)

/-- ITS FALSE NEIGHBOUR: 'it returns false'. Refute it at one input. -/
def leaseRenewWrong : ChangeSpec := { name := "leaseRenew", fn := fun _ => fun
  | [d1, d2, d3] => { results := [.lit (.bool false)], args := [d1, d2, d3] }
  | _ => none }
def LeaseRenewWrongFalsely : Prop := leaseRenewRow.holds Try.pinned (OpenSpec.ofChange leaseRenewWrong)

/-- 'sheavelaw49.LeaseHolds': WHATEVER THE INPUT: true; the input reads as it did. -/
def leaseHoldsSpec : ChangeSpec := { name := "leaseHolds", fn := fun _ => fun
  | [d1, d2, d3] => { results := [.lit (.bool true)], args := [d1, d2, d3] }
  | _ => none }
def leaseHoldsRow : OpenClaim := { program := "ytgegkemoefcdnaa", sum := "4c02d49df9da28bc6582b89f5256d3a7fb8a243e0392d8cec2148c4c00bdc051", func := "sheave/sheavelaw49.LeaseHolds", spec := "leaseHolds", apart := false }
def LeaseHoldsSaid : Prop := leaseHoldsRow.holds Try.pinned (OpenSpec.ofChange leaseHoldsSpec)

/-- ITS FALSE NEIGHBOUR: 'it returns false'. Refute it at one input. -/
def leaseHoldsWrong : ChangeSpec := { name := "leaseHolds", fn := fun _ => fun
  | [d1, d2, d3] => { results := [.lit (.bool false)], args := [d1, d2, d3] }
  | _ => none }
def LeaseHoldsWrongFalsely : Prop := leaseHoldsRow.holds Try.pinned (OpenSpec.ofChange leaseHoldsWrong)

/-- 'sheavelaw49.LeaseRelease': WHATEVER THE INPUT: true; the input reads as it did. -/
def leaseReleaseSpec : ChangeSpec := { name := "leaseRelease", fn := fun _ => fun
  | [d1, d2, d3] => { results := [.lit (.bool true)], args := [d1, d2, d3] }
  | _ => none }
def leaseReleaseRow : OpenClaim := { program := "ytgegkemoefcdnaa", sum := "4c02d49df9da28bc6582b89f5256d3a7fb8a243e0392d8cec2148c4c00bdc051", func := "sheave/sheavelaw49.LeaseRelease", spec := "leaseRelease", apart := false }
def LeaseReleaseSaid : Prop := leaseReleaseRow.holds Try.pinned (OpenSpec.ofChange leaseReleaseSpec)

/-- ITS FALSE NEIGHBOUR: 'it returns false'. Refute it at one input. -/
def leaseReleaseWrong : ChangeSpec := { name := "leaseRelease", fn := fun _ => fun
  | [d1, d2, d3] => { results := [.lit (.bool false)], args := [d1, d2, d3] }
  | _ => none }
def LeaseReleaseWrongFalsely : Prop := leaseReleaseRow.holds Try.pinned (OpenSpec.ofChange leaseReleaseWrong)

/-- 'sheavelaw49.LeaseScript': WHATEVER THE INPUT: true; the input reads as it did. -/
def leaseScriptSpec : ChangeSpec := { name := "leaseScript", fn := fun _ => fun
  | [d] => { results := [.lit (.bool true)], args := [d] }
  | _ => none }
def leaseScriptRow : OpenClaim := { program := "ytgegkemoefcdnaa", sum := "4c02d49df9da28bc6582b89f5256d3a7fb8a243e0392d8cec2148c4c00bdc051", func := "sheave/sheavelaw49.LeaseScript", spec := "leaseScript", apart := false }
def LeaseScriptSaid : Prop := leaseScriptRow.holds Try.pinned (OpenSpec.ofChange leaseScriptSpec)

/-- ITS FALSE NEIGHBOUR: 'it returns false'. Refute it at one input. -/
def leaseScriptWrong : ChangeSpec := { name := "leaseScript", fn := fun _ => fun
  | [d] => { results := [.lit (.bool false)], args := [d] }
  | _ => none }
def LeaseScriptWrongFalsely : Prop := leaseScriptRow.holds Try.pinned (OpenSpec.ofChange leaseScriptWrong)

/-- 'sheavelaw49.LeaseFenced': WHATEVER THE INPUT: true; the input reads as it did. -/
def leaseFencedSpec : ChangeSpec := { name := "leaseFenced", fn := fun _ => fun
  | [d] => { results := [.lit (.bool true)], args := [d] }
  | _ => none }
def leaseFencedRow : OpenClaim := { program := "ytgegkemoefcdnaa", sum := "4c02d49df9da28bc6582b89f5256d3a7fb8a243e0392d8cec2148c4c00bdc051", func := "sheave/sheavelaw49.LeaseFenced", spec := "leaseFenced", apart := false }
def LeaseFencedSaid : Prop := leaseFencedRow.holds Try.pinned (OpenSpec.ofChange leaseFencedSpec)

/-- ITS FALSE NEIGHBOUR: 'it returns false'. Refute it at one input. -/
def leaseFencedWrong : ChangeSpec := { name := "leaseFenced", fn := fun _ => fun
  | [d] => { results := [.lit (.bool false)], args := [d] }
  | _ => none }
def LeaseFencedWrongFalsely : Prop := leaseFencedRow.holds Try.pinned (OpenSpec.ofChange leaseFencedWrong)

/- THE SECOND FORM. 'bulk': how many values and letters a reading holds, each counted each time it is reached (what is shared counts as often as it is met; a slice's spare places count too). A statement '..UptoSaid' is the law's where the arguments, and the package variables that the reading takes, are together of bulk at most 1048576: NARROWER than '..Said'. Prove '..Said' where nothing that the law and all that it calls make is longer than what came in: it says more and counts as full. Else prove '..UptoSaid'. A law counts once. -/
mutual
def uptoBulk {H : Type} : DataW H → Nat
  | .lit (.string bytes) => bytes.length + 1
  | .lit _ => 1
  | .nil => 1
  | .ptr d => uptoBulk d + 1
  | .slice elems spare => uptoBulkAll elems + uptoBulkAll spare + 1
  | .agg parts => uptoBulkAll parts + 1
  | .iface _ d => uptoBulk d + 1
  | .map entries => uptoBulkEntries entries + 1
  | .held _ => 1
def uptoBulkAll {H : Type} : List (DataW H) → Nat
  | [] => 0
  | d :: r => uptoBulk d + uptoBulkAll r
def uptoBulkEntries {H : Type} : List (Lit × DataW H) → Nat
  | [] => 0
  | x :: r => uptoBulkEntry x + uptoBulkEntries r
def uptoBulkEntry {H : Type} : Lit × DataW H → Nat
  | (.string bytes, d) => bytes.length + uptoBulk d + 1
  | (_, d) => uptoBulk d + 1
 end
def uptoSmall : (H : Type) → List (DataW H) → Bool := fun _ ds => decide (uptoBulkAll ds ≤ 1048576)
def OpenSpec.upto (s : _root_.Go.ChangeSpec) : _root_.Go.OpenSpec := { _root_.Go.OpenSpec.ofChange s with cond := some uptoSmall }

/-- 'sheavelaw49.LeaseAcquire', WHERE WHAT IT READS IS OF BULK AT MOST 1048576: true; the input reads as it did. -/
def leaseAcquireUptoRow : OpenClaim := { program := "ytgegkemoefcdnaa", sum := "4c02d49df9da28bc6582b89f5256d3a7fb8a243e0392d8cec2148c4c00bdc051", func := "sheave/sheavelaw49.LeaseAcquire", spec := "leaseAcquire", apart := false, narrowed := true }
def LeaseAcquireUptoSaid : Prop := leaseAcquireUptoRow.holds Try.pinned (OpenSpec.upto leaseAcquireSpec)

/-- 'sheavelaw49.LeaseFence', WHERE WHAT IT READS IS OF BULK AT MOST 1048576: true; the input reads as it did. -/
def leaseFenceUptoRow : OpenClaim := { program := "ytgegkemoefcdnaa", sum := "4c02d49df9da28bc6582b89f5256d3a7fb8a243e0392d8cec2148c4c00bdc051", func := "sheave/sheavelaw49.LeaseFence", spec := "leaseFence", apart := false, narrowed := true }
def LeaseFenceUptoSaid : Prop := leaseFenceUptoRow.holds Try.pinned (OpenSpec.upto leaseFenceSpec)

/-- 'sheavelaw49.LeaseRenew', WHERE WHAT IT READS IS OF BULK AT MOST 1048576: true; the input reads as it did. -/
def leaseRenewUptoRow : OpenClaim := { program := "ytgegkemoefcdnaa", sum := "4c02d49df9da28bc6582b89f5256d3a7fb8a243e0392d8cec2148c4c00bdc051", func := "sheave/sheavelaw49.LeaseRenew", spec := "leaseRenew", apart := false, narrowed := true }
def LeaseRenewUptoSaid : Prop := leaseRenewUptoRow.holds Try.pinned (OpenSpec.upto leaseRenewSpec)

/-- 'sheavelaw49.LeaseHolds', WHERE WHAT IT READS IS OF BULK AT MOST 1048576: true; the input reads as it did. -/
def leaseHoldsUptoRow : OpenClaim := { program := "ytgegkemoefcdnaa", sum := "4c02d49df9da28bc6582b89f5256d3a7fb8a243e0392d8cec2148c4c00bdc051", func := "sheave/sheavelaw49.LeaseHolds", spec := "leaseHolds", apart := false, narrowed := true }
def LeaseHoldsUptoSaid : Prop := leaseHoldsUptoRow.holds Try.pinned (OpenSpec.upto leaseHoldsSpec)

/-- 'sheavelaw49.LeaseRelease', WHERE WHAT IT READS IS OF BULK AT MOST 1048576: true; the input reads as it did. -/
def leaseReleaseUptoRow : OpenClaim := { program := "ytgegkemoefcdnaa", sum := "4c02d49df9da28bc6582b89f5256d3a7fb8a243e0392d8cec2148c4c00bdc051", func := "sheave/sheavelaw49.LeaseRelease", spec := "leaseRelease", apart := false, narrowed := true }
def LeaseReleaseUptoSaid : Prop := leaseReleaseUptoRow.holds Try.pinned (OpenSpec.upto leaseReleaseSpec)

/-- 'sheavelaw49.LeaseScript', WHERE WHAT IT READS IS OF BULK AT MOST 1048576: true; the input reads as it did. -/
def leaseScriptUptoRow : OpenClaim := { program := "ytgegkemoefcdnaa", sum := "4c02d49df9da28bc6582b89f5256d3a7fb8a243e0392d8cec2148c4c00bdc051", func := "sheave/sheavelaw49.LeaseScript", spec := "leaseScript", apart := false, narrowed := true }
def LeaseScriptUptoSaid : Prop := leaseScriptUptoRow.holds Try.pinned (OpenSpec.upto leaseScriptSpec)

/-- 'sheavelaw49.LeaseFenced', WHERE WHAT IT READS IS OF BULK AT MOST 1048576: true; the input reads as it did. -/
def leaseFencedUptoRow : OpenClaim := { program := "ytgegkemoefcdnaa", sum := "4c02d49df9da28bc6582b89f5256d3a7fb8a243e0392d8cec2148c4c00bdc051", func := "sheave/sheavelaw49.LeaseFenced", spec := "leaseFenced", apart := false, narrowed := true }
def LeaseFencedUptoSaid : Prop := leaseFencedUptoRow.holds Try.pinned (OpenSpec.upto leaseFencedSpec)

end Rows
end Go.Proofs.Ytgegkemoefcdnaa
