/-
  The plain law of scripts: what one operation does to a lease, its tokens and its holder.
-/
import Derived.Test.YtgegkemoefcdnaaLeaseOps
namespace Go.Proofs.Ytgegkemoefcdnaa
open Go.RowKit
set_option linter.unusedSimpArgs false
set_option linter.unusedVariables false
section
variable {hd tk un now k wh wt tl : Int} {old : Bool}
/-- The lease of a script after n operations at a time. -/
def LeaseOK (n : Nat) (hd tk un now : Int) : Prop := -1 ≤ hd ∧ hd ≤ 2 ∧ 0 ≤ tk ∧ tk ≤ n ∧ 0 ≤ un ∧ un ≤ 1000 ∧ 0 ≤ now ∧ now ≤ 7 * n
theorem dop_err (h : ¬ (dop hd tk un now k wh wt tl old).2.2.2 = 0) : dop hd tk un now k wh wt tl old = (0, 0, 0, (dop hd tk un now k wh wt tl old).2.2.2) := by
  revert h; unfold dop acq ren rel; grind
theorem dnx_ok {n : Nat} (h : LeaseOK n hd tk un now) (hn : n < 40) (k0 : 0 ≤ k) (k1 : k ≤ 255) (wh0 : 0 ≤ wh) (wh1 : wh ≤ 255) (wt0 : 0 ≤ wt) (wt1 : wt ≤ 255) (tl0 : 0 ≤ tl) (tl1 : tl ≤ 255) :
    LeaseOK (n + 1) (dnx hd tk un now k wh wt tl old).1 (dnx hd tk un now k wh wt tl old).2.1 (dnx hd tk un now k wh wt tl old).2.2 (now + wt % 8) := by
  have hm : wt % 8 < 8 ∧ 0 ≤ wt % 8 ∧ wh % 3 < 3 ∧ 0 ≤ wh % 3 ∧ tl % 6 < 6 ∧ 0 ≤ tl % 6 := by omega
  unfold LeaseOK at *
  unfold dnx dop acq ren rel
  grind [chk, heldB, ownsB]
theorem dnx_token {n : Nat} (h : LeaseOK n hd tk un now) : tk ≤ (dnx hd tk un now k wh wt tl old).2.1 := by
  unfold LeaseOK at h
  unfold dnx dop acq ren rel
  grind [chk, heldB, ownsB]
theorem dnx_grant {n : Nat} (h : LeaseOK n hd tk un now) (h1 : 0 ≤ holderI (dnx hd tk un now k wh wt tl old).1 (dnx hd tk un now k wh wt tl old).2.1 (dnx hd tk un now k wh wt tl old).2.2 (now + wt % 8))
    (h2 : holderI hd tk un (now + wt % 8) < 0) : ¬ (dnx hd tk un now k wh wt tl old).2.1 = tk := by
  revert h1
  unfold LeaseOK at h
  unfold dnx dop acq ren rel
  grind [chk, heldB, ownsB, holderI]
end
end Go.Proofs.Ytgegkemoefcdnaa
