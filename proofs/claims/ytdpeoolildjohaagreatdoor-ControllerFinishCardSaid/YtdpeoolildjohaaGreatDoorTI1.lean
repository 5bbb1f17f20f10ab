/- Rows.ControllerFinishCardSaid: for every input the law returns true and leaves its arguments as they were. Condition (the card's own): the listed tables of Go's library hold what the program's text lays. -/
import Derived.LaidMore
import Derived.Lay
import Derived.SevenTiedAt
import Derived.Stop.Joined
import Derived.Stop.LaidErr
import Derived.Test.YtdpeoolildjohaaGreatDoorCards
import Derived.Test.YtdpeoolildjohaaGreatDoorQA14
import Derived.Test.YtdpeoolildjohaaGreatDoorQA24
import Derived.Test.YtdpeoolildjohaaGreatDoorQA27
import Derived.Test.YtdpeoolildjohaaGreatDoorTA39
import Derived.Test.YtdpeoolildjohaaGreatDoorTA40
import Derived.Test.YtdpeoolildjohaaGreatDoorTC1
import Derived.Test.YtdpeoolildjohaaGreatDoorTie
namespace Go.Proofs.YtdpeoolildjohaaGreatDoor
open Go Go.RowKit
set_option linter.unusedSimpArgs false
set_option linter.unusedVariables false
theorem spaceI_mono {p : Prob} {a b i : Nat} (hab : a ≤ b) : ∀ {ss : List StepD} {l r : List NodeD}, spaceI p a i ss l = some r → spaceI p b i ss l = some r
 | [], l, r, h => h
 | s :: ss, l, r, h => by
  unfold spaceI at h ⊢
  dsimp only at h ⊢
  generalize (if robustP p ((afterP p (l.getD i nilN).mix s).getD nilM) = true ∧ findN l ((afterP p (l.getD i nilN).mix s).getD nilM) < 0 then l ++ [⟨(afterP p (l.getD i nilN).mix s).getD nilM, i, s⟩] else l) = q at h ⊢
  by_cases hq : a < q.length
  ·rw [if_pos hq] at h; cases h
  ·rw [if_neg hq] at h
   by_cases hb : b < q.length
   ·omega
   ·rw [if_neg hb]; exact spaceI_mono hab h
theorem spaceG_mono {p : Prob} {a b : Nat} (hab : a ≤ b) : ∀ {n n' i : Nat} {l r : List NodeD}, n ≤ n' → spaceG p a n i l = some r → spaceG p b n' i l = some r
 | 0, _, _, _, _, _, h => by cases h
 | n + 1, 0, _, _, _, hn, h => by omega
 | n + 1, n' + 1, i, l, r, hn, h => by
  unfold spaceG at h ⊢
  split at h
  ·rename_i hi
   rw [if_pos hi]
   split at h
   ·cases h
   ·rename_i l1 h1
    rw [spaceI_mono hab h1]
    exact spaceG_mono hab (by omega) h
  ·rename_i hi
   rw [if_neg hi]; exact h
theorem space_mono {p : Prob} {m : MixD} {a b : Nat} {r : List NodeD} (hab : a ≤ b) (h : spaceP p m a = some r) : spaceP p m b = some r := spaceG_mono hab (by omega) h
theorem way_len {p : Prob} {m0 : MixD} {l : List NodeD} (h : NodesOK p m0 l) : ∀ {k : Nat}, k < l.length → (wayP l k).length ≤ k := by
 intro k
 induction k using Nat.strongRecOn with
 | _ k ih =>
  intro hk
  by_cases h0 : k = 0
  ·subst h0
   unfold wayP wayG
   rw [show ((0 : Nat) : Int).toNat = 0 from rfl, h.first, if_neg (by simp)]
   simp
  ·obtain ⟨j, h1, h2, h3, h4, h5⟩ := h.up k (by omega) hk
   have hw : wayP l k = wayP l j ++ [(l.getD k nilN).by_] := by
    have : wayP l k = wayG l k (j : Int) [(l.getD k nilN).by_] := by
     simp only [wayP, wayG, Int.toNat_natCast]
     rw [h2, if_pos (by omega)]
    rw [this, wayG_acc h _ (by omega) (by omega), wayG_fuel h (n' := j + 1) _ (by omega) (by omega) (by omega)]
    rfl
   have := ih j h1 (by omega)
   rw [hw, List.length_append, List.length_singleton]
   omega
theorem light_len {p : Prob} {n : Nat} (hn : 1 ≤ n ∧ n ≤ 20000) (hl : lightP p n = true) (hf : (findP p).2 = 0) : (findP p).1.length < n := by
 obtain ⟨_, hv, _⟩ := find_check hf
 unfold lightP at hl
 unfold findP fromP at hf ⊢
 rw [if_neg (by simpa using hv)] at hf ⊢
 split at hf
 ·rename_i h2; exact absurd hf h2
 ·rename_i h2
  rw [if_neg h2]
  split at hf
  ·cases hf
  ·rename_i h3
   rw [if_neg h3]
   have hrb : robustP p (startM p) = true := by simpa using h3
   have hs : (spaceP p (startM p) n).isSome = true := by
    rw [hrb] at hl
    simpa [hv] using hl
   obtain ⟨r, hr⟩ := Option.isSome_iff_exists.1 hs
   have hr2 := space_mono (b := 20000) hn.2 hr
   obtain ⟨hN, hlen⟩ := spaceP_ok hrb hn.1 hr
   rw [hr2] at hf ⊢
   dsimp only at hf ⊢
   split at hf
   ·cases hf
   ·rename_i i hi
    dsimp only
    have h6 := firstGoal_some hi
    have := way_len hN (k := i) (by omega)
    omega
def remP (rs : List Int) (c : CtlD) : Int := if (present c).kind = 2 then firstR rs (present c).idx + rs.getD (present c).idx.toNat 0 - 1 - c.replica else 0
def phP (rs : List Int) (c : CtlD) : Int := if c.phase = 0 then 0 else if c.phase = 1 then (if (present c).kind = 2 then remP rs c - 3 else -2) else if c.phase = 2 then -3 else if c.phase = 3 then 2 else if c.phase = 4 then -3 else if c.phase = 5 then 1 else 0
def nuP (rs : List Int) (c : CtlD) : Int := 4 * ((c.plan.length : Int) - c.at_) + phP rs c + (if c.token = 0 then 1 else 0)
theorem useful_0 {c : CtlD} (ht : ¬ c.token = 0) : usefulP c 0 = if c.phase = 1 ∨ c.phase = 3 then ⟨4, 0, c.round, c.replica, wantedP c, false, 0⟩ else if c.phase = 2 then ⟨5, 0, c.round, 0, 0, true, 0⟩ else if c.phase = 4 then ⟨6, 0, c.round, 0, 0, false, (present c).idx⟩ else if c.phase = 5 then ⟨7, 0, 0, 0, 0, false, 0⟩ else ⟨3, 0, 0, 0, 0, false, 0⟩ := by
 unfold usefulP
 rw [if_neg ht]
 simp [sig]
theorem useful_t {c : CtlD} (ht : c.token = 0) : usefulP c 0 = ⟨1, 1, 0, 0, 0, false, 0⟩ := by
 unfold usefulP
 rw [if_pos ht]
 rfl
section
variable {p : Prob} {rs : List Int} {c : CtlD}
theorem rem_rng (hk : CtlK p c) (hr : CtlR p rs c) (hs : setErr p rs = 0) (r3 : ∀ k, rs.getD k 0 ≤ 3) (h1 : c.phase = 1) : 0 ≤ remP rs c ∧ remP rs c ≤ 2 := by
 have hso := setErr_ok hs
 have hvp := vp_all hso.1
 unfold remP
 split
 ·rename_i k2
  have h := hr.some_ h1 k2
  have hi := hk.svc (by omega) (by omega)
  have h2 := r3 (present c).idx.toNat
  omega
 ·omega
theorem ph_rng (hk : CtlK p c) (hr : CtlR p rs c) (hs : setErr p rs = 0) (r3 : ∀ k, rs.getD k 0 ≤ 3) : -3 ≤ phP rs c ∧ phP rs c ≤ 2 := by
 have hps := hk.phs
 have hm := fun h => rem_rng hk hr hs r3 h
 unfold phP
 by_cases h1 : c.phase = 1
 ·have := hm h1
  rw [if_neg (by omega), if_pos h1]
  split <;> omega
 ·(repeat' split) <;> omega
theorem nu_begin (hk : CtlK p c) (hs : setErr p rs = 0) (r3 : ∀ k, rs.getD k 0 ≤ 3) (h0 : c.phase = 0) (t : Int) (ht : ¬ t = 0) : nuP rs (beginC p rs { c with token := t }) < nuP rs c := by
 have hso := setErr_ok hs
 have hvp := vp_all hso.1
 have e : phP rs c = 0 := by unfold phP; rw [if_pos h0]
 have tk : 0 ≤ (if c.token = 0 then (1 : Int) else 0) := by split <;> omega
 have hlt := hk.lt (by omega)
 have e2 : phP rs (beginC p rs { c with token := t }) ≤ -1 := by
  by_cases k3 : (present c).kind = 3
  ·have : (beginC p rs { c with token := t }).phase = 4 := by
     show (if (present c).kind = 3 then (4 : Int) else 1) = 4
     rw [if_pos k3]
   unfold phP
   rw [this]; simp
  ·have h1 : (beginC p rs { c with token := t }).phase = 1 := by
     show (if (present c).kind = 3 then (4 : Int) else 1) = 1
     rw [if_neg k3]
   have h2 : (beginC p rs { c with token := t }).replica = firstR rs (present c).idx := by
    show (if (present c).kind = 3 then c.replica else firstR rs (present c).idx) = _
    rw [if_neg k3]
   have hi := hk.svc (by omega) k3
   have h3 := r3 (present c).idx.toNat
   have hpr : present (beginC p rs { c with token := t }) = present c := rfl
   unfold phP
   rw [h1, if_neg (by decide), if_pos rfl]
   unfold remP
   rw [h2, hpr]
   by_cases k2 : (present c).kind = 2
   ·rw [if_pos k2, if_pos k2]; omega
   ·rw [if_neg k2]; omega
 have e3 : (if t = 0 then (1 : Int) else 0) = 0 := if_neg ht
 unfold nuP
 show 4 * ((c.plan.length : Int) - c.at_) + phP rs (beginC p rs { c with token := t }) + (if t = 0 then (1 : Int) else 0) < _
 rw [e3, e]
 omega
theorem nu_done (hk : CtlK p c) (hr : CtlR p rs c) (hs : setErr p rs = 0) (r3 : ∀ k, rs.getD k 0 ≤ 3) (hl : c.plan.length ≤ 1000000) (h6 : ¬ c.phase = 6) : nuP rs (doneC p c) < nuP rs c := by
 have hlt := hk.lt h6
 have hrg := hk.rng
 have h1 := ph_rng hk hr hs r3
 have hw : w64 (c.at_ + 1) = c.at_ + 1 := w64_is (by omega)
 have e2 : phP rs (doneC p c) ≤ 0 := by
  unfold phP
  have : (doneC p c).phase = if w64 (c.at_ + 1) = c.plan.length then 6 else 0 := rfl
  rw [this]
  by_cases hq : w64 (c.at_ + 1) = c.plan.length
  ·rw [if_pos hq]; simp
  ·rw [if_neg hq]; simp
 unfold nuP
 show 4 * ((c.plan.length : Int) - w64 (c.at_ + 1)) + phP rs (doneC p c) + (if c.token = 0 then (1 : Int) else 0) < _
 rw [hw]
 omega
theorem nu_next (hk : CtlK p c) (hr : CtlR p rs c) (hs : setErr p rs = 0) (r3 : ∀ k, rs.getD k 0 ≤ 3) (hl : c.plan.length ≤ 1000000) (hrp : -1000000000 ≤ c.replica ∧ c.replica ≤ 1000000000) (h6 : ¬ c.phase = 6) : nuP rs (nextP p rs c (usefulP c 0)).1 < nuP rs c := by
 have hps := hk.phs
 by_cases ht : c.token = 0
 ·rw [useful_t ht]
  have e : nextP p rs c ⟨1, 1, 0, 0, 0, false, 0⟩ = tickP p rs { c with token := 1 } := by
   unfold nextP
   rw [if_pos rfl, if_neg (by show ¬ (1 : Int) ≤ c.token; omega)]
  rw [e]
  by_cases h0 : c.phase = 0
  ·have e : tickP p rs { c with token := 1 } = (beginC p rs { c with token := 1 }, entA { c with token := 1 } 1 :: repeatP (beginC p rs { c with token := 1 })) := by unfold tickP; rw [if_neg (fun b => b h0)]
   rw [e]
   exact nu_begin hk hs r3 h0 1 (by decide)
  ·have e : tickP p rs { c with token := 1 } = ({ c with token := 1 }, repeatP { c with token := 1 }) := by unfold tickP; rw [if_pos h0]
   rw [e]
   unfold nuP
   show 4 * ((c.plan.length : Int) - c.at_) + phP rs c + (if (1 : Int) = 0 then (1 : Int) else 0) < _
   rw [if_pos ht, if_neg (by decide)]
   omega
 ·rw [useful_0 ht]
  by_cases h13 : c.phase = 1 ∨ c.phase = 3
  ·rw [if_pos h13]
   have e : nextP p rs c ⟨4, 0, c.round, c.replica, wantedP c, false, 0⟩ = ackP p rs c ⟨4, 0, c.round, c.replica, wantedP c, false, 0⟩ := by
    unfold nextP
    rw [if_neg (by show ¬ (4 : Int) = 1; decide), if_neg ht, if_neg (by show ¬ (4 : Int) = 2; decide), if_neg (by show ¬ (4 : Int) = 3; decide), if_pos ⟨rfl, rfl, h13⟩]
   rw [e]
   unfold ackP
   rw [if_neg (by rintro (a | a) <;> exact a rfl)]
   by_cases h3 : c.phase = 3
   ·rw [if_pos h3]
    have e3 : phP rs c = 2 := by unfold phP; rw [h3]; rfl
    unfold nuP
    show 4 * ((c.plan.length : Int) - c.at_) + 1 + (if c.token = 0 then (1 : Int) else 0) < _
    rw [e3]; omega
   ·have h1 : c.phase = 1 := by omega
    have e3 : phP rs c = if (present c).kind = 2 then remP rs c - 3 else -2 := by unfold phP; rw [h1]; rfl
    have hrm := rem_rng hk hr hs r3 h1
    rw [if_neg h3]
    by_cases k1 : (present c).kind = 1
    ·rw [if_pos k1]
     unfold nuP
     show 4 * ((c.plan.length : Int) - c.at_) + -3 + (if c.token = 0 then (1 : Int) else 0) < _
     rw [e3, if_neg (by omega)]; omega
    ·rw [if_neg k1]
     by_cases hq : c.replica = firstR rs (present c).idx + rs.getD (present c).idx.toNat 0 - 1
     ·rw [if_pos hq]
      exact nu_done hk hr hs r3 hl h6
     ·rw [if_neg hq, w64_is (by omega)]
      have k2 : (present c).kind = 2 := by rcases hk.ph1 h1 with a | a <;> omega
      have e4 : phP rs { c with replica := c.replica + 1 } = (remP rs c - 1) - 3 := by
       unfold phP
       rw [if_neg (by show ¬ c.phase = 0; omega), if_pos (show ({ c with replica := c.replica + 1 } : CtlD).phase = 1 from h1), if_pos (show (present { c with replica := c.replica + 1 }).kind = 2 from k2)]
       unfold remP
       rw [if_pos (show (present { c with replica := c.replica + 1 }).kind = 2 from k2), if_pos k2]
       show (firstR rs (present c).idx + rs.getD (present c).idx.toNat 0 - 1 - (c.replica + 1)) - 3 = _
       omega
      unfold nuP
      show 4 * ((c.plan.length : Int) - c.at_) + phP rs { c with replica := c.replica + 1 } + (if c.token = 0 then (1 : Int) else 0) < _
      rw [e3, e4, if_pos k2]; omega
  ·rw [if_neg h13]
   by_cases h2 : c.phase = 2
   ·rw [if_pos h2]
    have e : nextP p rs c ⟨5, 0, c.round, 0, 0, true, 0⟩ = (doneC p c, [entA c 2]) := by
     unfold nextP
     rw [if_neg (by show ¬ (5 : Int) = 1; decide), if_neg ht, if_neg (by show ¬ (5 : Int) = 2; decide), if_neg (by show ¬ (5 : Int) = 3; decide), if_neg (by rintro ⟨a, _⟩; exact absurd (show (5 : Int) = 4 from a) (by decide)), if_pos ⟨rfl, rfl, h2⟩, if_pos rfl]
    rw [e]
    exact nu_done hk hr hs r3 hl h6
   ·rw [if_neg h2]
    by_cases h4 : c.phase = 4
    ·rw [if_pos h4]
     have e : nextP p rs c ⟨6, 0, c.round, 0, 0, false, (present c).idx⟩ = (doneC p c, [entA c 2]) := by
      unfold nextP
      rw [if_neg (by show ¬ (6 : Int) = 1; decide), if_neg ht, if_neg (by show ¬ (6 : Int) = 2; decide), if_neg (by show ¬ (6 : Int) = 3; decide), if_neg (by rintro ⟨a, _⟩; exact absurd (show (6 : Int) = 4 from a) (by decide)), if_neg (by rintro ⟨a, _⟩; exact absurd (show (6 : Int) = 5 from a) (by decide)), if_pos ⟨rfl, rfl, h4, rfl⟩]
     rw [e]
     exact nu_done hk hr hs r3 hl h6
    ·rw [if_neg h4]
     by_cases h5 : c.phase = 5
     ·rw [if_pos h5]
      have e : nextP p rs c ⟨7, 0, 0, 0, 0, false, 0⟩ = ({ bump c with phase := 0 }, [entA c 4]) := by
       unfold nextP
       rw [if_neg (by show ¬ (7 : Int) = 1; decide), if_neg ht, if_neg (by show ¬ (7 : Int) = 2; decide), if_neg (by show ¬ (7 : Int) = 3; decide), if_neg (by rintro ⟨a, _⟩; exact absurd (show (7 : Int) = 4 from a) (by decide)), if_neg (by rintro ⟨a, _⟩; exact absurd (show (7 : Int) = 5 from a) (by decide)), if_neg (by rintro ⟨a, _⟩; exact absurd (show (7 : Int) = 6 from a) (by decide)), if_pos ⟨rfl, h5⟩]
      rw [e]
      have e3 : phP rs c = 1 := by unfold phP; rw [h5]; rfl
      unfold nuP
      show 4 * ((c.plan.length : Int) - c.at_) + 0 + (if c.token = 0 then (1 : Int) else 0) < _
      rw [e3]; omega
     ·rw [if_neg h5]
      have h0 : c.phase = 0 := by omega
      have e : nextP p rs c ⟨3, 0, 0, 0, 0, false, 0⟩ = tickP p rs c := by
       unfold nextP
       rw [if_neg (by show ¬ (3 : Int) = 1; decide), if_neg ht, if_neg (by show ¬ (3 : Int) = 2; decide), if_pos rfl]
      have e2 : tickP p rs c = (beginC p rs c, entA c 1 :: repeatP (beginC p rs c)) := by unfold tickP; rw [if_neg (fun b => b h0)]
      rw [e, e2]
      exact nu_begin hk hs r3 h0 c.token ht
end
def finAt (p : Prob) (rs : List Int) (c : CtlD) : Nat → CtlD
 | 0 => c
 | k + 1 => (nextP p rs (finAt p rs c k) (usefulP (finAt p rs c k) 0)).1
theorem finAt_k {p : Prob} {rs : List Int} {l : List StepD} {c : CtlD} {n : Int} (h : SigK p rs l c n) (hs : setErr p rs = 0) (hl : l.length ≤ 1000000) : ∀ k : Nat, n + (k : Int) ≤ 50000000 → SigK p rs l (finAt p rs c k) (n + k)
 | 0, _ => by simpa [finAt] using h
 | k + 1, hk => by
  have a := finAt_k h hs hl k (by omega)
  have := a.next (usefulP (finAt p rs c k) 0) (by omega) hs hl
  show SigK p rs l (nextP p rs (finAt p rs c k) (usefulP (finAt p rs c k) 0)).1 (n + ((k + 1 : Nat) : Int))
  rw [show n + ((k + 1 : Nat) : Int) = n + (k : Int) + 1 by omega]
  exact this
theorem fin_nu {p : Prob} {rs : List Int} {l : List StepD} {c : CtlD} {n : Int} (h : SigK p rs l c n) (h0 : 0 ≤ n) (hs : setErr p rs = 0) (r3 : ∀ k, rs.getD k 0 ≤ 3) (hl : l.length ≤ 1000000) : ∀ k : Nat, n + (k : Int) ≤ 50000000 → (∀ j, j < k → ¬ (finAt p rs c j).phase = 6) → nuP rs (finAt p rs c k) + k ≤ nuP rs c
 | 0, _, _ => by simp [finAt]
 | k + 1, hk, hn => by
  have a := finAt_k h hs hl k (by omega)
  have ih := fin_nu h h0 hs r3 hl k (by omega) (fun j hj => hn j (by omega))
  have hrp := a.b.rp
  have d := nu_next a.ck a.cr hs r3 (by rw [a.b.plan]; exact hl) (by omega) (hn k (by omega))
  show nuP rs (nextP p rs (finAt p rs c k) (usefulP (finAt p rs c k) 0)).1 + ((k + 1 : Nat) : Int) ≤ _
  omega
theorem nu_rng {p : Prob} {rs : List Int} {c : CtlD} (hk : CtlK p c) (hr : CtlR p rs c) (hs : setErr p rs = 0) (r3 : ∀ k, rs.getD k 0 ≤ 3) : 0 ≤ nuP rs c ∧ nuP rs c ≤ 4 * (c.plan.length : Int) + 3 := by
 have h := ph_rng hk hr hs r3
 have h1 := hk.rng
 by_cases h6 : c.phase = 6
 ·have : phP rs c = 0 := by unfold phP; rw [h6]; rfl
  unfold nuP
  split <;> omega
 ·have := hk.lt h6
  unfold nuP
  split <;> omega
theorem fin_end {p : Prob} {rs : List Int} {l : List StepD} {c : CtlD} {n : Int} {k : Nat} (h : SigK p rs l c n) (h0 : 0 ≤ n ∧ n ≤ 10000000) (hs : setErr p rs = 0) (r3 : ∀ k, rs.getD k 0 ≤ 3) (hl : l.length ≤ 1000000) (hk : 4 * (l.length : Int) + 4 ≤ k) (hk' : (k : Int) ≤ 30000000) (hn : ∀ j, j < k → ¬ (finAt p rs c j).phase = 6) : False := by
 have a := finAt_k h hs hl k (by omega)
 have h1 := fin_nu h h0.1 hs r3 hl k (by omega) hn
 have h2 := (nu_rng a.ck a.cr hs r3).1
 have h3 := (nu_rng h.ck h.cr hs r3).2
 rw [h.b.plan] at h3
 omega
end Go.Proofs.YtdpeoolildjohaaGreatDoor

namespace Go.Proofs.YtdpeoolildjohaaGreatDoor
open Go Go.RowKit
set_option maxRecDepth 100000
set_option maxHeartbeats 8000000
set_option linter.unusedSimpArgs false
set_option linter.unusedVariables false
theorem plan_goal {p : Prob} {l : List StepD} (hv : vpErr p = 0) (h : checkP p l = true) : goalP p ((mixesP p l).getD l.length nilM) = true := by
 have hp := planOK_of hv (start_err hv) h
 have h := of_decide_eq_true h
 unfold failP at h
 rw [if_neg (by simpa using hv)] at h
 split at h
 ·cases h
 ·rw [hp.mix]; exact check_goal h
theorem reps_le {R : List Int} (hR : u8s R) (n k : Nat) : (repsP R n).getD k 0 ≤ 3 := by
 by_cases hk : k < n
 ·unfold repsP
  rw [List.getD_eq_getElem?_getD, List.getElem?_map, List.getElem?_range hk]
  show (if k < R.length then 1 + (R.getD k 0).tmod 3 else 1) ≤ 3
  split
  ·rename_i h
   have := tmod3 (hR (R.getD k 0) (by rw [List.getD_eq_getElem?_getD, List.getElem?_eq_getElem h]; exact List.getElem_mem h))
   omega
  ·omega
 ·rw [List.getD_eq_getElem?_getD, List.getElem?_eq_none (by rw [repsP_len]; omega)]
  show (0 : Int) ≤ 3
  decide
theorem cfinish_law (d : DraftD) (R ch : List Int) (hd : draftOK d) (hR : u8s R) (hch : u8s ch) : FnSound Tryz.prog 6 [.val true (caseC d R ch)] [] { vals := [(false, [.d (.v (.bool true))])] } := by
 by_cases h : caseOK d = true ∧ ch.length ≤ 40
 ·have hof := ofC_fn d R ch hd hR hch h.1 h.2
  obtain ⟨k0, k1, k2, k3, hk⟩ := now_k hd hR hch h.1
  have r3 := reps_le hR (ofP d).vs.length
  have hlen : (findP (ofP d)).1.length < 120 := by
   have hcs := h.1
   unfold caseOK at hcs
   simp only [Bool.and_eq_true, decide_eq_true_eq] at hcs
   exact light_len (by omega) hcs.2.1 hcs.2.2
  have hK := hk ch.length (by omega)
  generalize nowAt d R ch ch.length = c at hof hK
  generalize hp : ofP d = p at *
  generalize hr : repsP R p.vs.length = rs at *
  generalize hl : (findP p).1 = l at *
  have hfk := fun (j : Nat) (hj : j ≤ 1000000) => finAt_k hK k3 (by omega) j (by omega)
  have hus : ∀ j : Nat, j ≤ 1000000 → FnSound Tryz.prog 25 [.val true (ctlC (finAt p rs c j)), .val false [.d (.v (.int .u8 0))]] [] { vals := [(true, sigC (usefulP (finAt p rs c j) 0))] } := fun j hj => useful_fn p (finAt p rs c j) 0 (hfk j hj).ck (by rw [(hfk j hj).b.plan]; omega) (by omega)
  have hst : ∀ j : Nat, j ≤ 1000000 → FnSound Tryz.prog 24 [.val true (probC p), .val false [.d (.sl 1 (dInts rs))], .val true (ctlC (finAt p rs c j)), .val true (sigC (usefulP (finAt p rs c j) 0))] [] { vals := [(true, ctlC (finAt p rs c (j + 1))), (false, [.d (.sl 10 (dActs (nextP p rs (finAt p rs c j) (usefulP (finAt p rs c j) 0)).2))]), (false, [.d (.v (.int .i64 0))])] } := fun j hj => by
   have e := (hfk j hj).b.plan
   exact pstep_fn p rs (finAt p rs c j) (usefulP (finAt p rs c j) 0) (ch.length + j) (by rw [e]; exact hfk j hj) (by omega) k3 (by rw [e]; exact k1) (by rw [e]; omega)
  have her : ∀ j : Nat, j ≤ 1000000 → FnSound Tryz.prog 26 [.val true (probC p), .val false [.d (.sl 1 (dInts rs))], .val true (ctlC (finAt p rs c j))] [] { vals := [(false, [.d (.v (.int .i64 0))])] } := fun j hj => by
   have a := hfk j hj
   have e := a.b.plan
   have e2 := a.b.rd
   exact error_fn p rs (finAt p rs c j) a.ck a.cr (by rw [e]; exact k1) k3 (by rw [e]; omega) (by omega)
  have hgo : ∀ j : Nat, j ≤ 1000000 → (finAt p rs c j).phase = 6 → FnSound Tryz.prog 31 [.val true (probC p), .val true (mixC (finAt p rs c j).mix)] [] { vals := [(false, [.d (.v (.bool true))])] } := fun j hj h6 => by
   have a := hfk j hj
   have e := a.b.plan
   have g := goal_fn p (finAt p rs c j).mix
   have hat := a.ck.fin.1 h6
   have hm : goalP p (finAt p rs c j).mix = true := by
    rw [a.ck.ph6 h6, hat, e]
    exact plan_goal k0 k1
   rw [hm] at g
   exact g
  have hat : ∀ j : Nat, j ≤ 1000000 → (finAt p rs c j).phase = 6 → (finAt p rs c j).at_ = (finAt p rs c j).plan.length := fun j hj h6 => (hfk j hj).ck.fin.1 h6
  have hend := fun (j : Nat) => fin_end (k := j) hK (by omega) k3 r3 (by omega)
  have h00 : finAt p rs c 0 = c := rfl
  clear hk hfk
  generalize finAt p rs c = f at hus hst hend h00 her hgo hat
  refine startW (tm := [(0, _)]) Tryz.func6 rfl Tryz.ntmps6 rfl rfl rfl rfl ?_
  repeat' (first
 |(with_reducible refine K_ca 19 ?_); refine zC (hof) ?_
 |(with_reducible refine K_ca 11 ?_); refine zC (awake_fn) ?_
 |(with_reducible refine K_ca 31 ?_); refine zC (hgo j (by omega) (by assumption)) ?_
 |(with_reducible refine K_ca 25 ?_); refine zC (hus j (by omega)) ?_
 |(with_reducible refine K_ca 24 ?_); refine zC (hst j (by omega)) ?_
 |(with_reducible refine K_ca 26 ?_); refine zC (her (j + 1) (by omega)) ?_
 |(with_reducible refine blk_at (id := 0) ?_); ((with_reducible refine JL.loopW 0 599 (fun (j : Nat) tm => (24, .one false [.d (.v (.int .i64 ((j : Int))))]) :: tm) (fun (j : Nat) bo => ((512, 200), some (.st 39 [.d (.sl 3 ((dSteps (f j).plan))), .d (.v (.int .i64 ((f j).at_))), .d (.v (.int .i64 ((f j).phase))), .d (.v (.int .i64 ((f j).replica))), .d (.v (.int .i64 ((f j).round))), .d (.v (.int .i64 ((f j).token))), .d (.sl 1 ((dInts (f j).mix.base))), .d (.sl 1 ((dInts (f j).mix.next))), .d (.sl 1 ((dSets (f j).mix.held)))])) :: bo) (fun (j : Nat) => (j : Int) ≤ 600 ∧ ∀ i, i < j → ¬ (f i).phase = 6) (fun (j : Nat) => 600 - j) (0) ?_ (fun j hj => ?_) ?_); (focus (apply SubW [] rfl ?_ ?_ rfl ?_; (repeat' (first | exact kA | refine kB ?_ | refine kC ?_ ?_ | exact kD | fail)))))
 |((with_reducible refine round_next (i := j) (j + 1) ?_ ?_ ?_); (focus (apply SubW [] rfl ?_ ?_ rfl ?_; (repeat' (first | exact kA | refine kB ?_ | refine kC ?_ ?_ | exact kD | fail)))))
 |refine wA ?_
 |(refine wC ?_ ?_ <;> intro hc)
 |refine wB ?_ ?_
 |(with_reducible refine JL.block ?_)
 |(with_reducible refine F_at ?_); refine eW (vs := [(_, _)]) Tryz.results6 ?_; (focus (repeat' (first | exact oA | refine oB ?_ | refine oC ?_ ?_ | fail)))
 |exact oM
 |fail)
  all_goals first
   | (rw [h00]; done)
   | exact decide_eq_true (hat j (by omega) (by assumption))
   | rfl
   | exact ⟨by omega, fun i hi => absurd hi (Nat.not_lt_zero i)⟩
   | (refine ⟨by omega, fun i hi => ?_⟩; by_cases e : i = j; (subst e; exact hc); exact hj.2 i (by omega))
   | exact (hend j (by omega) (by omega) hj.2).elim
   | (exfalso; omega)
   | (exfalso; have := hat j (by omega) (by assumption); omega)
   | trace_state
 ·have hof := ofNoC_fn d R ch hd h
  refine startW (tm := [(0, _)]) Tryz.func6 rfl Tryz.ntmps6 rfl rfl rfl rfl ?_
  repeat' (first
 |(with_reducible refine K_ca 19 ?_); refine zC (hof) ?_
 |(with_reducible refine K_ca 11 ?_); refine zC (awake_fn) ?_
 |refine wA ?_
 |(refine wC ?_ ?_ <;> intro hc)
 |refine wB ?_ ?_
 |(with_reducible refine JL.block ?_)
 |(with_reducible refine F_at ?_); refine eW (vs := [(_, _)]) Tryz.results6 ?_; (focus (repeat' (first | exact oA | refine oB ?_ | refine oC ?_ ?_ | fail)))
 |exact oM
 |fail)
  all_goals first | rfl | (exfalso; omega) | trace_state
end Go.Proofs.YtdpeoolildjohaaGreatDoor

namespace Go.Proofs.YtdpeoolildjohaaGreatDoor
open Go.ChangeShapes Go.WideShapes Go.ChangeAt Go.RowKit Go.Joins Go.Deep
set_option linter.unusedSimpArgs false
set_option linter.unusedVariables false
set_option maxRecDepth 100000
theorem controllerFinish_lifted (os : Os) (started : os.Started) (H : Type) (enc : TypeId × Value → H) :
    ReturnsInHanded {} Tryz.checked os 6 .any (fun w args => (Rows.controllerFinishSpec.pre enc Tryz.prog Tryz.f6 [] false w args ∧ laidMetH Tryz.prog Rows.controllerFinishRow.laid w) ∧ sizedMet enc Tryz.prog Tryz.f6 (OpenSpec.ofChange Rows.controllerFinishSpec) false w args)
     (Rows.controllerFinishSpec.post enc Tryz.prog Tryz.f6 false true false false) := by
 refine returnsInHanded_of_change_and (C := Tryz.checked) (X := fun w _ => laidMetH Tryz.prog Rows.controllerFinishRow.laid w) (fun _ _ _ hh h => h.of_heap hh) own started (by kernel_rfl) Tryz.func6
  (ChangeSpec.witness_shaped (enc := enc) (C := Tryz.checked) (os := os) (X := fun w _ => laidMetH Tryz.prog Rows.controllerFinishRow.laid w) false (World.laidAll Tryz.prog os Rows.controllerFinishRow.laid) #[.agg #[.slice none 0 0, .slice none 0 0, .slice none 0 0, .slice none 0 0, .slice none 0 0, .slice none 0 0]] 8 rfl (World.shaped_of_ZipB (by kernel_rfl) (by kernel_rfl)) (by kernel_rfl) (by kernel_rfl) (by kernel_rfl)
   (by rw [MakeChecks.laidMetH_plain _ _ _ (by kernel_rfl)]; exact laidMet_laidAll _ (by kernel_rfl) (by kernel_rfl))) ?_
 intro W base args ds gs before hval hW hcnd hsz hL _
 have hW' := hW
 obtain ⟨p, q, hA0, hV, rfl, hfz, hnd⟩ := hW
 have hval' : ∀ (j : Nat) t v, Tryz.f6.params[j]? = some t → args[j]? = some v → Value.okWide Tryz.prog W .any base t v := hval
 have hA : DataW.TrodAll enc Tryz.prog W 0 (fun _ => true) true Tryz.f6.params.toList args.toList ds p := hA0
 rw [Tryz.params6] at hA hval'
 obtain ⟨v0, vs0, d0, ds0, p0, q0, hargs, rfl, rfl, h0, r0⟩ := trodAll_cons hA
 obtain ⟨rfl, rfl, rfl⟩ := trodAll_nil r0
 obtain rfl : args = #[v0] := by cases args; simp_all
 obtain ⟨x0, R0, ch0, a0, s0, t0, u0⟩ := open_case (S := S0) S0_all (hval' 0 51 v0 rfl rfl) (sz_arg hsz (j := 0) (t := 51) rfl rfl) h0
 have hC := calls_of_fn (xs := [(true, caseC x0 R0 ch0)]) (vals := [v0]) (w := W) (cfinish_law x0 R0 ch0 s0 t0 u0) rfl (fun i y hy => match i, hy with
  | 0, hy => by cases hy; exact a0 ρ0 _
  | _ + 1, hy => by cases hy)
 exact hC.mono fun e W' ⟨he, hb⟩ => ⟨_, he, law_post rfl laid (by kernel_rfl) (by kernel_rfl) Tryz.underlying4 hW' rfl hb⟩
theorem controllerFinish_row : Rows.ControllerFinishSaid :=
 OpenClaim.holds_of_wide 6 Tryz.f6 rfl rfl rfl rfl rfl rfl rfl ⟨rfl, rfl, rfl, rfl, rfl⟩ rfl rfl rfl rfl rfl (by kernel_rfl) Tryz.func6 (by kernel_rfl)
  (of_decide_eq_true (by kernel_rfl)) (by unfold Func.isWrapper; first | (rw [if_pos (by decide +kernel)]; kernel_rfl) | (rw [if_neg (by decide +kernel)]; exact ⟨rfl, rfl⟩))
  (fun os started H enc _ => controllerFinish_lifted os started H enc)
theorem controllerFinishCard_holds : Rows.ControllerFinishCardSaid :=
 Claim7.holds_tied_plain_at .later [] [.data, .data, .data] true Rows.controllerFinishCard.stood.harness false
  controllerFinish_row (fun _ h => by cases h) (by kernel_rfl) (fun _ h => by cases h) controllerFinish_row_tie rfl ⟨rfl, rfl⟩ (by kernel_rfl) rfl
  (fun f fn hf hfn => by
   obtain rfl : f = 6 := Option.some.inj ((show Tryz.prog.funcNamed Rows.controllerFinishRow.func = some 6 by kernel_rfl).symm.trans hf) |>.symm
   obtain rfl : fn = Tryz.f6 := (Option.some.inj (Tryz.func6.symm.trans hfn)).symm
   exact ⟨by kernel_rfl, fun j t ht => by
    rw [Tryz.params6] at ht
    have hm : t ∈ [51] := by simpa using Array.mem_of_getElem? ht
    have hall : ([51].all fun u => !Tryz.prog.wantsStandIn u) = true := by kernel_rfl
    exact (show Tryz.prog.wantsStandIn t = false by simpa using List.all_eq_true.1 hall t hm)⟩)
  (by kernel_rfl)
#print axioms controllerFinishCard_holds
end Go.Proofs.YtdpeoolildjohaaGreatDoor

