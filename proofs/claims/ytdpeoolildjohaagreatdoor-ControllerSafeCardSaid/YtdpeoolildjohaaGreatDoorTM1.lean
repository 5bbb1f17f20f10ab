/- Rows.ControllerSafeCardSaid: for every input the law returns true and leaves its arguments as they were. Condition (the card's own): the listed tables of Go's library hold what the program's text lays. -/
import Derived.LaidMore
import Derived.Lay
import Derived.SevenTiedAt
import Derived.Stop.Joined
import Derived.Stop.LaidErr
import Derived.Test.YtdpeoolildjohaaGreatDoorCards
import Derived.Test.YtdpeoolildjohaaGreatDoorQA14
import Derived.Test.YtdpeoolildjohaaGreatDoorQA24
import Derived.Test.YtdpeoolildjohaaGreatDoorQA27
import Derived.Test.YtdpeoolildjohaaGreatDoorTA39
import Derived.Test.YtdpeoolildjohaaGreatDoorTA40
import Derived.Test.YtdpeoolildjohaaGreatDoorTC1
import Derived.Test.YtdpeoolildjohaaGreatDoorTD1
import Derived.Test.YtdpeoolildjohaaGreatDoorTie
namespace Go.Proofs.YtdpeoolildjohaaGreatDoor
open Go Go.RowKit
set_option linter.unusedSimpArgs false
set_option linter.unusedVariables false
theorem abn_set : ∀ {xs : List Int} {i : Nat} {k : Nat}, 0 ≤ xs.getD i (-1) → k < 2 ^ openN (xs.set i (-1)) → ∃ j, j < 2 ^ openN xs ∧ abn (xs.set i (-1)) k = abn xs j
 | [], i, k, h, _ => by simp at h
 | x :: r, 0, k, h, hk => by
  have hx : 0 ≤ x := h
  have h1 : openN ((x :: r).set 0 (-1)) = openN r := by show (if 0 ≤ (-1 : Int) then 1 else 0) + openN r = _; rw [if_neg (by decide)]; omega
  have h2 : openN (x :: r) = 1 + openN r := by show (if 0 ≤ x then 1 else 0) + openN r = _; rw [if_pos hx]
  rw [h1] at hk
  refine ⟨2 * k + 1, by rw [h2, Nat.pow_add]; omega, ?_⟩
  show abn (-1 :: r) k = abn (x :: r) (2 * k + 1)
  unfold abn
  rw [if_neg (by decide), if_pos hx, if_pos (by omega), show (2 * k + 1) / 2 = k by omega]
 | x :: r, i + 1, k, h, hk => by
  have h' : 0 ≤ r.getD i (-1) := h
  have h1 : openN ((x :: r).set (i + 1) (-1)) = (if 0 ≤ x then 1 else 0) + openN (r.set i (-1)) := rfl
  have h2 : openN (x :: r) = (if 0 ≤ x then 1 else 0) + openN r := rfl
  by_cases hx : 0 ≤ x
  ·rw [h1, if_pos hx, Nat.pow_add] at hk
   obtain ⟨j, j1, j2⟩ := abn_set (i := i) (k := k / 2) h' (by omega)
   refine ⟨2 * j + k % 2, by rw [h2, if_pos hx, Nat.pow_add]; omega, ?_⟩
   show abn (x :: r.set i (-1)) k = abn (x :: r) (2 * j + k % 2)
   unfold abn
   rw [if_pos hx, if_pos hx, j2, show (2 * j + k % 2) / 2 = j by omega, show (2 * j + k % 2) % 2 = k % 2 by omega]
  ·rw [h1, if_neg hx, Nat.zero_add] at hk
   obtain ⟨j, j1, j2⟩ := abn_set (i := i) (k := k) h' hk
   refine ⟨j, by rw [h2, if_neg hx, Nat.zero_add]; exact j1, ?_⟩
   show abn (x :: r.set i (-1)) k = abn (x :: r) j
   unfold abn
   rw [if_neg hx, if_neg hx, j2]
theorem robust_set {p : Prob} {m : MixD} {i : Nat} (h : robustP p m = true) (hi : 0 ≤ m.next.getD i (-1)) : robustP p ⟨m.base, m.next.set i (-1), m.held⟩ = true := by
 unfold robustP allP at h ⊢
 rw [List.all_eq_true] at h ⊢
 intro x hx
 obtain ⟨k, hk, rfl⟩ := List.mem_map.1 hx
 obtain ⟨j, j1, j2⟩ := abn_set hi (List.mem_range.1 hk)
 have e : abM ⟨m.base, m.next.set i (-1), m.held⟩ k = abM m j := by unfold abM; dsimp only; rw [j2]
 rw [e]
 exact h _ (List.mem_map.2 ⟨j, List.mem_range.2 j1, rfl⟩)
theorem blame_safe {p : Prob} {m : MixD} (he : mixErr p m = 0) (h : ¬ (blameP p m).2.2 = 0) : robustP p m = true := by
 unfold blameP at h
 rw [if_neg (by simpa using he), blameL_code] at h
 unfold robustP
 split at h
 ·assumption
 ·exact absurd rfl h
theorem tr_rob {p : Prob} : ∀ {l : List StepD} {m : MixD} {i : Int}, (failL p m l i).2.2.2 = 15 → robustP p m = true → (∀ k, k ≤ l.length → mixErr p ((tr p m l).getD k nilM) = 0) → ∀ k, k ≤ l.length → robustP p ((tr p m l).getD k nilM) = true
 | l, m, i, _, hm, _, 0, _ => by rw [tr_0]; exact hm
 | [], _, _, _, _, _, k + 1, hk => by simp at hk
 | s :: r, m, i, h, hm, hv, k + 1, hk => by
  unfold failL at h
  split at h
  ·cases h
  ·rename_i h1
   split at h
   ·cases h
   ·rename_i h2
    have e1 : mixErr p (applyP p m s).1 = 0 := by
     have := hv 1 (by simp)
     rw [show (tr p m (s :: r)).getD 1 nilM = (tr p (applyP p m s).1 r).getD 0 nilM from rfl, tr_0] at this
     exact this
    exact tr_rob h (blame_safe e1 h2) (fun j hj => hv (j + 1) (by simp; omega)) k (by simpa using hk)
theorem plan_rob {p : Prob} {l : List StepD} (hv : vpErr p = 0) (h : checkP p l = true) {k : Nat} (hk : k ≤ l.length) : robustP p ((mixesP p l).getD k nilM) = true := by
 have hpv := planV_of hv h
 have hp := planOK_of hv (start_err hv) h
 have h := of_decide_eq_true h
 unfold failP at h
 rw [if_neg (by simpa using hv)] at h
 split at h
 ·cases h
 ·rename_i h2
  rw [hp.mix]
  exact tr_rob h (blame_safe (start_err hv) h2) (fun j hj => by rw [← hp.mix]; exact hpv.valid hj) k hk
theorem CtlK.robust {p : Prob} {c : CtlD} (h : CtlK p c) (hv : vpErr p = 0) (hc : checkP p c.plan = true) : robustP p c.mix = true := by
 have hr := h.rng
 have hps := h.phs
 have ab : ¬ c.phase = 6 → (present c).kind = 1 → robustP p (abortedP p c.plan c.at_) = true := fun h6 k => by
  have hlt := h.lt h6
  obtain ⟨a1, a2, a3⟩ := h.plan.abort ⟨hr.1, hlt⟩ k
  have hst := (h.plan.step (k := c.at_.toNat) (by omega)).1
  have hvm := plan_rob hv hc (k := (c.at_ + 1).toNat) (by omega)
  have hg := h.plan.g (k := (c.at_ + 1).toNat) (by omega)
  have hsv := hst.svc (by have : (c.plan.getD c.at_.toNat nilS).kind = 1 := k; omega)
  have hnn := hst.nn
  rw [after4 (by show ¬ (4 : Int) = 1; decide) (by show ¬ (4 : Int) = 2; decide) (by show ¬ (4 : Int) = 3; decide)] at a3
  split at a3
  ·cases a3
  ·rename_i hn
   have e := Option.some.inj a3
   rw [← e]
   refine robust_set hvm ?_
   have hln := hg.inn.ln
   have hlt2 : (c.plan.getD c.at_.toNat nilS).idx.toNat < ((mixesP p c.plan).getD (c.at_ + 1).toNat nilM).next.length := by omega
   have e2 : ∀ d : Int, ((mixesP p c.plan).getD (c.at_ + 1).toNat nilM).next.getD (c.plan.getD c.at_.toNat nilS).idx.toNat d = ((mixesP p c.plan).getD (c.at_ + 1).toNat nilM).next[(c.plan.getD c.at_.toNat nilS).idx.toNat] := fun d => by rw [List.getD_eq_getElem?_getD, List.getElem?_eq_getElem hlt2]; rfl
   have hn' : ¬ ((mixesP p c.plan).getD (c.at_ + 1).toNat nilM).next.getD (c.plan.getD c.at_.toNat nilS).idx.toNat 0 < 0 := hn
   show 0 ≤ ((mixesP p c.plan).getD (c.at_ + 1).toNat nilM).next.getD (c.plan.getD c.at_.toNat nilS).idx.toNat (-1)
   rw [e2] at hn' ⊢
   omega
 by_cases h6 : c.phase = 6
 ·rw [h.ph6 h6]; exact plan_rob hv hc (by omega)
 ·have hlt := h.lt h6
  have : c.phase = 0 ∨ c.phase = 1 ∨ c.phase = 2 ∨ c.phase = 3 ∨ c.phase = 4 ∨ c.phase = 5 := by omega
  rcases this with a | a | a | a | a | a
  ·rcases h.ph0 a with b | ⟨k, b⟩
   ·rw [b]; exact plan_rob hv hc (by omega)
   ·rw [b]; exact ab h6 k
  ·rcases h.ph1 a with ⟨_, b⟩ | ⟨_, b⟩ <;> (rw [b]; exact plan_rob hv hc (by omega))
  ·rw [(h.ph2 (.inl a)).2]; exact plan_rob hv hc (by omega)
  ·rw [(h.ph2 (.inr a)).2]; exact plan_rob hv hc (by omega)
  ·rw [(h.ph4 a).2]; exact plan_rob hv hc (by omega)
  ·rw [(h.ph5 a).2]; exact ab h6 (h.ph5 a).1
end Go.Proofs.YtdpeoolildjohaaGreatDoor

namespace Go.Proofs.YtdpeoolildjohaaGreatDoor
open Go Go.RowKit
set_option linter.unusedSimpArgs false
set_option linter.unusedVariables false
def FormA (c d : CtlD) (l : List ActD) : Prop := ∃ (E : List ActD) (r : Bool), l = E ++ (if r = true then repeatP d else []) ∧ ((E = [] ∧ d.round = c.round) ∨ (∃ x, E = [x] ∧ x.kind = 1 ∧ x.ent.token = d.token ∧ x.ent.idx = c.at_ ∧ d.round = w64 (c.round + 1)))
theorem form_tick {p : Prob} {rs : List Int} {c : CtlD} : FormA c (tickP p rs c).1 (tickP p rs c).2 := by
 unfold tickP
 split
 ·exact ⟨[], true, rfl, .inl ⟨rfl, rfl⟩⟩
 ·exact ⟨[entA c 1], true, rfl, .inr ⟨_, rfl, rfl, rfl, rfl, rfl⟩⟩
theorem next_form {p : Prob} {rs : List Int} {c : CtlD} {s : SigD} : FormA c (nextP p rs c s).1 (nextP p rs c s).2 := by
 unfold nextP
 split
 ·split
  ·exact ⟨[], false, rfl, .inl ⟨rfl, rfl⟩⟩
  ·exact form_tick (c := { c with token := s.token })
 ·split
  ·exact ⟨[], false, rfl, .inl ⟨rfl, rfl⟩⟩
  ·split
   ·exact ⟨[], false, rfl, .inl ⟨rfl, rfl⟩⟩
   ·split
    ·exact form_tick
    ·split
     ·unfold ackP
      split
      ·exact ⟨[], false, rfl, .inl ⟨rfl, rfl⟩⟩
      ·split
       ·exact ⟨[], false, rfl, .inl ⟨rfl, rfl⟩⟩
       ·split
        ·exact ⟨[], true, rfl, .inl ⟨rfl, rfl⟩⟩
        ·split
         ·exact ⟨[entA c 2], false, rfl, .inr ⟨_, rfl, rfl, rfl, rfl, rfl⟩⟩
         ·exact ⟨[], true, rfl, .inl ⟨rfl, rfl⟩⟩
     ·split
      ·split
       ·exact ⟨[entA c 2], false, rfl, .inr ⟨_, rfl, rfl, rfl, rfl, rfl⟩⟩
       ·exact ⟨[entA c 3], true, rfl, .inr ⟨_, rfl, rfl, rfl, rfl, rfl⟩⟩
      ·split
       ·exact ⟨[entA c 2], false, rfl, .inr ⟨_, rfl, rfl, rfl, rfl, rfl⟩⟩
       ·split
        ·exact ⟨[entA c 4], false, rfl, .inr ⟨_, rfl, rfl, rfl, rfl, rfl⟩⟩
        ·exact ⟨[], false, rfl, .inl ⟨rfl, rfl⟩⟩
theorem run_tab : ((List.range 7).all fun (b : Nat) => (List.range 7).all fun (n : Nat) => hasV (runV b n) b && hasV (runV b n) n && hasV (runV b (-1)) b) = true := by decide +kernel
theorem run_has {b n : Int} (hb : 0 ≤ b ∧ b ≤ 6) (hn : -1 ≤ n ∧ n ≤ 6) : hasV (runV b n) b = true ∧ (0 ≤ n → hasV (runV b n) n = true) := by
 have h := List.all_eq_true.1 run_tab b.toNat (List.mem_range.2 (by omega))
 by_cases h0 : 0 ≤ n
 ·have h := List.all_eq_true.1 h n.toNat (List.mem_range.2 (by omega))
  simp only [Bool.and_eq_true] at h
  rw [show ((b.toNat : Nat) : Int) = b by omega, show ((n.toNat : Nat) : Int) = n by omega] at h
  exact ⟨h.1.1, fun _ => h.1.2⟩
 ·have h := List.all_eq_true.1 h 0 (List.mem_range.2 (by omega))
  simp only [Bool.and_eq_true] at h
  rw [show ((b.toNat : Nat) : Int) = b by omega] at h
  obtain rfl : n = -1 := by omega
  exact ⟨h.2, fun h => absurd h (by decide)⟩
theorem CtlK.want {p : Prob} {c : CtlD} (h : CtlK p c) (hp : c.phase = 1 ∨ c.phase = 3) : ¬ (present c).kind = 3 ∧ 0 ≤ wantedP c ∧ wantedP c < p.vs.getD (present c).idx.toNat 0 ∧ hasV (runS c.mix (present c).idx) (wantedP c) = true := by
 have hlt := h.lt (by omega)
 have hr := h.rng
 have hk3 : ¬ (present c).kind = 3 := by
  rcases hp with a | a
  ·rcases h.ph1 a with b | b <;> omega
  ·have := (h.ph2 (.inr a)).1; omega
 have hi := h.svc (by omega) hk3
 have hg := h.g
 have hrg := hg.inn.rng (present c).idx.toNat (by omega)
 have hvs := (vp_all hg.inn.vp)
 have hv6 : p.vs.getD (present c).idx.toNat 0 ≤ 6 := (hvs.2.2.2.2 _ (by omega)).1.2
 have hn0 : c.phase = 1 → 0 ≤ c.mix.next.getD (present c).idx.toNat 0 := fun a => by
  rcases h.ph1 a with ⟨k, m⟩ | ⟨k, m⟩
  ·obtain ⟨a1, a2, a3⟩ := h.plan.abort ⟨hr.1, hlt⟩ k
   rw [after4 (by show ¬ (4 : Int) = 1; decide) (by show ¬ (4 : Int) = 2; decide) (by show ¬ (4 : Int) = 3; decide)] at a3
   split at a3
   ·cases a3
   ·rename_i hn
    rw [m]
    have hn' : ¬ ((mixesP p c.plan).getD (c.at_ + 1).toNat nilM).next.getD (present c).idx.toNat 0 < 0 := hn
    omega
  ·have ha := h.plan.after (k := c.at_.toNat) (by omega)
   have k' : (c.plan.getD c.at_.toNat nilS).kind = 2 := k
   unfold afterP at ha
   rw [if_neg (by omega), if_pos k'] at ha
   split at ha
   ·cases ha
   ·rename_i hn
    rw [m]
    have hn' : ¬ ((mixesP p c.plan).getD c.at_.toNat nilM).next.getD (present c).idx.toNat 0 < 0 := hn
    omega
 have hh := run_has (b := c.mix.base.getD (present c).idx.toNat 0) (n := c.mix.next.getD (present c).idx.toNat 0) (by omega) (by omega)
 refine ⟨hk3, ?_⟩
 unfold wantedP runS
 rcases hp with a | a
 ·have := hn0 a
  rw [if_neg (by omega)]
  exact ⟨this, hrg.2.2, hh.2 this⟩
 ·rw [if_pos a]
  exact ⟨hrg.1.1, hrg.1.2, hh.1⟩
end Go.Proofs.YtdpeoolildjohaaGreatDoor

namespace Go.Proofs.YtdpeoolildjohaaGreatDoor
open Go Go.RowKit
set_option linter.unusedSimpArgs false
set_option linter.unusedVariables false
def moreAt (p : Prob) (rs : List Int) (c : CtlD) (ms : List Int) : Nat → CtlD
 | 0 => c
 | k + 1 => (nextP p rs (moreAt p rs c ms k) (usefulP (moreAt p rs c ms k) (ms.getD k 0))).1
def moreL (p : Prob) (rs : List Int) (c : CtlD) (ms : List Int) (k : Nat) : List ActD := (nextP p rs (moreAt p rs c ms k) (usefulP (moreAt p rs c ms k) (ms.getD k 0))).2
theorem moreAt_k {p : Prob} {rs : List Int} {l : List StepD} {c : CtlD} {ms : List Int} {n : Int} (h : SigK p rs l c n) (hs : setErr p rs = 0) (hl : l.length ≤ 1000000) : ∀ k : Nat, n + (k : Int) ≤ 50000000 → SigK p rs l (moreAt p rs c ms k) (n + k)
 | 0, _ => by simpa [moreAt] using h
 | k + 1, hk => by
  have a := moreAt_k (ms := ms) h hs hl k (by omega)
  have := a.next (usefulP (moreAt p rs c ms k) (ms.getD k 0)) (by omega) hs hl
  show SigK p rs l (nextP p rs (moreAt p rs c ms k) (usefulP (moreAt p rs c ms k) (ms.getD k 0))).1 (n + ((k + 1 : Nat) : Int))
  rw [show n + ((k + 1 : Nat) : Int) = n + (k : Int) + 1 by omega]
  exact this
def cntE : List ActD → Nat → Int
 | _, 0 => 0
 | [], _ + 1 => 0
 | a :: r, k + 1 => (if a.kind = 1 then 1 else 0) + cntE r k
theorem cntE_0 {l : List ActD} : cntE l 0 = 0 := by cases l <;> rfl
theorem cntE_y : ∀ {l : List ActD} {k : Nat}, k < l.length → (l.getD k nilA).kind = 1 → cntE l (k + 1) = cntE l k + 1
 | [], _, h, _ => by simp at h
 | a :: r, 0, _, h => by
  have h' : a.kind = 1 := h
  show (if a.kind = 1 then 1 else 0) + cntE r 0 = 0 + 1
  rw [if_pos h', cntE_0]; rfl
 | a :: r, k + 1, hk, h => by
  have := cntE_y (l := r) (k := k) (by simpa using hk) h
  show (if a.kind = 1 then 1 else 0) + cntE r (k + 1) = (if a.kind = 1 then 1 else 0) + cntE r k + 1
  omega
theorem cntE_n : ∀ {l : List ActD} {k : Nat}, k < l.length → ¬ (l.getD k nilA).kind = 1 → cntE l (k + 1) = cntE l k
 | [], _, h, _ => by simp at h
 | a :: r, 0, _, h => by
  have h' : ¬ a.kind = 1 := h
  show (if a.kind = 1 then 1 else 0) + cntE r 0 = 0
  rw [if_neg h', cntE_0]; rfl
 | a :: r, k + 1, hk, h => by
  have := cntE_n (l := r) (k := k) (by simpa using hk) h
  show (if a.kind = 1 then 1 else 0) + cntE r (k + 1) = (if a.kind = 1 then 1 else 0) + cntE r k
  omega
theorem cntE_le : ∀ {l : List ActD} {k : Nat}, 0 ≤ cntE l k ∧ cntE l k ≤ k
 | l, 0 => by rw [cntE_0]; decide
 | [], k + 1 => by show (0 : Int) ≤ 0 ∧ (0 : Int) ≤ _; omega
 | a :: r, k + 1 => by
  have := cntE_le (l := r) (k := k)
  show 0 ≤ (if a.kind = 1 then 1 else 0) + cntE r k ∧ (if a.kind = 1 then 1 else 0) + cntE r k ≤ _
  split <;> omega
structure SafeA (c d : CtlD) (l : List ActD) : Prop where
 ent : ∀ k, k < l.length → (l.getD k nilA).kind = 1 → k = 0 ∧ (l.getD k nilA).ent.token = d.token ∧ (l.getD k nilA).ent.idx = c.at_
 rnd : ∀ k, k < l.length → ¬ (l.getD k nilA).kind = 1 → (l.getD k nilA).round = d.round
 cmd : ∀ k, k < l.length → (l.getD k nilA).kind = 2 → (d.phase = 1 ∨ d.phase = 3) ∧ (l.getD k nilA).replica = d.replica ∧ (l.getD k nilA).ver = wantedP d
 cnt : d.round = w64 (c.round + cntE l l.length)
theorem rep_cases (d : CtlD) : repeatP d = [] ∨ ∃ y, repeatP d = [y] ∧ ¬ y.kind = 1 ∧ y.round = d.round ∧ (y.kind = 2 → (d.phase = 1 ∨ d.phase = 3) ∧ y.replica = d.replica ∧ y.ver = wantedP d) := by
 unfold repeatP
 split
 ·rename_i h
  exact .inr ⟨_, rfl, by show ¬ (2 : Int) = 1; decide, rfl, fun _ => ⟨h, rfl, rfl⟩⟩
 ·split
  ·exact .inr ⟨_, rfl, by show ¬ (3 : Int) = 1; decide, rfl, fun h => absurd h (by show ¬ (3 : Int) = 2; decide)⟩
  ·split
   ·exact .inr ⟨_, rfl, by show ¬ (4 : Int) = 1; decide, rfl, fun h => absurd h (by show ¬ (4 : Int) = 2; decide)⟩
   ·exact .inl rfl
theorem safe_nil {c d : CtlD} (h : d.round = w64 (c.round + 0)) : SafeA c d [] := ⟨fun k hk => by simp at hk, fun k hk => by simp at hk, fun k hk => by simp at hk, h⟩
theorem safe_rep {c d : CtlD} {y : ActD} (h1 : ¬ y.kind = 1) (h2 : y.round = d.round) (h3 : y.kind = 2 → (d.phase = 1 ∨ d.phase = 3) ∧ y.replica = d.replica ∧ y.ver = wantedP d) (h : d.round = w64 (c.round + 0)) : SafeA c d [y] :=
 ⟨fun | 0, _, e => absurd e h1 | k + 1, hk, _ => by simp at hk, fun | 0, _, _ => h2 | k + 1, hk, _ => by simp at hk, fun | 0, _, e => h3 e | k + 1, hk, _ => by simp at hk, by
  show d.round = w64 (c.round + ((if y.kind = 1 then 1 else 0) + cntE [] 0))
  rw [if_neg h1, cntE_0]; exact h⟩
theorem safe_ent {c d : CtlD} {x : ActD} (e1 : x.kind = 1) (e2 : x.ent.token = d.token) (e3 : x.ent.idx = c.at_) (h : d.round = w64 (c.round + 1)) : SafeA c d [x] :=
 ⟨fun | 0, _, e => ⟨rfl, e2, e3⟩ | k + 1, hk, _ => by simp at hk, fun | 0, _, e => absurd e1 e | k + 1, hk, _ => by simp at hk, fun | 0, _, e => by (have e' : x.kind = 2 := e); omega | k + 1, hk, _ => by simp at hk, by
  show d.round = w64 (c.round + ((if x.kind = 1 then 1 else 0) + cntE [] 0))
  rw [if_pos e1, cntE_0]; exact h⟩
theorem safe_both {c d : CtlD} {x y : ActD} (e1 : x.kind = 1) (e2 : x.ent.token = d.token) (e3 : x.ent.idx = c.at_) (h1 : ¬ y.kind = 1) (h2 : y.round = d.round) (h3 : y.kind = 2 → (d.phase = 1 ∨ d.phase = 3) ∧ y.replica = d.replica ∧ y.ver = wantedP d) (h : d.round = w64 (c.round + 1)) : SafeA c d [x, y] :=
 ⟨fun | 0, _, e => ⟨rfl, e2, e3⟩ | 1, _, e => absurd e h1 | k + 2, hk, _ => by (have : k + 2 < 2 := hk); omega, fun | 0, _, e => absurd e1 e | 1, _, _ => h2 | k + 2, hk, _ => by (have : k + 2 < 2 := hk); omega, fun | 0, _, e => by (have e' : x.kind = 2 := e); omega | 1, _, e => h3 e | k + 2, hk, _ => by (have : k + 2 < 2 := hk); omega, by
  show d.round = w64 (c.round + ((if x.kind = 1 then 1 else 0) + ((if y.kind = 1 then 1 else 0) + cntE [] 0)))
  rw [if_pos e1, if_neg h1, cntE_0]; exact h⟩
theorem form_safe {c d : CtlD} {l : List ActD} (hc : -1000000000 ≤ c.round ∧ c.round ≤ 1000000000) (h : FormA c d l) : SafeA c d l := by
 obtain ⟨E, r, rfl, h⟩ := h
 have z : c.round = w64 (c.round + 0) := by rw [Int.add_zero]; unfold w64; rw [wrapI (by omega)]
 rcases h with ⟨rfl, h⟩ | ⟨x, rfl, e1, e2, e3, h⟩
 ·cases r with
  | false => exact safe_nil (h.trans z)
  | true =>
   rw [if_pos rfl, List.nil_append]
   rcases rep_cases d with e | ⟨y, e, h1, h2, h3⟩
   ·rw [e]; exact safe_nil (h.trans z)
   ·rw [e]; exact safe_rep h1 h2 h3 (h.trans z)
 ·cases r with
  | false => exact safe_ent e1 e2 e3 h
  | true =>
   rw [if_pos rfl]
   rcases rep_cases d with e | ⟨y, e, h1, h2, h3⟩
   ·rw [e]; exact safe_ent e1 e2 e3 h
   ·rw [e]; exact safe_both e1 e2 e3 h1 h2 h3 h
end Go.Proofs.YtdpeoolildjohaaGreatDoor

namespace Go.Proofs.YtdpeoolildjohaaGreatDoor
open Go Go.RowKit
set_option maxRecDepth 100000
set_option maxHeartbeats 8000000
set_option linter.unusedSimpArgs false
set_option linter.unusedVariables false
theorem same2_fn (a b : CtlD) (hp : a.plan = b.plan) (hl : a.plan.length ≤ 1000000) (ha : Few a.mix) (ua : u8s a.mix.held) (hb : Few b.mix) (ub : u8s b.mix.held) : FnSound Tryz.prog 17 [.val true (ctlC a), .val true (ctlC b)] [] { vals := [(false, [.d (.v (.bool (a.at_ == b.at_ && a.phase == b.phase && a.replica == b.replica && a.round == b.round && a.token == b.token && decide (a.mix = b.mix))))])] } := by
 have he := equal_fn a.mix b.mix ha hb ua ub
 have hs := same37_fn a.plan hl
 have hs2 : FnSound Tryz.prog 50 [.val false [.d (.sl 3 (dSteps a.plan))], .val false [.d (.sl 3 (dSteps b.plan))]] [] { vals := [(false, [.d (.v (.bool true))])] } := by rw [← hp]; exact hs
 refine startW (tm := [(0, _), (1, _)]) Tryz.func17 rfl Tryz.ntmps17 rfl rfl rfl rfl ?_
 repeat' (first
 |(with_reducible refine K_ca 50 ?_); refine zC (hs2) ?_
 |(with_reducible refine K_ca 36 ?_); refine zC (he) ?_
 |refine wA ?_
 |(refine wC ?_ ?_ <;> intro hc)
 |refine wB ?_ ?_
 |(with_reducible refine JL.block ?_)
 |(with_reducible refine F_at ?_); refine eW (vs := [(_, _)]) Tryz.results17 ?_; (focus (repeat' (first | exact oA | refine oB ?_ | refine oC ?_ ?_ | fail)))
 |exact oM
 |fail)
 all_goals first | rfl | (exfalso; omega) | (simp [*]; done) | trace_state
def SafeX (p : Prob) (rs : List Int) (c d : CtlD) (a : ActD) (k : Nat) : Prop :=
 (a.kind = 1 → k = 0 ∧ a.ent.token = d.token ∧ a.ent.idx = c.at_) ∧ (¬ a.kind = 1 → a.round = d.round)
 ∧ (a.kind = 2 → 0 ≤ d.at_ ∧ d.at_ < d.plan.length ∧ ¬ (d.plan.getD d.at_.toNat nilS).kind = 3 ∧ 0 ≤ (d.plan.getD d.at_.toNat nilS).idx ∧ (d.plan.getD d.at_.toNat nilS).idx < p.vs.length ∧ rs.length = p.vs.length
  ∧ firstR rs (d.plan.getD d.at_.toNat nilS).idx ≤ a.replica ∧ a.replica < firstR rs (d.plan.getD d.at_.toNat nilS).idx + rs.getD (d.plan.getD d.at_.toNat nilS).idx.toNat 0 ∧ 0 ≤ firstR rs (d.plan.getD d.at_.toNat nilS).idx ∧ a.replica ≤ 1000000000
  ∧ 0 ≤ a.ver ∧ a.ver < p.vs.getD (d.plan.getD d.at_.toNat nilS).idx.toNat 0)
theorem safe_x {p : Prob} {rs : List Int} {l : List StepD} {c d : CtlD} {acts : List ActD} {n : Int} (h : SigK p rs l d n) (hn : 0 ≤ n ∧ n ≤ 100000000) (hs : setErr p rs = 0) (hsa : SafeA c d acts) (k : Nat) (hk : k < acts.length) : SafeX p rs c d (acts.getD k nilA) k := by
 refine ⟨hsa.ent k hk, hsa.rnd k hk, fun h2 => ?_⟩
 obtain ⟨hp, hr, hv⟩ := hsa.cmd k hk h2
 have hso := setErr_ok hs
 have hlt := h.ck.lt (by omega)
 have hrg := h.ck.rng
 obtain ⟨w1, w2, w3, w4⟩ := h.ck.want hp
 have hsv := h.ck.svc (by omega) w1
 have hst := (h.ck.st (by omega)).2
 have hrs := hso.2.2 (present d).idx.toNat (by have := hso.2.1; omega)
 have hrp := h.b.rp
 have hfr : firstR rs (present d).idx ≤ d.replica ∧ d.replica < firstR rs (present d).idx + rs.getD (present d).idx.toNat 0 := by
  by_cases k2 : (present d).kind = 2
  ·by_cases h1 : d.phase = 1
   ·have := h.cr.some_ h1 k2; omega
   ·have := (h.ck.ph2 (.inr (by omega))).1; omega
  ·have := h.cr.busy (by omega) k2; omega
 rw [hr, hv]
 have hvp := vp_all hso.1
 have hf0 := (firstR_rng hso.2.2 (by omega) (present d).idx).1
 exact ⟨by omega, hlt, w1, hsv.1, hsv.2.1, hso.2.1, hfr.1, hfr.2, hf0, by omega, w2, w3⟩
theorem safe_law (d : DraftD) (R ch ms : List Int) (hd : draftOK d) (hR : u8s R) (hch : u8s ch) (hms : u8s ms) : FnSound Tryz.prog 5 [.val true (caseC d R ch), .val false [.d (.sl 1 (dSets ms))]] [] { vals := [(false, [.d (.v (.bool true))])] } := by
 by_cases h : caseOK d = true ∧ ch.length ≤ 40
 ·have hof := ofC_fn d R ch hd hR hch h.1 h.2
  by_cases h30 : ms.length ≤ 30
  ·obtain ⟨k0, k1, k2, k3, hk⟩ := now_k hd hR hch h.1
   have hK := hk ch.length (by omega)
   have h40 := h.2
   generalize nowAt d R ch ch.length = c at hof hK
   generalize hp : ofP d = p at *
   generalize hr : repsP R p.vs.length = rs at *
   generalize hl : (findP p).1 = l at *
   have hso := setErr_ok k3
   have hvp := vp_all k0
   have huc := u8_get hms
   have hfk := fun (j : Nat) (hj : j ≤ 1000) => moreAt_k (ms := ms) hK k3 (by omega) j (by omega)
   have hus : ∀ j : Nat, j ≤ 100 → FnSound Tryz.prog 25 [.val true (ctlC (moreAt p rs c ms j)), .val false [.d (.v (.int .u8 (ms.getD j 0)))]] [] { vals := [(true, sigC (usefulP (moreAt p rs c ms j) (ms.getD j 0)))] } := fun j hj => useful_fn p (moreAt p rs c ms j) (ms.getD j 0) (hfk j (by omega)).ck (by rw [(hfk j (by omega)).b.plan]; omega) (huc j)
   have hst : ∀ j : Nat, j ≤ 100 → FnSound Tryz.prog 24 [.val true (probC p), .val false [.d (.sl 1 (dInts rs))], .val true (ctlC (moreAt p rs c ms j)), .val true (sigC (usefulP (moreAt p rs c ms j) (ms.getD j 0)))] [] { vals := [(true, ctlC (moreAt p rs c ms (j + 1))), (false, [.d (.sl 10 (dActs (moreL p rs c ms j)))]), (false, [.d (.v (.int .i64 0))])] } := fun j hj => by
    have e := (hfk j (by omega)).b.plan
    exact pstep_fn p rs (moreAt p rs c ms j) (usefulP (moreAt p rs c ms j) (ms.getD j 0)) (ch.length + j) (by rw [e]; exact hfk j (by omega)) (by omega) k3 (by rw [e]; exact k1) (by rw [e]; omega)
   have her : ∀ j : Nat, j ≤ 100 → FnSound Tryz.prog 26 [.val true (probC p), .val false [.d (.sl 1 (dInts rs))], .val true (ctlC (moreAt p rs c ms j))] [] { vals := [(false, [.d (.v (.int .i64 0))])] } := fun j hj => by
    have a := hfk j (by omega)
    have e := a.b.plan
    have e2 := a.b.rd
    exact error_fn p rs (moreAt p rs c ms j) a.ck a.cr (by rw [e]; exact k1) k3 (by rw [e]; omega) (by omega)
   have hsm : ∀ j : Nat, ∃ bo : Bool, j ≤ 100 → FnSound Tryz.prog 17 [.val true (ctlC (moreAt p rs c ms (j + 1))), .val true (ctlC (moreAt p rs c ms j))] [] { vals := [(false, [.d (.v (.bool bo))])] } := fun j => ⟨_, fun hj => by
    have a := hfk j (by omega)
    have b := hfk (j + 1) (by omega)
    exact same2_fn (moreAt p rs c ms (j + 1)) (moreAt p rs c ms j) (by rw [a.b.plan, b.b.plan]) (by rw [b.b.plan]; omega) b.ck.g.few b.ck.g.u a.ck.g.few a.ck.g.u⟩
   have hrb : ∀ j : Nat, j ≤ 100 → FnSound Tryz.prog 27 [.val true (probC p), .val true (mixC (moreAt p rs c ms j).mix)] [] { vals := [(false, [.d (.v (.bool true))])] } := fun j hj => by
    have a := hfk j (by omega)
    have g := robust_fn p (moreAt p rs c ms j).mix a.ck.g.inn
    rw [a.ck.robust k0 (by rw [a.b.plan]; exact k1)] at g
    exact g
   have hsx : ∀ j : Nat, j ≤ 100 → ∀ i : Nat, i < (moreL p rs c ms j).length → SafeX p rs (moreAt p rs c ms j) (moreAt p rs c ms (j + 1)) ((moreL p rs c ms j).getD i nilA) i := fun j hj i hi => by
    have a := hfk j (by omega)
    have e2 := a.b.rd
    exact safe_x (hfk (j + 1) (by omega)) (by omega) k3 (form_safe (by omega) next_form) i hi
   have hct : ∀ j : Nat, j ≤ 100 → (moreAt p rs c ms (j + 1)).round = (moreAt p rs c ms j).round + cntE (moreL p rs c ms j) (moreL p rs c ms j).length ∧ (moreL p rs c ms j).length ≤ 2 ∧ 0 ≤ (moreAt p rs c ms j).round ∧ (moreAt p rs c ms j).round ≤ 1000 := fun j hj => by
    have a := hfk j (by omega)
    have e2 := a.b.rd
    have e3 := (form_safe (c := moreAt p rs c ms j) (by omega) (next_form (p := p) (rs := rs) (s := usefulP (moreAt p rs c ms j) (ms.getD j 0)))).cnt
    have e4 := cntE_le (l := moreL p rs c ms j) (k := (moreL p rs c ms j).length)
    have e5 : (moreL p rs c ms j).length ≤ 2 := next_len
    refine ⟨e3.trans ?_, e5, by omega, by omega⟩
    unfold w64
    exact wrapI (by show _ ≤ (moreAt p rs c ms j).round + cntE (moreL p rs c ms j) (moreL p rs c ms j).length ∧ (moreAt p rs c ms j).round + cntE (moreL p rs c ms j) (moreL p rs c ms j).length ≤ _; omega)
   have hfi : ∀ j i : Nat, j ≤ 100 → i < (moreL p rs c ms j).length → ((moreL p rs c ms j).getD i nilA).kind = 2 → FnSound Tryz.prog 28 [.val false [.d (.sl 1 (dInts rs))], .val false [.d (.v (.int .i64 ((moreAt p rs c ms (j + 1)).plan.getD (moreAt p rs c ms (j + 1)).at_.toNat nilS).idx))]] [] { vals := [(false, [.d (.v (.int .i64 (firstR rs ((moreAt p rs c ms (j + 1)).plan.getD (moreAt p rs c ms (j + 1)).at_.toNat nilS).idx)))])] } := fun j i hj hi h2 => by
    have := (hsx j hj i hi).2.2 h2
    exact first_fn rs _ (by omega) hso.2.2 (by omega)
   have hru : ∀ j i : Nat, j ≤ 100 → i < (moreL p rs c ms j).length → ((moreL p rs c ms j).getD i nilA).kind = 2 → FnSound Tryz.prog 30 [.val true (mixC (moreAt p rs c ms (j + 1)).mix), .val false [.d (.v (.int .i64 ((moreAt p rs c ms (j + 1)).plan.getD (moreAt p rs c ms (j + 1)).at_.toNat nilS).idx))]] [] { vals := [(false, [.d (.v (.int .u8 (runS (moreAt p rs c ms (j + 1)).mix ((moreAt p rs c ms (j + 1)).plan.getD (moreAt p rs c ms (j + 1)).at_.toNat nilS).idx)))])] } := fun j i hj hi h2 => by
    have := (hsx j hj i hi).2.2 h2
    have hin := (hfk (j + 1) (by omega)).ck.g.inn
    have hrg := hin.rng ((moreAt p rs c ms (j + 1)).plan.getD (moreAt p rs c ms (j + 1)).at_.toNat nilS).idx.toNat (by omega)
    have hv6 := (hvp.2.2.2.2 ((moreAt p rs c ms (j + 1)).plan.getD (moreAt p rs c ms (j + 1)).at_.toNat nilS).idx.toNat (by omega)).1.2
    have hlb := hin.lb
    have hln := hin.ln
    exact run_fn _ _ (by omega) (by omega) (by omega)
   have hha : ∀ j i : Nat, j ≤ 100 → i < (moreL p rs c ms j).length → ((moreL p rs c ms j).getD i nilA).kind = 2 → FnSound Tryz.prog 29 [.val false [.d (.v (.int .u8 (runS (moreAt p rs c ms (j + 1)).mix ((moreAt p rs c ms (j + 1)).plan.getD (moreAt p rs c ms (j + 1)).at_.toNat nilS).idx)))], .val false [.d (.v (.int .i64 ((moreL p rs c ms j).getD i nilA).ver))]] [] { vals := [(false, [.d (.v (.bool true))])] } := fun j i hj hi h2 => by
    have a := hfk j (by omega)
    have e2 := a.b.rd
    have hx := (hsx j hj i hi).2.2 h2
    obtain ⟨hph, _, hver⟩ := (form_safe (c := moreAt p rs c ms j) (by omega) (next_form (p := p) (rs := rs) (s := usefulP (moreAt p rs c ms j) (ms.getD j 0)))).cmd i hi h2
    have hw := (hfk (j + 1) (by omega)).ck.want hph
    have hv6 := (hvp.2.2.2.2 ((moreAt p rs c ms (j + 1)).plan.getD (moreAt p rs c ms (j + 1)).at_.toNat nilS).idx.toNat (by omega)).1.2
    have g := has_fn (runS (moreAt p rs c ms (j + 1)).mix (present (moreAt p rs c ms (j + 1))).idx) (wantedP (moreAt p rs c ms (j + 1))) (by have h9 : wantedP (moreAt p rs c ms (j + 1)) < p.vs.getD ((moreAt p rs c ms (j + 1)).plan.getD (moreAt p rs c ms (j + 1)).at_.toNat nilS).idx.toNat 0 := hw.2.2.1; have := hw.2.1; omega)
    rw [hw.2.2.2] at g
    have hver' : ((moreL p rs c ms j).getD i nilA).ver = wantedP (moreAt p rs c ms (j + 1)) := hver
    rw [hver']
    exact g
   have hr4 := hso.2.2
   have h00 : moreAt p rs c ms 0 = c := rfl
   have hr100 : rs.length ≤ 100 := by omega
   clear hk hfk hvp
   generalize moreAt p rs c ms = f at hus hst her hsm hrb hsx hct hfi hru hha h00
   generalize moreL p rs c ms = g at hst hsx hct hfi hru hha
   obtain ⟨sm, hsm⟩ := Classical.axiomOfChoice hsm
   unfold SafeX at hsx
   refine startW (tm := [(0, _), (1, _)]) Tryz.func5 rfl Tryz.ntmps5 rfl rfl rfl rfl ?_
   repeat' (first
 |(with_reducible refine K_ca 19 ?_); refine zC (hof) ?_
 |(with_reducible refine K_ca 11 ?_); refine zC (awake_fn) ?_
 |(with_reducible refine K_ca 25 ?_); refine zC (hus j (by omega)) ?_
 |(with_reducible refine K_ca 24 ?_); refine zC (hst j (by omega)) ?_
 |(with_reducible refine K_ca 17 ?_); refine zC (hsm j (by omega)) ?_
 |(with_reducible refine K_ca 26 ?_); refine zC (her (j + 1) (by omega)) ?_
 |(with_reducible refine K_ca 27 ?_); refine zC (hrb (j + 1) (by omega)) ?_
 |(with_reducible refine K_ca 28 ?_); refine zC (hfi j i (by omega) (by omega) (by omega)) ?_
 |(with_reducible refine K_ca 30 ?_); refine zC (hru j i (by omega) (by omega) (by omega)) ?_
 |(with_reducible refine K_ca 29 ?_); refine zC (hha j i (by omega) (by omega) (by omega)) ?_
 |(with_reducible refine blk_at (id := 0) ?_); ((with_reducible refine JL.loopW 0 599 (fun (j : Nat) tm => (40, .one false [.d (.v (.int .i64 ((j : Int))))]) :: tm) (fun (j : Nat) bo => ((512, 200), some (.st 39 [.d (.sl 3 ((dSteps (f j).plan))), .d (.v (.int .i64 ((f j).at_))), .d (.v (.int .i64 ((f j).phase))), .d (.v (.int .i64 ((f j).replica))), .d (.v (.int .i64 ((f j).round))), .d (.v (.int .i64 ((f j).token))), .d (.sl 1 ((dInts (f j).mix.base))), .d (.sl 1 ((dInts (f j).mix.next))), .d (.sl 1 ((dSets (f j).mix.held)))])) :: bo) (fun (j : Nat) => j ≤ ms.length) (fun (j : Nat) => ms.length - j) (0) ?_ (fun j hj => have hcj := hct j (by omega); ?_) ?_); (focus (apply SubW [] rfl ?_ ?_ rfl ?_; (repeat' (first | exact kA | refine kB ?_ | refine kC ?_ ?_ | exact kD | fail)))))
 |((with_reducible refine round_next (i := j) (j + 1) ?_ ?_ ?_); (focus (apply SubW [] rfl ?_ ?_ rfl ?_; (repeat' (first | exact kA | refine kB ?_ | refine kC ?_ ?_ | exact kD | fail)))))
 |(with_reducible refine blk_at (id := 2) ?_); ((with_reducible refine JL.loopW 2 1299 (fun (i : Nat) tm => (79, .one false [.d (.v (.int .i64 ((i : Int))))]) :: (14, .one false [.d (.v (.int .i64 ((cntE (g j) i))))]) :: tm) (fun (i : Nat) bo => bo) (fun (i : Nat) => i ≤ (g j).length) (fun (i : Nat) => (g j).length - i) (0) ?_ (fun i hi => have hxi := hsx j (by omega) i; have hle := cntE_le (l := g j) (k := i); ?_) ?_); (focus (apply SubW [] rfl ?_ ?_ rfl ?_; (repeat' (first | exact kA | refine kB ?_ | refine kC ?_ ?_ | exact kD | fail)))))
 |((with_reducible refine round_next (i := i) (i + 1) ?_ ?_ ?_); (focus (apply SubW [] rfl ?_ ?_ rfl ?_; (repeat' (first | exact kA | refine kB ?_ | refine kC ?_ ?_ | exact kD | fail)))))
 |refine wA ?_
 |(refine wC ?_ ?_ <;> intro hc)
 |refine wB ?_ ?_
 |(with_reducible refine JL.block ?_)
 |(with_reducible refine F_at ?_); refine eW (vs := [(_, _)]) Tryz.results5 ?_; (focus (repeat' (first | exact oA | refine oB ?_ | refine oC ?_ ?_ | fail)))
 |exact oM
 |fail)
   all_goals first
    | rfl
    | (rw [h00]; done)
    | (exfalso; omega)
    | (exfalso; rcases Nat.lt_or_eq_of_le hi with e | e
       ·omega
       ·subst e; omega)
    | (rw [cntE_0]; done)
    | (rw [cntE_y (by omega) (by omega)]; done)
    | (rw [cntE_n (by omega) (by omega)]; done)
    | trace_state
  ·refine startW (tm := [(0, _), (1, _)]) Tryz.func5 rfl Tryz.ntmps5 rfl rfl rfl rfl ?_
   repeat' (first
 |(with_reducible refine K_ca 19 ?_); refine zC (hof) ?_
 |(with_reducible refine K_ca 11 ?_); refine zC (awake_fn) ?_
 |refine wA ?_
 |(refine wC ?_ ?_ <;> intro hc)
 |refine wB ?_ ?_
 |(with_reducible refine JL.block ?_)
 |(with_reducible refine F_at ?_); refine eW (vs := [(_, _)]) Tryz.results5 ?_; (focus (repeat' (first | exact oA | refine oB ?_ | refine oC ?_ ?_ | fail)))
 |exact oM
 |fail)
   all_goals first | rfl | (exfalso; omega) | trace_state
 ·have hof := ofNoC_fn d R ch hd h
  refine startW (tm := [(0, _), (1, _)]) Tryz.func5 rfl Tryz.ntmps5 rfl rfl rfl rfl ?_
  repeat' (first
 |(with_reducible refine K_ca 19 ?_); refine zC (hof) ?_
 |(with_reducible refine K_ca 11 ?_); refine zC (awake_fn) ?_
 |refine wA ?_
 |(refine wC ?_ ?_ <;> intro hc)
 |refine wB ?_ ?_
 |(with_reducible refine JL.block ?_)
 |(with_reducible refine F_at ?_); refine eW (vs := [(_, _)]) Tryz.results5 ?_; (focus (repeat' (first | exact oA | refine oB ?_ | refine oC ?_ ?_ | fail)))
 |exact oM
 |fail)
  all_goals first | rfl | (exfalso; omega) | trace_state
end Go.Proofs.YtdpeoolildjohaaGreatDoor

namespace Go.Proofs.YtdpeoolildjohaaGreatDoor
open Go.ChangeShapes Go.WideShapes Go.ChangeAt Go.RowKit Go.Joins Go.Deep
set_option linter.unusedSimpArgs false
set_option linter.unusedVariables false
set_option maxRecDepth 100000
theorem controllerSafe_lifted (os : Os) (started : os.Started) (H : Type) (enc : TypeId × Value → H) :
    ReturnsInHanded {} Tryz.checked os 5 .any (fun w args => (Rows.controllerSafeSpec.pre enc Tryz.prog Tryz.f5 [] false w args ∧ laidMetH Tryz.prog Rows.controllerSafeRow.laid w) ∧ sizedMet enc Tryz.prog Tryz.f5 (OpenSpec.ofChange Rows.controllerSafeSpec) false w args)
     (Rows.controllerSafeSpec.post enc Tryz.prog Tryz.f5 false true false false) := by
 refine returnsInHanded_of_change_and (C := Tryz.checked) (X := fun w _ => laidMetH Tryz.prog Rows.controllerSafeRow.laid w) (fun _ _ _ hh h => h.of_heap hh) own started (by kernel_rfl) Tryz.func5
  (ChangeSpec.witness_shaped (enc := enc) (C := Tryz.checked) (os := os) (X := fun w _ => laidMetH Tryz.prog Rows.controllerSafeRow.laid w) false (World.laidAll Tryz.prog os Rows.controllerSafeRow.laid) #[.agg #[.slice none 0 0, .slice none 0 0, .slice none 0 0, .slice none 0 0, .slice none 0 0, .slice none 0 0], .slice none 0 0] 8 rfl (World.shaped_of_ZipB (by kernel_rfl) (by kernel_rfl)) (by kernel_rfl) (by kernel_rfl) (by kernel_rfl)
   (by rw [MakeChecks.laidMetH_plain _ _ _ (by kernel_rfl)]; exact laidMet_laidAll _ (by kernel_rfl) (by kernel_rfl))) ?_
 intro W base args ds gs before hval hW hcnd hsz hL _
 have hW' := hW
 obtain ⟨p, q, hA0, hV, rfl, hfz, hnd⟩ := hW
 have hval' : ∀ (j : Nat) t v, Tryz.f5.params[j]? = some t → args[j]? = some v → Value.okWide Tryz.prog W .any base t v := hval
 have hA : DataW.TrodAll enc Tryz.prog W 0 (fun _ => true) true Tryz.f5.params.toList args.toList ds p := hA0
 rw [Tryz.params5] at hA hval'
 obtain ⟨v0, vs0, d0, ds0, p0, q0, hargs, rfl, rfl, h0, r0⟩ := trodAll_cons hA
 obtain ⟨v1, vs1, d1, ds1, p1, q1, rfl, rfl, rfl, h1, r1⟩ := trodAll_cons r0
 obtain ⟨rfl, rfl, rfl⟩ := trodAll_nil r1
 obtain rfl : args = #[v0, v1] := by cases args; simp_all
 obtain ⟨x0, R0, ch0, a0, s0, t0, u0⟩ := open_case (S := S0) S0_all (hval' 0 51 v0 rfl rfl) (sz_arg hsz (j := 0) (t := 51) rfl rfl) h0
 obtain ⟨x1, a1, s1⟩ := open_u8sA (S := S0) S0_all (hval' 1 22 v1 rfl rfl) (sz_arg hsz (j := 1) (t := 22) rfl rfl) h1
 have hC := calls_of_fn (xs := [(true, caseC x0 R0 ch0), (false, [.d (.sl 1 (dSets x1))])]) (vals := [v0, v1]) (w := W) (safe_law x0 R0 ch0 x1 s0 t0 u0 s1) rfl (fun i y hy => match i, hy with
  | 0, hy => by cases hy; exact a0 ρ0 _
  | 1, hy => by cases hy; exact a1 ρ0 _
  | _ + 2, hy => by cases hy)
 exact hC.mono fun e W' ⟨he, hb⟩ => ⟨_, he, law_post rfl laid (by kernel_rfl) (by kernel_rfl) Tryz.underlying4 hW' rfl hb⟩
theorem controllerSafe_row : Rows.ControllerSafeSaid :=
 OpenClaim.holds_of_wide 5 Tryz.f5 rfl rfl rfl rfl rfl rfl rfl ⟨rfl, rfl, rfl, rfl, rfl⟩ rfl rfl rfl rfl rfl (by kernel_rfl) Tryz.func5 (by kernel_rfl)
  (of_decide_eq_true (by kernel_rfl)) (by unfold Func.isWrapper; first | (rw [if_pos (by decide +kernel)]; kernel_rfl) | (rw [if_neg (by decide +kernel)]; exact ⟨rfl, rfl⟩))
  (fun os started H enc _ => controllerSafe_lifted os started H enc)
theorem controllerSafeCard_holds : Rows.ControllerSafeCardSaid :=
 Claim7.holds_tied_plain_at .later [] [.data, .data, .data] true Rows.controllerSafeCard.stood.harness false
  controllerSafe_row (fun _ h => by cases h) (by kernel_rfl) (fun _ h => by cases h) controllerSafe_row_tie rfl ⟨rfl, rfl⟩ (by kernel_rfl) rfl
  (fun f fn hf hfn => by
   obtain rfl : f = 5 := Option.some.inj ((show Tryz.prog.funcNamed Rows.controllerSafeRow.func = some 5 by kernel_rfl).symm.trans hf) |>.symm
   obtain rfl : fn = Tryz.f5 := (Option.some.inj (Tryz.func5.symm.trans hfn)).symm
   exact ⟨by kernel_rfl, fun j t ht => by
    rw [Tryz.params5] at ht
    have hm : t ∈ [51, 22] := by simpa using Array.mem_of_getElem? ht
    have hall : ([51, 22].all fun u => !Tryz.prog.wantsStandIn u) = true := by kernel_rfl
    exact (show Tryz.prog.wantsStandIn t = false by simpa using List.all_eq_true.1 hall t hm)⟩)
  (by kernel_rfl)
#print axioms controllerSafeCard_holds
end Go.Proofs.YtdpeoolildjohaaGreatDoor

