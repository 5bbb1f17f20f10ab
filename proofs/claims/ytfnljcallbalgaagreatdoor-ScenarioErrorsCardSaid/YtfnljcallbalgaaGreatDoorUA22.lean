/- Rules of runs and contracts of functions, for the claims of one seat. -/
import Derived.Test.YtfnljcallbalgaaGreatDoorUA11
import Derived.Test.YtfnljcallbalgaaGreatDoorUA13
import Derived.Test.YtfnljcallbalgaaGreatDoorUA20
import Derived.Test.YtfnljcallbalgaaGreatDoorUA21
namespace Go.Proofs.YtfnljcallbalgaaGreatDoor
open Go Go.RowKit
set_option linter.unusedSimpArgs false
set_option linter.unusedVariables false
def tr (p : Prob) : MixD → List StepD → List MixD
 | m, [] => [m]
 | m, s :: r => m :: tr p (applyP p m s).1 r
def okL (p : Prob) : MixD → List StepD → Prop
 | _, [] => True
 | m, s :: r => (applyP p m s).2 = 0 ∧ ¬ s.kind = 4 ∧ okL p (applyP p m s).1 r
theorem check_ok {p : Prob} : ∀ {l : List StepD} {m : MixD} {i : Int}, (failL p m l i).2.2.2 = 15 → okL p m l
 | [], _, _, _ => trivial
 | s :: r, m, i, h => by
  unfold failL at h
  split at h
  ·cases h
  ·rename_i h1
   split at h
   ·cases h
   ·exact ⟨Classical.byContradiction fun a => h1 (.inl a), fun a => h1 (.inr a), check_ok h⟩
theorem tr_len {p : Prob} : ∀ {l : List StepD} {m : MixD}, (tr p m l).length = l.length + 1
 | [], _ => rfl
 | s :: r, m => by unfold tr; simp [tr_len (l := r)]
theorem tr_0 {p : Prob} {m : MixD} {l : List StepD} : (tr p m l).getD 0 nilM = m := by cases l <;> rfl
theorem runL_ok {p : Prob} : ∀ {l : List StepD} {m : MixD} {i : Nat} {out : List MixD}, okL p m l → runL p l m i (out ++ [m]) = (out ++ tr p m l, ((i + l.length : Nat) : Int), 0)
 | [], m, i, out, _ => rfl
 | s :: r, m, i, out, h => by
  show (if ¬ (applyP p m s).2 = 0 then _ else runL p r (applyP p m s).1 (i + 1) (out ++ [m] ++ [(applyP p m s).1])) = _
  rw [if_neg (fun a => a h.1), runL_ok (out := out ++ [m]) h.2.2]
  simp only [tr, List.append_assoc, List.singleton_append, List.length_cons]
  congr 2
  omega
theorem tr_step {p : Prob} : ∀ {l : List StepD} {m : MixD} {k : Nat}, okL p m l → k < l.length → applyP p ((tr p m l).getD k nilM) (l.getD k nilS) = ((tr p m l).getD (k + 1) nilM, 0) ∧ ¬ (l.getD k nilS).kind = 4
 | s :: r, m, 0, h, _ => by
  refine ⟨?_, h.2.1⟩
  show applyP p m s = ((tr p (applyP p m s).1 r).getD 0 nilM, 0)
  rw [tr_0, ← h.1]
 | s :: r, m, k + 1, h, hk => tr_step (l := r) h.2.2 (by simpa using hk)
theorem tr_g {p : Prob} {l : List StepD} {m : MixD} (hm : MixG p m) (h : okL p m l) : ∀ k, k ≤ l.length → MixG p ((tr p m l).getD k nilM)
 | 0, _ => by rw [tr_0]; exact hm
 | k + 1, hk => by
  have ih := tr_g hm h k (by omega)
  have hs := (tr_step (k := k) h (by omega)).1
  have e : (applyP p ((tr p m l).getD k nilM) (l.getD k nilS)).2 = 0 := by rw [hs]
  obtain ⟨a1, a2, a3, a4⟩ := apply_after e
  have := after_g ih (stepAt_of a3 a4) a1
  rw [hs] at this
  exact this
structure PlanOK (p : Prob) (l : List StepD) : Prop where
 vp : vpErr p = 0
 ok : okL p (startM p) l
 mix : mixesP p l = tr p (startM p) l
theorem planOK_of {p : Prob} {l : List StepD} (hv : vpErr p = 0) (h0 : mixErr p (startM p) = 0) (h : checkP p l = true) : PlanOK p l := by
 have h := of_decide_eq_true h
 unfold failP at h
 rw [if_neg (by simpa using hv)] at h
 split at h
 ·cases h
 ·have ho := check_ok h
  refine ⟨hv, ho, ?_⟩
  have := runL_ok (i := 0) (out := []) ho
  unfold mixesP runP
  rw [if_neg (by simpa using h0)]
  rw [List.nil_append] at this
  rw [this]
  rfl
theorem start_err {p : Prob} (h : vpErr p = 0) : mixErr p (startM p) = 0 := by
 have hv := vp_all h
 have hg := (start_g h).inn
 have en : ∀ i, i < p.vs.length → (startM p).next.getD i 0 = -1 := fun i hi => by
  simp only [startM]
  rw [List.getD_eq_getElem?_getD, List.getElem?_replicate, if_pos hi]; rfl
 refine mixErr_ok h hg.lb hg.ln hg.lh (fun i hi => ?_) (fun i hi => ?_)
 ·unfold svcI svcE
  have := hg.rng i hi
  rw [if_neg (by omega), if_neg (by rw [en i hi]; omega)]
 ·have eh : (startM p).held.getD i 0 = startHeld p (p.tabs.getD i nilT) := by
    simp only [startM]
    rw [List.getD_eq_getElem?_getD, List.getElem?_map, List.getElem?_eq_getElem hi, List.getD_eq_getElem?_getD, List.getElem?_eq_getElem hi]; rfl
  have ht := tab_at h hi
  have hf := ht.frm
  have hr := hv.2.2.2.2 (p.tabs.getD i nilT).frm.toNat (by omega)
  rw [eh]
  unfold heldB startHeld
  by_cases hs : storedB (p.tabs.getD i nilT).kind = true
  ·rw [if_pos hs, if_pos hs]
   have er : runS (startM p) (p.tabs.getD i nilT).frm = one8 (p.now.getD (p.tabs.getD i nilT).frm.toNat 0) := by
    unfold runS runV
    rw [en _ (by omega), if_neg (by decide)]
    rfl
   rw [er]
   have gen : ∀ a n : Int, 0 ≤ a → a < n → n ≤ 6 → bits BinOp.andNot IntKind.u8 (one8 a) (allV n) = 0 ∧ bits BinOp.andNot IntKind.u8 (one8 a) (one8 a) = 0 := by
    intro a n h1 h2 h3
    have ha : a = 0 ∨ a = 1 ∨ a = 2 ∨ a = 3 ∨ a = 4 ∨ a = 5 := by omega
    have hn : n = 1 ∨ n = 2 ∨ n = 3 ∨ n = 4 ∨ n = 5 ∨ n = 6 := by omega
    rcases ha with rfl | rfl | rfl | rfl | rfl | rfl <;> rcases hn with rfl | rfl | rfl | rfl | rfl | rfl <;> first | (exfalso; omega) | decide
   have := gen _ _ hr.2.1.1 hr.2.1.2 hr.1.2
   rw [this.1, this.2]; rfl
  ·rw [if_neg hs, if_neg hs]; rfl
theorem PlanOK.step {p : Prob} {l : List StepD} (h : PlanOK p l) {k : Nat} (hk : k < l.length) : StepAt p (l.getD k nilS) ∧ (1 ≤ (l.getD k nilS).kind ∧ (l.getD k nilS).kind ≤ 3) ∧ applyP p ((mixesP p l).getD k nilM) (l.getD k nilS) = ((mixesP p l).getD (k + 1) nilM, 0) := by
 obtain ⟨h1, h2⟩ := tr_step (k := k) h.ok hk
 have e : (applyP p ((tr p (startM p) l).getD k nilM) (l.getD k nilS)).2 = 0 := by rw [h1]
 obtain ⟨a1, a2, a3, a4⟩ := apply_after e
 have hk4 : 1 ≤ (l.getD k nilS).kind ∧ (l.getD k nilS).kind ≤ 4 := by simp only [stepOK, decide_eq_true_eq] at a3; omega
 refine ⟨stepAt_of a3 a4, by omega, ?_⟩
 rw [h.mix]; exact h1
theorem PlanOK.len {p : Prob} {l : List StepD} (h : PlanOK p l) : (mixesP p l).length = l.length + 1 := by rw [h.mix, tr_len]
theorem PlanOK.g {p : Prob} {l : List StepD} (h : PlanOK p l) {k : Nat} (hk : k ≤ l.length) : MixG p ((mixesP p l).getD k nilM) := by rw [h.mix]; exact tr_g (start_g h.vp) h.ok k hk
theorem abort_at {p : Prob} {s : StepD} (h : StepAt p s) (hk : ¬ s.kind = 3) : StepAt p ⟨4, s.idx, 0⟩ := ⟨h.nn, fun a => absurd (show (4 : Int) = 3 from a) (by decide), fun _ => h.svc hk, fun a => absurd (show (4 : Int) = 1 from a) (by decide)⟩
end Go.Proofs.YtfnljcallbalgaaGreatDoor

namespace Go.Proofs.YtfnljcallbalgaaGreatDoor
open Go Go.RowKit
set_option linter.unusedSimpArgs false
set_option linter.unusedVariables false
theorem PlanOK.after {p : Prob} {l : List StepD} (h : PlanOK p l) {k : Nat} (hk : k < l.length) : afterP p ((mixesP p l).getD k nilM) (l.getD k nilS) = some ((mixesP p l).getD (k + 1) nilM) := by
 have hs := (h.step hk).2.2
 have e : (applyP p ((mixesP p l).getD k nilM) (l.getD k nilS)).2 = 0 := by rw [hs]
 have := (apply_after e).1
 rw [hs] at this
 exact this
theorem of_u8 (z : BitVec 8) : BitVec.ofInt 8 (IntKind.u8.wrap (z.toNat : Int)) = z := by
 have h1 : IntKind.u8.wrap (z.toNat : Int) = (z.toNat : Int) := by
  have := z.isLt
  simp only [IntKind.wrap, IntKind.bits, IntKind.signed]
  simp
  omega
 rw [h1]
 apply BitVec.eq_of_toNat_eq
 simp
theorem or_or {a b : Int} : bits BinOp.or IntKind.u8 (bits BinOp.or IntKind.u8 a b) b = bits BinOp.or IntKind.u8 a b := by
 show IntKind.u8.wrap (((BitVec.ofInt 8 (IntKind.u8.wrap (((BitVec.ofInt 8 a ||| BitVec.ofInt 8 b).toNat : Nat) : Int))) ||| BitVec.ofInt 8 b).toNat : Int) = IntKind.u8.wrap ((BitVec.ofInt 8 a ||| BitVec.ofInt 8 b).toNat : Int)
 rw [of_u8, BitVec.or_assoc, BitVec.or_self]
theorem mix_ext {a b : MixD} (h1 : a.base = b.base) (h2 : a.next = b.next) (h3 : a.held = b.held) : a = b := by
 cases a; cases b; simp only [MixD.mk.injEq] at *; exact ⟨h1, h2, h3⟩
theorem start_abort {p : Prob} {m x : MixD} {s : StepD} (hm : MixG p m) (hs : StepAt p s) (hk : s.kind = 1) (h : afterP p m s = some x) : ∃ y, afterP p x ⟨4, s.idx, 0⟩ = some y ∧ MixG p y ∧ afterP p y s = some x := by
 have hx := after_g hm hs h
 have hv := hs.ver hk
 have h0 := hs.nn
 have h1 := hs.svc (by omega)
 have hi : s.idx.toNat < m.next.length := by have := hm.inn.ln; omega
 rw [after1 hk] at h
 split at h
 ·cases h
 ·rename_i hc
  cases h
  have en : (startedM p m s).next.getD s.idx.toNat 0 = s.ver := by
   simp only [startedM]; rw [getDi_set, if_pos ⟨rfl, hi⟩]
  have e4 : afterP p (startedM p m s) ⟨4, s.idx, 0⟩ = some ⟨m.base, (startedM p m s).next.set s.idx.toNat (-1), (startedM p m s).held⟩ := by
   rw [after4 (by show ¬ (4 : Int) = 1; decide) (by show ¬ (4 : Int) = 2; decide) (by show ¬ (4 : Int) = 3; decide)]
   rw [if_neg (by show ¬ (startedM p m s).next.getD s.idx.toNat 0 < 0; rw [en]; omega)]
   rfl
  refine ⟨_, e4, after_g hx (abort_at hs (by omega)) e4, ?_⟩
  have en2 : ((startedM p m s).next.set s.idx.toNat (-1)).getD s.idx.toNat 0 = -1 := by
   rw [getDi_set, if_pos ⟨rfl, by simp only [startedM]; rw [set_len]; exact hi⟩]
  rw [after1 hk, if_neg (by
   show ¬ (0 ≤ ((startedM p m s).next.set s.idx.toNat (-1)).getD s.idx.toNat 0 ∨ s.ver = m.base.getD s.idx.toNat 0)
   rw [en2]
   rintro (a | a)
   ·omega
   ·exact hc (.inr a))]
  refine congrArg some (mix_ext rfl ?_ ?_)
  ·simp only [startedM, List.set_set]
  ·refine getD_ext (by simp [startedM]) fun j hj => ?_
   have hj' : j < m.held.length := by simpa [startedM] using hj
   have eh : (startedM p m s).held.getD j 0 = heldUp p s.idx s.ver (p.tabs.getD j nilT) (m.held.getD j 0) := by
    simp only [startedM]
    rw [List.getD_eq_getElem?_getD, List.getElem?_map, List.getElem?_range hj']; rfl
   have eh2 : (startedM p ⟨m.base, (startedM p m s).next.set s.idx.toNat (-1), (startedM p m s).held⟩ s).held.getD j 0 = heldUp p s.idx s.ver (p.tabs.getD j nilT) ((startedM p m s).held.getD j 0) := by
    have hl : j < (startedM p m s).held.length := by simpa [startedM] using hj'
    show (((List.range (startedM p m s).held.length).map fun k => heldUp p s.idx s.ver (p.tabs.getD k nilT) ((startedM p m s).held.getD k 0))).getD j 0 = _
    rw [List.getD_eq_getElem?_getD, List.getElem?_map, List.getElem?_range hl]; rfl
   rw [eh2, eh]
   unfold heldUp
   split
   ·exact or_or
   ·rfl
theorem PlanOK.abort {p : Prob} {l : List StepD} (h : PlanOK p l) {a : Int} (ha : 0 ≤ a ∧ a < l.length) (hk : (l.getD a.toNat nilS).kind = 1) : MixG p (abortedP p l a) ∧ afterP p (abortedP p l a) (l.getD a.toNat nilS) = some ((mixesP p l).getD (a + 1).toNat nilM) ∧ afterP p ((mixesP p l).getD (a + 1).toNat nilM) ⟨4, (l.getD a.toNat nilS).idx, 0⟩ = some (abortedP p l a) := by
 have hlt : a.toNat < l.length := by omega
 obtain ⟨y, h1, h2, h3⟩ := start_abort (h.g (k := a.toNat) (by omega)) (h.step hlt).1 hk (h.after hlt)
 have e : (a + 1).toNat = a.toNat + 1 := by omega
 have ea : abortedP p l a = y := by unfold abortedP abortM; rw [e, h1]; rfl
 rw [ea, e]
 exact ⟨h2, h3, h1⟩
structure CtlK (p : Prob) (c : CtlD) : Prop where
 plan : PlanOK p c.plan
 rng : 0 ≤ c.at_ ∧ c.at_ ≤ c.plan.length
 fin : c.phase = 6 ↔ c.at_ = c.plan.length
 ph0 : c.phase = 0 → c.mix = (mixesP p c.plan).getD c.at_.toNat nilM ∨ ((present c).kind = 1 ∧ c.mix = abortedP p c.plan c.at_)
 ph1 : c.phase = 1 → ((present c).kind = 1 ∧ c.mix = (mixesP p c.plan).getD (c.at_ + 1).toNat nilM) ∨ ((present c).kind = 2 ∧ c.mix = (mixesP p c.plan).getD c.at_.toNat nilM)
 ph2 : c.phase = 2 ∨ c.phase = 3 → (present c).kind = 1 ∧ c.mix = (mixesP p c.plan).getD (c.at_ + 1).toNat nilM
 ph4 : c.phase = 4 → (present c).kind = 3 ∧ c.mix = (mixesP p c.plan).getD c.at_.toNat nilM
 ph5 : c.phase = 5 → (present c).kind = 1 ∧ c.mix = abortedP p c.plan c.at_
 ph6 : c.phase = 6 → c.mix = (mixesP p c.plan).getD c.at_.toNat nilM
 phs : 0 ≤ c.phase ∧ c.phase ≤ 6
theorem CtlK.lt {p : Prob} {c : CtlD} (h : CtlK p c) (hp : ¬ c.phase = 6) : c.at_ < c.plan.length := by
 have h1 := h.rng
 have h2 : ¬ c.at_ = c.plan.length := fun e => hp (h.fin.2 e)
 omega
theorem CtlK.g {p : Prob} {c : CtlD} (h : CtlK p c) : MixG p c.mix := by
 have hr := h.rng
 have hp := h.plan
 by_cases h6 : c.phase = 6
 ·rw [h.ph6 h6]; exact hp.g (by omega)
 ·have hlt := h.lt h6
  have hps := h.phs
  have ab : (present c).kind = 1 → MixG p (abortedP p c.plan c.at_) := fun a => (hp.abort ⟨hr.1, hlt⟩ a).1
  have : c.phase = 0 ∨ c.phase = 1 ∨ c.phase = 2 ∨ c.phase = 3 ∨ c.phase = 4 ∨ c.phase = 5 := by omega
  rcases this with e | e | e | e | e | e
  ·rcases h.ph0 e with m | ⟨k, m⟩
   ·rw [m]; exact hp.g (by omega)
   ·rw [m]; exact ab k
  ·rcases h.ph1 e with ⟨k, m⟩ | ⟨k, m⟩
   ·rw [m]; exact hp.g (by omega)
   ·rw [m]; exact hp.g (by omega)
  ·rw [(h.ph2 (.inl e)).2]; exact hp.g (by omega)
  ·rw [(h.ph2 (.inr e)).2]; exact hp.g (by omega)
  ·rw [(h.ph4 e).2]; exact hp.g (by omega)
  ·have := h.ph5 e
   rw [this.2]; exact ab this.1
theorem CtlK.st {p : Prob} {c : CtlD} (h : CtlK p c) (hp : ¬ c.phase = 6) : StepAt p (present c) ∧ 1 ≤ (present c).kind ∧ (present c).kind ≤ 3 := by
 have := h.plan.step (k := c.at_.toNat) (by have := h.lt hp; have := h.rng; omega)
 exact ⟨this.1, this.2.1⟩
end Go.Proofs.YtfnljcallbalgaaGreatDoor

namespace Go.Proofs.YtfnljcallbalgaaGreatDoor
open Go Go.RowKit
set_option linter.unusedSimpArgs false
set_option linter.unusedVariables false
theorem w64_is {n : Int} (h : -9223372036854775808 ≤ n ∧ n ≤ 9223372036854775807) : w64 n = n := by
 unfold w64
 exact wrap_i64 ⟨by omega, by omega⟩
theorem CtlK.token {p : Prob} {c : CtlD} (h : CtlK p c) (t : Int) : CtlK p { c with token := t } := ⟨h.plan, h.rng, h.fin, h.ph0, h.ph1, h.ph2, h.ph4, h.ph5, h.ph6, h.phs⟩
theorem CtlK.replica {p : Prob} {c : CtlD} (h : CtlK p c) (r : Int) : CtlK p { c with replica := r } := ⟨h.plan, h.rng, h.fin, h.ph0, h.ph1, h.ph2, h.ph4, h.ph5, h.ph6, h.phs⟩
theorem CtlK.round {p : Prob} {c : CtlD} (h : CtlK p c) (r : Int) : CtlK p { c with round := r } := ⟨h.plan, h.rng, h.fin, h.ph0, h.ph1, h.ph2, h.ph4, h.ph5, h.ph6, h.phs⟩
theorem ctlK_mk {p : Prob} {c : CtlD} (hp : PlanOK p c.plan) (hr : 0 ≤ c.at_ ∧ c.at_ < c.plan.length) (hm : (c.phase = 1 ∧ (present c).kind = 1 ∧ c.mix = (mixesP p c.plan).getD (c.at_ + 1).toNat nilM) ∨ (c.phase = 1 ∧ (present c).kind = 2 ∧ c.mix = (mixesP p c.plan).getD c.at_.toNat nilM) ∨ (c.phase = 2 ∧ (present c).kind = 1 ∧ c.mix = (mixesP p c.plan).getD (c.at_ + 1).toNat nilM) ∨ (c.phase = 3 ∧ (present c).kind = 1 ∧ c.mix = (mixesP p c.plan).getD (c.at_ + 1).toNat nilM) ∨ (c.phase = 4 ∧ (present c).kind = 3 ∧ c.mix = (mixesP p c.plan).getD c.at_.toNat nilM) ∨ (c.phase = 5 ∧ (present c).kind = 1 ∧ c.mix = abortedP p c.plan c.at_)) : CtlK p c := by
 have h6 : ¬ c.at_ = c.plan.length := by omega
 rcases hm with ⟨e, k, m⟩ | ⟨e, k, m⟩ | ⟨e, k, m⟩ | ⟨e, k, m⟩ | ⟨e, k, m⟩ | ⟨e, k, m⟩
 ·exact ⟨hp, by omega, by omega, fun a => by omega, fun _ => .inl ⟨k, m⟩, fun a => by omega, fun a => by omega, fun a => by omega, fun a => by omega, by omega⟩
 ·exact ⟨hp, by omega, by omega, fun a => by omega, fun _ => .inr ⟨k, m⟩, fun a => by omega, fun a => by omega, fun a => by omega, fun a => by omega, by omega⟩
 ·exact ⟨hp, by omega, by omega, fun a => by omega, fun a => by omega, fun _ => ⟨k, m⟩, fun a => by omega, fun a => by omega, fun a => by omega, by omega⟩
 ·exact ⟨hp, by omega, by omega, fun a => by omega, fun a => by omega, fun _ => ⟨k, m⟩, fun a => by omega, fun a => by omega, fun a => by omega, by omega⟩
 ·exact ⟨hp, by omega, by omega, fun a => by omega, fun a => by omega, fun a => by omega, fun _ => ⟨k, m⟩, fun a => by omega, fun a => by omega, by omega⟩
 ·exact ⟨hp, by omega, by omega, fun a => by omega, fun a => by omega, fun a => by omega, fun a => by omega, fun _ => ⟨k, m⟩, fun a => by omega, by omega⟩
theorem CtlK.after1 {p : Prob} {c : CtlD} (h : CtlK p c) (h0 : c.phase = 0) (hk : (present c).kind = 1) : afterP p c.mix (present c) = some ((mixesP p c.plan).getD (c.at_ + 1).toNat nilM) := by
 have hlt := h.lt (by omega)
 have hr := h.rng
 have e : (c.at_ + 1).toNat = c.at_.toNat + 1 := by omega
 rcases h.ph0 h0 with m | ⟨_, m⟩
 ·rw [m, e]; exact h.plan.after (by omega)
 ·rw [m]; exact (h.plan.abort ⟨hr.1, hlt⟩ hk).2.1
theorem CtlK.mix0 {p : Prob} {c : CtlD} (h : CtlK p c) (h0 : c.phase = 0) (hk : ¬ (present c).kind = 1) : c.mix = (mixesP p c.plan).getD c.at_.toNat nilM := by
 rcases h.ph0 h0 with m | ⟨k, _⟩
 ·exact m
 ·exact absurd k hk
theorem CtlK.next_ {p : Prob} {c d : CtlD} (h : CtlK p c) (hd : (c.phase = 1 ∧ (present c).kind = 2) ∨ c.phase = 2 ∨ c.phase = 4 ∨ (c.phase = 1 ∧ (present c).kind = 1)) (e1 : d.plan = c.plan) (e2 : d.at_ = c.at_ + 1) (e3 : d.phase = if c.at_ + 1 = c.plan.length then 6 else 0) (e4 : d.mix = if ¬ (present c).kind = 1 then afterM p c.mix (present c) else c.mix) : CtlK p d := by
 have hlt := h.lt (by omega)
 have hr := h.rng
 have hm : d.mix = (mixesP p d.plan).getD d.at_.toNat nilM := by
  rw [e4, e1, e2]
  have e : (c.at_ + 1).toNat = c.at_.toNat + 1 := by omega
  have kp : (present c).kind = 1 → c.mix = (mixesP p c.plan).getD (c.at_ + 1).toNat nilM := fun k => by
   rcases hd with ⟨a, b⟩ | a | a | ⟨a, b⟩
   ·omega
   ·exact (h.ph2 (.inl a)).2
   ·have := (h.ph4 a).1; omega
   ·rcases h.ph1 a with ⟨_, m⟩ | ⟨k', _⟩
    ·exact m
    ·omega
  by_cases k1 : (present c).kind = 1
  ·rw [if_neg (fun a => a k1)]; exact kp k1
  ·rw [if_pos k1]
   have m : c.mix = (mixesP p c.plan).getD c.at_.toNat nilM := by
    rcases hd with ⟨a, b⟩ | a | a | ⟨a, b⟩
    ·rcases h.ph1 a with ⟨k', _⟩ | ⟨_, m⟩
     ·omega
     ·exact m
    ·exact absurd (h.ph2 (.inl a)).1 k1
    ·exact (h.ph4 a).2
    ·omega
   unfold afterM
   rw [m, e]
   have := h.plan.after (k := c.at_.toNat) (by omega)
   unfold present
   rw [this]; rfl
 refine ⟨by rw [e1]; exact h.plan, by rw [e1, e2]; omega, ?_, fun _ => .inl hm, fun a => ?_, fun a => ?_, fun a => ?_, fun a => ?_, fun _ => hm, ?_⟩
 ·rw [e3, e2, e1]; split <;> omega
 all_goals (rw [e3] at *; split at * <;> omega)
theorem CtlK.done {p : Prob} {c : CtlD} (h : CtlK p c) (hl : c.plan.length ≤ 1000000) (hd : (c.phase = 1 ∧ (present c).kind = 2) ∨ c.phase = 2 ∨ c.phase = 4) : CtlK p (doneC p c) := by
 have hlt := h.lt (by omega)
 have hr := h.rng
 have e : w64 (c.at_ + 1) = c.at_ + 1 := w64_is (by omega)
 exact h.next_ (d := doneC p c) (by omega) rfl e (by show (if w64 (c.at_ + 1) = _ then _ else _) = _; rw [e]) rfl
end Go.Proofs.YtfnljcallbalgaaGreatDoor

namespace Go.Proofs.YtfnljcallbalgaaGreatDoor
open Go Go.RowKit
set_option linter.unusedSimpArgs false
set_option linter.unusedVariables false
def beginR (p : Prob) (rs : List Int) (c : CtlD) : CtlD :=
 if (present c).kind = 3 then { c with phase := 4 }
 else { c with phase := 1, replica := firstR rs (present c).idx, mix := if (present c).kind = 1 then afterM p c.mix (present c) else c.mix }
def doneR (p : Prob) (c : CtlD) : CtlD :=
 { plan := c.plan, at_ := w64 (c.at_ + 1), phase := if w64 (c.at_ + 1) = c.plan.length then 6 else 0, replica := 0, round := c.round, token := c.token, mix := if ¬ (present c).kind = 1 then afterM p c.mix (present c) else c.mix }
def oneP (p : Prob) (rs : List Int) (c : CtlD) (x : EntD) : Option CtlD :=
 if x.kind = 5 then some c
 else if ¬ x.idx = c.at_ then none
 else if x.kind = 1 ∧ c.phase = 0 then some (beginR p rs (bump c))
 else if x.kind = 2 ∧ (c.phase = 1 ∨ c.phase = 4) then some (doneR p (bump c))
 else if x.kind = 3 ∧ c.phase = 1 ∧ (present c).kind = 1 then some { bump c with phase := 3 }
 else if x.kind = 4 ∧ c.phase = 3 then some { bump c with phase := 0, replica := 0, mix := abortM p c.mix (present c).idx }
 else none
end Go.Proofs.YtfnljcallbalgaaGreatDoor

namespace Go.Proofs.YtfnljcallbalgaaGreatDoor
open Go Go.RowKit
set_option linter.unusedSimpArgs false
set_option linter.unusedVariables false
theorem CtlK.beginR {p : Prob} {rs : List Int} {c : CtlD} (h : CtlK p c) (h0 : c.phase = 0) : CtlK p (beginR p rs c) := by
 have hlt := h.lt (by omega)
 have hr := h.rng
 have hs := h.st (by omega)
 unfold Go.Proofs.YtfnljcallbalgaaGreatDoor.beginR
 by_cases k3 : (present c).kind = 3
 ·rw [if_pos k3]
  exact ctlK_mk h.plan ⟨hr.1, hlt⟩ (.inr (.inr (.inr (.inr (.inl ⟨rfl, k3, h.mix0 h0 (by omega)⟩)))))
 ·rw [if_neg k3]
  by_cases k1 : (present c).kind = 1
  ·refine ctlK_mk h.plan ⟨hr.1, hlt⟩ (.inl ⟨rfl, k1, ?_⟩)
   show (if (present c).kind = 1 then afterM p c.mix (present c) else c.mix) = _
   rw [if_pos k1]
   unfold afterM
   rw [h.after1 h0 k1]; rfl
  ·refine ctlK_mk h.plan ⟨hr.1, hlt⟩ (.inr (.inl ⟨rfl, (show (present c).kind = 2 by omega), ?_⟩))
   show (if (present c).kind = 1 then afterM p c.mix (present c) else c.mix) = _
   rw [if_neg k1]; exact h.mix0 h0 k1
theorem CtlK.doneR {p : Prob} {c : CtlD} (h : CtlK p c) (hl : c.plan.length ≤ 1000000) (hd : c.phase = 1 ∨ c.phase = 4) : CtlK p (doneR p c) := by
 have hlt := h.lt (by omega)
 have hr := h.rng
 have hs := h.ph1
 have e : w64 (c.at_ + 1) = c.at_ + 1 := w64_is (by omega)
 exact h.next_ (d := Go.Proofs.YtfnljcallbalgaaGreatDoor.doneR p c) (by grind) rfl e (by show (if w64 (c.at_ + 1) = _ then _ else _) = _; rw [e]) rfl
theorem CtlK.bump {p : Prob} {c : CtlD} (h : CtlK p c) : CtlK p (bump c) := h.round _
theorem CtlK.abortE {p : Prob} {c : CtlD} (h : CtlK p c) (h3 : c.phase = 3) : abortM p c.mix (present c).idx = abortedP p c.plan c.at_ := by
 have := h.ph2 (.inr h3)
 rw [this.2]; rfl
theorem CtlK.resume {p : Prob} {c : CtlD} (h : CtlK p c) (h3 : c.phase = 3) (r : Int) : CtlK p { c with phase := 0, replica := r, mix := abortM p c.mix (present c).idx } := by
 have hlt := h.lt (by omega)
 have hr := h.rng
 have hk := h.ph2 (.inr h3)
 exact ⟨h.plan, h.rng, by show (0 : Int) = 6 ↔ c.at_ = c.plan.length; omega, fun _ => .inr ⟨hk.1, h.abortE h3⟩, fun a => absurd (show (0 : Int) = 1 from a) (by decide), fun a => absurd (show (0 : Int) = 2 ∨ (0 : Int) = 3 from a) (by decide), fun a => absurd (show (0 : Int) = 4 from a) (by decide), fun a => absurd (show (0 : Int) = 5 from a) (by decide), fun a => absurd (show (0 : Int) = 6 from a) (by decide), by show (0 : Int) ≤ 0 ∧ (0 : Int) ≤ 6; decide⟩
theorem CtlK.undo {p : Prob} {c : CtlD} (h : CtlK p c) (h1 : c.phase = 1) (hk : (present c).kind = 1) : CtlK p { c with phase := 3 } := by
 have hlt := h.lt (by omega)
 have hr := h.rng
 refine ctlK_mk h.plan ⟨hr.1, hlt⟩ (.inr (.inr (.inr (.inl ⟨rfl, hk, ?_⟩))))
 rcases h.ph1 h1 with ⟨_, m⟩ | ⟨k, _⟩
 ·exact m
 ·omega
theorem CtlK.one {p : Prob} {rs : List Int} {c d : CtlD} {x : EntD} (h : CtlK p c) (hl : c.plan.length ≤ 1000000) (e : oneP p rs c x = some d) : CtlK p d ∧ d.plan = c.plan ∧ (d.round = c.round ∨ d.round = w64 (c.round + 1)) := by
 unfold oneP at e
 split at e
 ·cases e; exact ⟨h, rfl, .inl rfl⟩
 ·split at e
  ·cases e
  ·split at e
   ·rename_i hc
    cases e
    refine ⟨h.bump.beginR hc.2, ?_, ?_⟩
    ·unfold Go.Proofs.YtfnljcallbalgaaGreatDoor.beginR; split <;> rfl
    ·unfold Go.Proofs.YtfnljcallbalgaaGreatDoor.beginR; split <;> exact .inr rfl
   ·split at e
    ·rename_i hc
     cases e
     exact ⟨h.bump.doneR hl hc.2, rfl, .inr rfl⟩
    ·split at e
     ·rename_i hc
      cases e
      exact ⟨h.bump.undo hc.2.1 hc.2.2, rfl, .inr rfl⟩
     ·split at e
      ·rename_i hc
       cases e
       exact ⟨h.bump.resume hc.2 0, rfl, .inr rfl⟩
      ·cases e
theorem newP_k {p : Prob} {rs : List Int} {l : List StepD} (hs : setErr p rs = 0) (hc : checkP p l = true) : CtlK p (newP p rs l).1 ∧ (newP p rs l).1.plan = l ∧ (newP p rs l).1.round = 0 ∧ (newP p rs l).2 = 0 := by
 have hv := (setErr_ok hs).1
 have hp := planOK_of hv (start_err hv) hc
 have e : newP p rs l = (⟨l, 0, if l.length = 0 then 6 else 0, 0, 0, 0, startM p⟩, 0) := by unfold newP; rw [if_neg (by simpa using hs), hc, if_neg (by decide)]
 have hm : startM p = (mixesP p l).getD 0 nilM := by rw [hp.mix, tr_0]
 rw [e]
 refine ⟨⟨hp, by show (0 : Int) ≤ 0 ∧ (0 : Int) ≤ l.length; omega, ?_, fun _ => .inl hm, fun a => ?_, fun a => ?_, fun a => ?_, fun a => ?_, fun _ => hm, ?_⟩, rfl, rfl, rfl⟩
 ·show (if l.length = 0 then (6 : Int) else 0) = 6 ↔ (0 : Int) = l.length
  split <;> omega
 ·have a : (if l.length = 0 then (6 : Int) else 0) = 1 := a
  split at a <;> omega
 ·have a : (if l.length = 0 then (6 : Int) else 0) = 2 ∨ (if l.length = 0 then (6 : Int) else 0) = 3 := a
  split at a <;> omega
 ·have a : (if l.length = 0 then (6 : Int) else 0) = 4 := a
  split at a <;> omega
 ·have a : (if l.length = 0 then (6 : Int) else 0) = 5 := a
  split at a <;> omega
 ·show (0 : Int) ≤ (if l.length = 0 then 6 else 0) ∧ (if l.length = 0 then (6 : Int) else 0) ≤ 6
  split <;> omega
end Go.Proofs.YtfnljcallbalgaaGreatDoor

namespace Go.Proofs.YtfnljcallbalgaaGreatDoor
open Go Go.RowKit
set_option linter.unusedSimpArgs false
set_option linter.unusedVariables false
structure PlanV (p : Prob) (l : List StepD) : Prop where
 ok : PlanOK p l
 last : mixErr p ((mixesP p l).getD l.length nilM) = 0
theorem CtlK.stepOK {p : Prob} {c : CtlD} (h : CtlK p c) (hp : ¬ c.phase = 6) : Go.Proofs.YtfnljcallbalgaaGreatDoor.stepOK (present c) = true ∧ thereB p (present c) = true := by
 have hlt := h.lt hp
 have hr := h.rng
 have := (h.plan.step (k := c.at_.toNat) (by omega)).2.2
 have e : (applyP p ((mixesP p c.plan).getD c.at_.toNat nilM) (c.plan.getD c.at_.toNat nilS)).2 = 0 := by rw [this]
 obtain ⟨_, _, a3, a4⟩ := apply_after e
 exact ⟨a3, a4⟩
end Go.Proofs.YtfnljcallbalgaaGreatDoor

namespace Go.Proofs.YtfnljcallbalgaaGreatDoor
open Go Go.RowKit
set_option maxRecDepth 100000
set_option maxHeartbeats 8000000
set_option linter.unusedSimpArgs false
set_option linter.unusedVariables false
theorem failL_k {p : Prob} {m : MixD} {l : List StepD} {k : Nat} {i : Int} (hk : k < l.length) : failL p m (l.drop k) i = if ¬ (applyP p m (l.getD k nilS)).2 = 0 ∨ (l.getD k nilS).kind = 4 then (i, nilM, nilC, 0)
    else if (blameP p (applyP p m (l.getD k nilS)).1).2.2 = 0 then (i, (blameP p (applyP p m (l.getD k nilS)).1).1, (blameP p (applyP p m (l.getD k nilS)).1).2.1, 0)
    else failL p (applyP p m (l.getD k nilS)).1 (l.drop (k + 1)) (i + 1) := by
 rw [dropD_cons (d := nilS) hk]; rfl
theorem failL_e {p : Prob} {m : MixD} {l : List StepD} {k : Nat} {i : Int} (hk : ¬ k < l.length) : failL p m (l.drop k) i = if goalP p m = true then (0, nilM, nilC, 15) else (i, nilM, nilC, 14) := by
 rw [List.drop_eq_nil_of_le (by omega)]; rfl
theorem apply_u {p : Prob} {m : MixD} {s : StepD} (hm : MixG p m) (h : (applyP p m s).2 = 0) : MixG p (applyP p m s).1 := by
 obtain ⟨a1, a2, a3, a4⟩ := apply_after h
 exact after_g hm (stepAt_of a3 a4) a1
theorem pfail_fn (p : Prob) (l : List StepD) (h : vpErr p = 0) (hl : l.length ≤ 1000000) : FnSound Tryz.prog 143 [.val true (probC p), .val false [.d (.sl 3 (dSteps l))]] [] { vals := [(false, [.d (.v (.int .i64 (failP p l).1))]), (true, mixC (failP p l).2.1), (true, confC (failP p l).2.2.1), (false, [.d (.v (.int .i64 (failP p l).2.2.2))])] } := by
 have hg := start_g h
 have fA : (blameP p (startM p)).2.2 = 0 → failP p l = (-1, (blameP p (startM p)).1, (blameP p (startM p)).2.1, 0) := fun a => by unfold failP; rw [if_neg (by simpa using h), if_pos a]
 have fB : ¬ (blameP p (startM p)).2.2 = 0 → failP p l = failL p (startM p) l 0 := fun a => by unfold failP; rw [if_neg (by simpa using h), if_neg a]
 refine startW (tm := [(0, _), (1, _)]) Tryz.func143 rfl Tryz.ntmps143 rfl rfl rfl rfl ?_
 repeat' (first
 |(with_reducible refine K_ca 97 ?_); refine zC (pstart_fn p h) ?_
 |(with_reducible refine K_ca 204 ?_); (first
 |refine zC (pblame_fn p (startM p) hg.u) ?_
 |refine zC (pblame_fn p (applyP p y.2 (l.getD y.1 nilS)).1 (apply_u hy.2.1 (by assumption)).u) ?_)
 |(with_reducible refine K_ca 205 ?_); refine zC (qapply_fn p y.2 (l.getD y.1 nilS) hy.2.1.u) ?_
 |(with_reducible refine K_ca 206 ?_); refine zC (pgoal_fn p y.2 hy.2.1.u) ?_
 |(with_reducible refine blk_at (id := 0) ?_); ((with_reducible refine JL.loopW 0 899 (fun (y : Nat × MixD) tm => (43, .one false [.d (.v (.int .i64 ((y.1 : Int))))]) :: tm) (fun (y : Nat × MixD) bo => ((320, 200), some (.st 57 [.d (.sl 1 ((dInts y.2.base))), .d (.sl 1 ((dInts y.2.next))), .d (.sl 1 ((dSets y.2.held)))])) :: bo) (fun (y : Nat × MixD) => y.1 ≤ l.length ∧ MixG p y.2 ∧ failL p y.2 (l.drop y.1) y.1 = failP p l) (fun (y : Nat × MixD) => l.length - y.1) ((0, startM p)) ?_ (fun y hy => ?_) ?_); (focus (apply SubW [] rfl ?_ ?_ rfl ?_; (repeat' (first | exact kA | refine kB ?_ | refine kC ?_ ?_ | exact kD | fail)))))
 |((with_reducible refine round_next (i := y) ((y.1 + 1, (applyP p y.2 (l.getD y.1 nilS)).1)) ?_ ?_ ?_); (focus (apply SubW [] rfl ?_ ?_ rfl ?_; (repeat' (first | exact kA | refine kB ?_ | refine kC ?_ ?_ | exact kD | fail)))))
 |refine wA ?_
 |(refine wC ?_ ?_ <;> intro hc)
 |refine wB ?_ ?_
 |(with_reducible refine JL.block ?_)
 |(with_reducible refine F_at ?_); refine eW (vs := [(_, _), (_, _), (_, _), (_, _)]) Tryz.results143 ?_; (focus (repeat' (first | exact oA | refine oB ?_ | refine oC ?_ ?_ | fail)))
 |exact oM
 |fail)
 all_goals first
  | (rw [fA hc] <;> rfl)
  | (have d : ¬ (applyP p y.2 (l.getD y.1 nilS)).2 = 0 := hc; have q := hy.2.2; rw [failL_k (by omega), if_pos (Or.inl d)] at q; rw [← q] <;> rfl)
  | (have d : (l.getD y.1 nilS).kind = 4 := hc; have q := hy.2.2; rw [failL_k (by omega), if_pos (Or.inr d)] at q; rw [← q] <;> rfl)
  | (have d1 : (applyP p y.2 (l.getD y.1 nilS)).2 = 0 := by assumption
     have d2 : ¬ (l.getD y.1 nilS).kind = 4 := by assumption
     have d3 : ¬ (¬ (applyP p y.2 (l.getD y.1 nilS)).2 = 0 ∨ (l.getD y.1 nilS).kind = 4) := fun a => a.elim (fun b => b d1) d2
     have q := hy.2.2
     rw [failL_k (by omega), if_neg d3] at q
     first
      | (rw [if_pos hc] at q; rw [← q] <;> rfl)
      | (rw [if_neg hc] at q; exact ⟨by dsimp only; omega, apply_u hy.2.1 d1, q⟩))
  | (have q := hy.2.2; rw [failL_e (by omega), if_pos (by simpa using hc)] at q; rw [← q] <;> rfl)
  | (have q := hy.2.2; rw [failL_e (by omega), if_neg (by simpa using hc)] at q; rw [← q] <;> first | rfl | (show (l.length : Int) = (y.1 : Int); omega))
  | exact ⟨Nat.zero_le _, hg, (fB hc).symm⟩
  | trace_state
theorem pcheck_fn (p : Prob) (l : List StepD) (h : vpErr p = 0) (hl : l.length ≤ 1000000) : FnSound Tryz.prog 96 [.val true (probC p), .val false [.d (.sl 3 (dSteps l))]] [] { vals := [(false, [.d (.v (.bool (checkP p l)))])] } := by
 refine startW (tm := [(0, _), (1, _)]) Tryz.func96 rfl Tryz.ntmps96 rfl rfl rfl rfl ?_
 repeat' (first
 |(with_reducible refine K_ca 143 ?_); refine zC (pfail_fn p l h hl) ?_
 |refine wA ?_
 |(refine wC ?_ ?_ <;> intro hc)
 |refine wB ?_ ?_
 |(with_reducible refine JL.block ?_)
 |(with_reducible refine F_at ?_); refine eW (vs := [(_, _)]) Tryz.results96 ?_; (focus (repeat' (first | exact oA | refine oB ?_ | refine oC ?_ ?_ | fail)))
 |exact oM
 |fail)
 all_goals first | rfl | trace_state
theorem psetx_fn (v : Int) : FnSound Tryz.prog 142 [.val false [.d (.v (.int .i64 v))]] [] { vals := [(false, [.d (.v (.bool (!replOK v)))])] } := by
 refine startW (tm := [(0, _)]) Tryz.func142 rfl Tryz.ntmps142 rfl rfl rfl rfl ?_
 repeat' (first
 |refine wA ?_
 |(refine wC ?_ ?_ <;> intro hc)
 |refine wB ?_ ?_
 |(with_reducible refine JL.block ?_)
 |(with_reducible refine F_at ?_); refine eW (vs := [(_, _)]) Tryz.results142 ?_; (focus (repeat' (first | exact oA | refine oB ?_ | refine oC ?_ ?_ | fail)))
 |exact oM
 |fail)
 all_goals (unfold replOK; first | (rw [decide_eq_false (by omega)]; rfl) | (rw [← decide_not]; congr 1; exact propext (by omega)) | trace_state)
theorem any_rep {rs : List Int} : (rs.any fun v => !replOK v) = !rs.all replOK := by
 induction rs with
 | nil => rfl
 | cons x r ih => rw [List.any_cons, List.all_cons, ih]; cases replOK x <;> simp
theorem psetting_fn (p : Prob) (rs : List Int) (hl : rs.length ≤ 1000000) : FnSound Tryz.prog 95 [.val true (probC p), .val false [.d (.sl 1 (dInts rs))]] [] { vals := [(false, [.d (.v (.int .i64 (setErr p rs)))])] } := by
 refine startW (tm := [(0, _), (1, _)]) Tryz.func95 rfl Tryz.ntmps95 rfl rfl rfl rfl ?_
 repeat' (first
 |(with_reducible refine K_ca 63 ?_); refine zC (vp_fn p) ?_
 |(with_reducible refine K_ca 64 ?_); refine zC (contains_fn 142 (fun v => !replOK v) ⟨by kernel_rfl⟩ psetx_fn rs hl) ?_
 |refine wA ?_
 |(refine wC ?_ ?_ <;> intro hc)
 |refine wB ?_ ?_
 |(with_reducible refine JL.block ?_)
 |(with_reducible refine F_at ?_); refine eW (vs := [(_, _)]) Tryz.results95 ?_; (focus (repeat' (first | exact oA | refine oB ?_ | refine oC ?_ ?_ | fail)))
 |exact oM
 |fail)
 all_goals first
  | exact (setErr_vp hc).symm
  | exact (setErr_ar (by assumption) (by omega)).symm
  | (have d := hc; rw [any_rep] at d; unfold setErr; rw [if_neg (fun a => a (by assumption)), if_neg (by omega)]; (first | (rw [if_pos (by simpa using d)]; done) | (rw [if_neg (by simpa using d)]; done)))
  | trace_state
end Go.Proofs.YtfnljcallbalgaaGreatDoor

