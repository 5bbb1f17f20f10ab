/- Rules of runs and contracts of functions, for the claims of one seat. -/
import Derived.Test.YtdpeoolildjohaaGreatDoorQA14
import Derived.Test.YtdpeoolildjohaaGreatDoorQA15
import Derived.Test.YtdpeoolildjohaaGreatDoorQA24
namespace Go.Proofs.YtdpeoolildjohaaGreatDoor
open Go Go.RowKit
set_option maxRecDepth 100000
set_option maxHeartbeats 8000000
set_option linter.unusedSimpArgs false
set_option linter.unusedVariables false
theorem mbegin_fn (p : Prob) (rs : List Int) (c : CtlD) (a : List ActD) (h : CtlK p c) (hv : PlanV p c.plan) (hs : setErr p rs = 0) (hl : c.plan.length ≤ 1000000) (hrd : -1000000000 ≤ c.round ∧ c.round ≤ 1000000000) (hla : a.length ≤ 900) (hp : c.phase = 0) : FnSound Tryz.prog 124 [.io 124 (machC p rs c (1000, 0))] (actB a) (mRes p rs (beginC p rs c) (a ++ [entA c 1])) := by
 have w1 : w64 (c.round + 1) = c.round + 1 := w64_is (by omega)
 have hso := setErr_ok hs
 have hvp := vp_all hso.1
 have hrl := hso.2.1
 have h0 : 0 ≤ c.at_ ∧ c.at_ < c.plan.length := ⟨h.rng.1, h.lt (by omega)⟩
 have hu := h.g.u
 have hap := fun k => h.applies hv (.inl ⟨hp, k⟩)
 have hi := h.svc (by omega)
 have hfr := fun b => cfirst_fn rs (present c).idx b hso.2.2 (by omega)
 by_cases k3 : (present c).kind = 3
 ·have e : beginC p rs c = ⟨c.plan, c.at_, 4, c.replica, c.round + 1, c.token, c.mix⟩ := by unfold beginC; rw [if_pos k3, if_pos k3, if_neg (by omega), w1]
  rw [e]
  clear h hv hap hi hfr
  refine startK (tm := [(0, _)]) (mBo p rs c a) Tryz.func124 rfl Tryz.ntmps124 rfl rfl rfl rfl ?_
  repeat' (first
 |(with_reducible refine rgL (fun g => g == 99) ?_ ?_); exact rfl
 |(with_reducible refine K_ca 101 ?_); refine zT (mwrite_fn p rs c a 1 hrd (by omega)) ?_
 |(with_reducible refine K_ca 99 ?_); refine zC (mpresent_fn p rs ⟨c.plan, c.at_, c.phase, c.replica, c.round + 1, c.token, c.mix⟩ (a ++ [entA c 1]) h0 hl (present c) rfl) ?_
 |refine wA ?_
 |(refine wC ?_ ?_ <;> intro hc)
 |refine wB ?_ ?_
 |(with_reducible refine JL.block ?_)
 |(with_reducible refine FK_at ?_); refine eK Tryz.results124 ?_
 |exact oM
 |fail)
  all_goals first | (exfalso; omega) | kernel_rfl
 ·have hi := hi k3
  have hfr := hfr (by omega)
  by_cases k1 : (present c).kind = 1
  ·have e : beginC p rs c = ⟨c.plan, c.at_, 1, firstR rs (present c).idx, c.round + 1, c.token, afterM p c.mix (present c)⟩ := by unfold beginC; rw [if_neg k3, if_neg k3, if_pos k1, w1]
   have hmv := mmove_fn p rs c.plan c.at_ c.phase c.replica (c.round + 1) c.token c.mix (a ++ [entA c 1]) (present c) _ hu (hap k1)
   rw [e]
   clear h hv hap
   refine startK (tm := [(0, _)]) (mBo p rs c a) Tryz.func124 rfl Tryz.ntmps124 rfl rfl rfl rfl ?_
   repeat' (first
 |(with_reducible refine rgL (fun g => g == 99) ?_ ?_); exact rfl
 |(with_reducible refine K_ca 101 ?_); refine zT (mwrite_fn p rs c a 1 hrd (by omega)) ?_
 |(with_reducible refine K_ca 99 ?_); refine zC (mpresent_fn p rs ⟨c.plan, c.at_, c.phase, c.replica, c.round + 1, c.token, c.mix⟩ (a ++ [entA c 1]) h0 hl (present c) rfl) ?_
 |(with_reducible refine K_ca 127 ?_); refine zT (hmv) ?_
 |(with_reducible refine K_ca 85 ?_); refine zC (hfr) ?_
 |refine wA ?_
 |(refine wC ?_ ?_ <;> intro hc)
 |refine wB ?_ ?_
 |(with_reducible refine JL.block ?_)
 |(with_reducible refine FK_at ?_); refine eK Tryz.results124 ?_
 |exact oM
 |fail)
   all_goals first | (exfalso; omega) | kernel_rfl
  ·have e : beginC p rs c = ⟨c.plan, c.at_, 1, firstR rs (present c).idx, c.round + 1, c.token, c.mix⟩ := by unfold beginC; rw [if_neg k3, if_neg k3, if_neg k1, w1]
   rw [e]
   clear h hv hap
   refine startK (tm := [(0, _)]) (mBo p rs c a) Tryz.func124 rfl Tryz.ntmps124 rfl rfl rfl rfl ?_
   repeat' (first
 |(with_reducible refine rgL (fun g => g == 99) ?_ ?_); exact rfl
 |(with_reducible refine K_ca 101 ?_); refine zT (mwrite_fn p rs c a 1 hrd (by omega)) ?_
 |(with_reducible refine K_ca 99 ?_); refine zC (mpresent_fn p rs ⟨c.plan, c.at_, c.phase, c.replica, c.round + 1, c.token, c.mix⟩ (a ++ [entA c 1]) h0 hl (present c) rfl) ?_
 |(with_reducible refine K_ca 85 ?_); refine zC (hfr) ?_
 |refine wA ?_
 |(refine wC ?_ ?_ <;> intro hc)
 |refine wB ?_ ?_
 |(with_reducible refine JL.block ?_)
 |(with_reducible refine FK_at ?_); refine eK Tryz.results124 ?_
 |exact oM
 |fail)
   all_goals first | (exfalso; omega) | kernel_rfl
theorem mdone_fn (p : Prob) (rs : List Int) (c : CtlD) (a : List ActD) (h : CtlK p c) (hv : PlanV p c.plan) (hs : setErr p rs = 0) (hl : c.plan.length ≤ 1000000) (hrd : -1000000000 ≤ c.round ∧ c.round ≤ 1000000000) (hla : a.length ≤ 900) (hd : (c.phase = 1 ∧ (present c).kind = 2) ∨ c.phase = 2 ∨ c.phase = 4) : FnSound Tryz.prog 100 [.io 124 (machC p rs c (1000, 0))] (actB a) (mRes p rs (doneC p c) (a ++ [entA c 2])) := by
 have w1 : w64 (c.round + 1) = c.round + 1 := w64_is (by omega)
 have h0 : 0 ≤ c.at_ ∧ c.at_ < c.plan.length := ⟨h.rng.1, h.lt (by omega)⟩
 have w2 : w64 (c.at_ + 1) = c.at_ + 1 := w64_is (by omega)
 have hu := h.g.u
 have hk2 := fun b => (h.ph2 b).1
 have hap := fun b => h.applies hv b
 clear hs h hv
 by_cases k1 : (present c).kind = 1
 ·skip
  by_cases hq : c.at_ + 1 = c.plan.length
  ·have e : doneC p c = ⟨c.plan, c.at_ + 1, 6, 0, c.round + 1, c.token, c.mix⟩ := by unfold doneC; rw [w2, if_pos hq, w1, if_neg (fun b => b k1)]
   rw [e]
   clear hap hk2
   refine startK (tm := [(0, _)]) (mBo p rs c a) Tryz.func100 rfl Tryz.ntmps100 rfl rfl rfl rfl ?_
   repeat' (first
 |(with_reducible refine rgL (fun g => g == 99) ?_ ?_); exact rfl
 |(with_reducible refine K_ca 101 ?_); refine zT (mwrite_fn p rs c a 2 hrd (by omega)) ?_
 |(with_reducible refine K_ca 99 ?_); refine zC (mpresent_fn p rs ⟨c.plan, c.at_, c.phase, c.replica, c.round + 1, c.token, c.mix⟩ (a ++ [entA c 2]) h0 hl (present c) rfl) ?_
 |refine wA ?_
 |(refine wC ?_ ?_ <;> intro hc)
 |refine wB ?_ ?_
 |(with_reducible refine JL.block ?_)
 |(with_reducible refine FK_at ?_); refine eK Tryz.results100 ?_
 |exact oM
 |fail)
   all_goals first | (exfalso; omega) | kernel_rfl
  ·have e : doneC p c = ⟨c.plan, c.at_ + 1, 0, 0, c.round + 1, c.token, c.mix⟩ := by unfold doneC; rw [w2, if_neg hq, w1, if_neg (fun b => b k1)]
   rw [e]
   clear hap hk2
   refine startK (tm := [(0, _)]) (mBo p rs c a) Tryz.func100 rfl Tryz.ntmps100 rfl rfl rfl rfl ?_
   repeat' (first
 |(with_reducible refine rgL (fun g => g == 99) ?_ ?_); exact rfl
 |(with_reducible refine K_ca 101 ?_); refine zT (mwrite_fn p rs c a 2 hrd (by omega)) ?_
 |(with_reducible refine K_ca 99 ?_); refine zC (mpresent_fn p rs ⟨c.plan, c.at_, c.phase, c.replica, c.round + 1, c.token, c.mix⟩ (a ++ [entA c 2]) h0 hl (present c) rfl) ?_
 |refine wA ?_
 |(refine wC ?_ ?_ <;> intro hc)
 |refine wB ?_ ?_
 |(with_reducible refine JL.block ?_)
 |(with_reducible refine FK_at ?_); refine eK Tryz.results100 ?_
 |exact oM
 |fail)
   all_goals first | (exfalso; omega) | kernel_rfl
 ·have hmv := mmove_fn p rs c.plan c.at_ c.phase c.replica (c.round + 1) c.token c.mix (a ++ [entA c 2]) (present c) _ hu (hap (by rcases hd with b | b | b; exact .inr (.inl b); exact absurd (hk2 (.inl b)) k1; exact .inr (.inr b)))
  by_cases hq : c.at_ + 1 = c.plan.length
  ·have e : doneC p c = ⟨c.plan, c.at_ + 1, 6, 0, c.round + 1, c.token, afterM p c.mix (present c)⟩ := by unfold doneC; rw [w2, if_pos hq, w1, if_pos k1]
   rw [e]
   clear hap hk2
   refine startK (tm := [(0, _)]) (mBo p rs c a) Tryz.func100 rfl Tryz.ntmps100 rfl rfl rfl rfl ?_
   repeat' (first
 |(with_reducible refine rgL (fun g => g == 99) ?_ ?_); exact rfl
 |(with_reducible refine K_ca 101 ?_); refine zT (mwrite_fn p rs c a 2 hrd (by omega)) ?_
 |(with_reducible refine K_ca 99 ?_); refine zC (mpresent_fn p rs ⟨c.plan, c.at_, c.phase, c.replica, c.round + 1, c.token, c.mix⟩ (a ++ [entA c 2]) h0 hl (present c) rfl) ?_
 |(with_reducible refine K_ca 127 ?_); refine zT (hmv) ?_
 |refine wA ?_
 |(refine wC ?_ ?_ <;> intro hc)
 |refine wB ?_ ?_
 |(with_reducible refine JL.block ?_)
 |(with_reducible refine FK_at ?_); refine eK Tryz.results100 ?_
 |exact oM
 |fail)
   all_goals first | (exfalso; omega) | kernel_rfl
  ·have e : doneC p c = ⟨c.plan, c.at_ + 1, 0, 0, c.round + 1, c.token, afterM p c.mix (present c)⟩ := by unfold doneC; rw [w2, if_neg hq, w1, if_pos k1]
   rw [e]
   clear hap hk2
   refine startK (tm := [(0, _)]) (mBo p rs c a) Tryz.func100 rfl Tryz.ntmps100 rfl rfl rfl rfl ?_
   repeat' (first
 |(with_reducible refine rgL (fun g => g == 99) ?_ ?_); exact rfl
 |(with_reducible refine K_ca 101 ?_); refine zT (mwrite_fn p rs c a 2 hrd (by omega)) ?_
 |(with_reducible refine K_ca 99 ?_); refine zC (mpresent_fn p rs ⟨c.plan, c.at_, c.phase, c.replica, c.round + 1, c.token, c.mix⟩ (a ++ [entA c 2]) h0 hl (present c) rfl) ?_
 |(with_reducible refine K_ca 127 ?_); refine zT (hmv) ?_
 |refine wA ?_
 |(refine wC ?_ ?_ <;> intro hc)
 |refine wB ?_ ?_
 |(with_reducible refine JL.block ?_)
 |(with_reducible refine FK_at ?_); refine eK Tryz.results100 ?_
 |exact oM
 |fail)
   all_goals first | (exfalso; omega) | kernel_rfl
theorem mrepeat_fn (p : Prob) (rs : List Int) (c : CtlD) (a : List ActD) (h : CtlK p c) (hl : c.plan.length ≤ 1000000) (hla : a.length ≤ 900) : FnSound Tryz.prog 125 [.io 124 (machC p rs c (1000, 0))] (actB a) (mRes p rs c (a ++ repeatP c)) := by
 have h0 := fun b => (⟨h.rng.1, h.lt b⟩ : 0 ≤ c.at_ ∧ c.at_ < c.plan.length)
 have hi := h.svc
 have h1 := h.ph1
 have h2 := h.ph2
 have hcm := fun b i => mcommand_fn p rs c a b hl i
 have hpr := fun b => mpresent_fn p rs c a b hl (present c) rfl
 clear h
 by_cases p1 : c.phase = 1 ∨ c.phase = 3
 ·have hk : ¬ (present c).kind = 3 := by rcases p1 with b | b; (rcases h1 b with b | b <;> omega); have := (h2 (.inr b)).1; omega
  have hi := hi (by omega) hk
  have hcm := hcm (h0 (by omega)) (by omega)
  have e : repeatP c = [⟨2, nilE, c.round, c.replica, wantedP c, 0, 0⟩] := by unfold repeatP; rw [if_pos p1]
  rw [e]
  clear h0 h1 h2 hpr
  refine startK (tm := [(0, _)]) (mBo p rs c a) Tryz.func125 rfl Tryz.ntmps125 rfl rfl rfl rfl ?_
  repeat' (first
 |(with_reducible refine rgL (fun g => g == 126 || g == 99) ?_ ?_); exact rfl
 |(with_reducible refine K_ca 126 ?_); refine zC (hcm) ?_
 |refine wA ?_
 |(refine wC ?_ ?_ <;> intro hc)
 |refine wB ?_ ?_
 |(with_reducible refine JL.block ?_)
 |(with_reducible refine FK_at ?_); refine eK Tryz.results125 ?_
 |exact oM
 |fail)
  all_goals first | (exfalso; omega) | (rw [dActs_snoc]; kernel_rfl) | kernel_rfl
 ·by_cases p2 : c.phase = 2
  ·have hk : ¬ (present c).kind = 3 := by have := (h2 (.inl p2)).1; omega
   have hi := hi (by omega) hk
   have hcm := hcm (h0 (by omega)) (by omega)
   have hpr := hpr (h0 (by omega))
   have e : repeatP c = [⟨3, nilE, c.round, c.replica, wantedP c, (present c).idx, 0⟩] := by unfold repeatP; rw [if_neg p1, if_pos p2]
   rw [e]
   clear h0 h1 h2
   refine startK (tm := [(0, _)]) (mBo p rs c a) Tryz.func125 rfl Tryz.ntmps125 rfl rfl rfl rfl ?_
   repeat' (first
 |(with_reducible refine rgL (fun g => g == 126 || g == 99) ?_ ?_); exact rfl
 |(with_reducible refine K_ca 126 ?_); refine zC (hcm) ?_
 |(with_reducible refine K_ca 99 ?_); refine zC (hpr) ?_
 |refine wA ?_
 |(refine wC ?_ ?_ <;> intro hc)
 |refine wB ?_ ?_
 |(with_reducible refine JL.block ?_)
 |(with_reducible refine FK_at ?_); refine eK Tryz.results125 ?_
 |exact oM
 |fail)
   all_goals first | (exfalso; omega) | (rw [dActs_snoc]; kernel_rfl) | kernel_rfl
  ·by_cases p4 : c.phase = 4
   ·have hpr := hpr (h0 (by omega))
    have e : repeatP c = [⟨4, nilE, c.round, 0, 0, 0, (present c).idx⟩] := by unfold repeatP; rw [if_neg p1, if_neg p2, if_pos p4]
    rw [e]
    clear h0 h1 h2 hcm hi
    refine startK (tm := [(0, _)]) (mBo p rs c a) Tryz.func125 rfl Tryz.ntmps125 rfl rfl rfl rfl ?_
    repeat' (first
 |(with_reducible refine rgL (fun g => g == 126 || g == 99) ?_ ?_); exact rfl
 |(with_reducible refine K_ca 99 ?_); refine zC (hpr) ?_
 |refine wA ?_
 |(refine wC ?_ ?_ <;> intro hc)
 |refine wB ?_ ?_
 |(with_reducible refine JL.block ?_)
 |(with_reducible refine FK_at ?_); refine eK Tryz.results125 ?_
 |exact oM
 |fail)
    all_goals first | (exfalso; omega) | (rw [dActs_snoc]; kernel_rfl) | kernel_rfl
   ·have e : repeatP c = [] := by unfold repeatP; rw [if_neg p1, if_neg p2, if_neg p4]
    rw [e, List.append_nil]
    clear h0 h1 h2 hcm hi hpr
    refine startK (tm := [(0, _)]) (mBo p rs c a) Tryz.func125 rfl Tryz.ntmps125 rfl rfl rfl rfl ?_
    repeat' (first
 |refine wA ?_
 |(refine wC ?_ ?_ <;> intro hc)
 |refine wB ?_ ?_
 |(with_reducible refine JL.block ?_)
 |(with_reducible refine FK_at ?_); refine eK Tryz.results125 ?_
 |exact oM
 |fail)
    all_goals first | (exfalso; omega) | kernel_rfl
end Go.Proofs.YtdpeoolildjohaaGreatDoor

namespace Go.Proofs.YtdpeoolildjohaaGreatDoor
open Go Go.RowKit
set_option linter.unusedSimpArgs false
set_option linter.unusedVariables false
set_option maxRecDepth 100000
theorem sv_eqInt2 {P : Program} {t : TypeId} {k k' : IntKind} {a b : Int} (h : P.underlying t = some (.int k')) (d : Nat) : semVal P (Op.equalIn (d + 1) t (.int k a) (.int k b)) = some (a == b) := by
 simp only [Op.equalIn]
 rw [semVal_bind, semVal_underlying h]
 show semVal P (if k = k then pure (a == b) else _) = _
 rw [if_pos rfl]; rfl
theorem sv_cmd (a b c x y z : Int) (d : Nat) : semVal Tryz.prog (Op.equalIn (d + 2) 70 (.agg #[.int .i64 a, .int .i64 b, .int .i64 c]) (.agg #[.int .i64 x, .int .i64 y, .int .i64 z])) = some (decide (a = x ∧ b = y ∧ c = z)) := by
 have h3 : Tryz.prog.underlying 3 = some (.int .i64) := by kernel_rfl
 rw [Op.equalIn]
 rw [semVal_bind, semVal_underlying Tryz.underlying70]
 simp only [Option.bind_some]
 have hp : semVal Tryz.prog program = some Tryz.prog := rfl
 have hst : Tryz.prog.stoodInHeld 70 = false := by kernel_rfl
 have p0 : ∀ x y z : Value, semVal Tryz.prog (part 3 #[x, y, z] 0) = some x := fun x y z => by rfl
 have p1 : ∀ x y z : Value, semVal Tryz.prog (part 3 #[x, y, z] 1) = some y := fun x y z => by rfl
 have p2 : ∀ x y z : Value, semVal Tryz.prog (part 3 #[x, y, z] 2) = some z := fun x y z => by rfl
 simp only [semVal_bind, hp, Option.bind_some, hst, Bool.false_eq_true, if_false, List.forIn_toArray, List.forIn_cons, List.forIn_nil]
 by_cases e1 : a = x
 ·by_cases e2 : b = y
  ·by_cases e3 : c = z
   ·simp [semVal_bind, p0, p1, p2, sv_eqInt2 h3, semVal_pure, e1, e2, e3]
   ·simp [semVal_bind, p0, p1, p2, sv_eqInt2 h3, semVal_pure, e1, e2, e3]
  ·simp [semVal_bind, p0, p1, p2, sv_eqInt2 h3, semVal_pure, e1, e2]
 ·simp [semVal_bind, p0, p1, p2, sv_eqInt2 h3, semVal_pure, e1]
theorem sv_neCmd (a b c x y z : Int) : semVal Tryz.prog (binOp .neq 70 (.agg #[.int .i64 a, .int .i64 b, .int .i64 c]) (.agg #[.int .i64 x, .int .i64 y, .int .i64 z])) = some (.bool (!decide (a = x ∧ b = y ∧ c = z))) := by
 have : semVal Tryz.prog (Op.equal 70 (.agg #[.int .i64 a, .int .i64 b, .int .i64 c]) (.agg #[.int .i64 x, .int .i64 y, .int .i64 z])) = some (decide (a = x ∧ b = y ∧ c = z)) := sv_cmd a b c x y z 9998
 simp only [binOp]
 rw [semVal_bind, this]
 rfl
theorem sv_guardCmd (x y : Operand) (u v : Array Value) : semVal Tryz.prog (eqGuard .neq 70 x y (.agg u) (.agg v)) = some () := by
 have hp : semVal Tryz.prog program = some Tryz.prog := rfl
 have hg : Tryz.prog.eqGuardType Tryz.prog.depth 70 = false := by kernel_rfl
 unfold eqGuard
 simp [semVal_bind, hp, hg]
 rfl
section
variable {lend : FuncId → Bool} {N : Nat} {ops : Array Oper} {dr : Bool} {cs : List Code} {R : AX → St → Prop} {i : Nat} {os : List Oper} {tm : List (Nat × AV)} {bo : BO} {nx : Nat} {ns : List Note} {d : Nat} {pos : String} {ty : TypeId} {af : Array Edge}
theorem W.neCmd {ty' : TypeId} {x y : Operand} {a b c a' b' c' : Int} {v : Bool} (hv : decide (a = a' ∧ b = b' ∧ c = c') = v) (hd : Nat.blt d N = true) (hx : ev (lk tm) x = some (.one true [.d (.v (.int .i64 a)), .d (.v (.int .i64 b)), .d (.v (.int .i64 c))])) (hy : ev (lk tm) y = some (.one true [.d (.v (.int .i64 a')), .d (.v (.int .i64 b')), .d (.v (.int .i64 c'))])) (h : W Tryz.prog lend N ops dr cs R (i + 1) os ((d, .one false [.d (.v (.bool (!v)))]) :: tm) bo nx (ns ++ [⟨opKeys (lk tm) (lko bo) ⟨some d, .binOp .neq 70 x y ty', ty, pos, af, none⟩, []⟩])) : W Tryz.prog lend N ops dr cs R i (⟨some d, .binOp .neq 70 x y ty', ty, pos, af, none⟩ :: os) tm bo nx ns :=
 W.plain hd (fun lt hlt => by
  subst hv
  have hx' := (hlt x (by simp [Op.operands])).trans hx
  have hy' := (hlt y (by simp [Op.operands])).trans hy
  have hc : ∀ (a b c : Int) z, conV (.one true [.d (.v (.int .i64 a)), .d (.v (.int .i64 b)), .d (.v (.int .i64 c))]) = z → z = some (.agg #[.int .i64 a, .int .i64 b, .int .i64 c]) := fun _ _ _ z e => e.symm.trans rfl
  have hcv := fun a b c => hc a b c _ rfl
  unfold effPlain
  simp only [plainOp, Op.operands, List.all_cons, List.all_nil, hx', hy', Option.bind_some, hcv, Option.isSome_some, Bool.and_true, Bool.true_and, if_true]
  unfold execOp
  simp only [semVal_bind, hx', hy', Option.bind_some, hcv, Option.getD_some, sv_guardCmd, sv_neCmd, semVal_pure, Option.map_some, semVal_map]
  rfl) (fun _ _ _ _ _ _ => rfl) h
end
end Go.Proofs.YtdpeoolildjohaaGreatDoor

namespace Go.Proofs.YtdpeoolildjohaaGreatDoor
open Go Go.RowKit
set_option linter.unusedSimpArgs false
set_option linter.unusedVariables false
structure CtlR (p : Prob) (rs : List Int) (c : CtlD) : Prop where
 rest : ∃ q : Int, 0 ≤ q ∧ c.round = 2 * c.at_ + extraP c.phase + 3 * q ∧ (c.phase = 0 → c.mix = (mixesP p c.plan).getD c.at_.toNat nilM ∨ 1 ≤ q)
 idle : ¬ (c.phase = 1 ∨ c.phase = 2 ∨ c.phase = 3) → c.replica = 0
 busy : c.phase = 1 ∨ c.phase = 2 ∨ c.phase = 3 → ¬ (present c).kind = 2 → c.replica = firstR rs (present c).idx
 some_ : c.phase = 1 → (present c).kind = 2 → firstR rs (present c).idx ≤ c.replica ∧ c.replica ≤ firstR rs (present c).idx + rs.getD (present c).idx.toNat 0 - 1
 tk : 0 ≤ c.token
theorem extra0 : extraP 0 = 0 := rfl
theorem extra1 : extraP 1 = 1 := rfl
theorem extra2 : extraP 2 = 1 := rfl
theorem extra3 : extraP 3 = 2 := rfl
theorem extra4 : extraP 4 = 1 := rfl
theorem extra5 : extraP 5 = 2 := rfl
theorem busy_is (ph : Int) : busyP ph = true ↔ (ph = 1 ∨ ph = 2 ∨ ph = 3) := by unfold busyP; exact decide_eq_true_iff
theorem expect_K {p : Prob} {c : CtlD} (h : CtlK p c) (hck : checkP p c.plan = true) : (c.phase = 0 → expectP p c.plan c.at_ c.phase = ((mixesP p c.plan).getD c.at_.toNat nilM, 0)) ∧ (¬ c.phase = 0 → expectP p c.plan c.at_ c.phase = (c.mix, 0)) := by
 have hr := h.rng
 have hv := h.plan.vp
 have e : expectP p c.plan c.at_ c.phase = if c.phase = 0 ∨ c.phase = 6 ∨ (c.phase = 1 ∧ kindP c.plan c.at_ = 2) ∨ (c.phase = 4 ∧ kindP c.plan c.at_ = 3) then ((mixesP p c.plan).getD c.at_.toNat nilM, 0)
     else if (c.phase = 1 ∨ c.phase = 2 ∨ c.phase = 3) ∧ kindP c.plan c.at_ = 1 then ((mixesP p c.plan).getD (c.at_ + 1).toNat nilM, 0)
     else if c.phase = 5 ∧ kindP c.plan c.at_ = 1 then (abortedP p c.plan c.at_, 0)
     else (nilM, 7) := by
  unfold expectP
  rw [if_neg (by simpa using hv), if_neg (by rw [hck]; decide), if_neg (by rintro (b | b | b); omega; omega; exact b h.fin)]
 have hki : ¬ c.phase = 6 → kindP c.plan c.at_ = (present c).kind := fun a => by unfold kindP; rw [if_pos (h.lt a)]; rfl
 refine ⟨fun a => by rw [e, if_pos (.inl a)], fun a => ?_⟩
 rw [e]
 have hps := h.phs
 have : c.phase = 1 ∨ c.phase = 2 ∨ c.phase = 3 ∨ c.phase = 4 ∨ c.phase = 5 ∨ c.phase = 6 := by omega
 rcases this with q | q | q | q | q | q
 ·have k0 := hki (by omega)
  rcases h.ph1 q with ⟨k, m⟩ | ⟨k, m⟩
  ·rw [if_neg (by omega), if_pos ⟨.inl q, by omega⟩, m]
  ·rw [if_pos (.inr (.inr (.inl ⟨q, by omega⟩))), m]
 ·have k0 := hki (by omega)
  have := h.ph2 (.inl q)
  rw [if_neg (by omega), if_pos ⟨.inr (.inl q), by omega⟩, this.2]
 ·have k0 := hki (by omega)
  have := h.ph2 (.inr q)
  rw [if_neg (by omega), if_pos ⟨.inr (.inr q), by omega⟩, this.2]
 ·have k0 := hki (by omega)
  have := h.ph4 q
  rw [if_pos (.inr (.inr (.inr ⟨q, by omega⟩))), this.2]
 ·have k0 := hki (by omega)
  have := h.ph5 q
  rw [if_neg (by omega), if_neg (by omega), if_pos ⟨q, by omega⟩, this.2]
 ·rw [if_pos (.inr (.inl q)), h.ph6 q]
theorem CtlR.valid {p : Prob} {rs : List Int} {c : CtlD} (hr : CtlR p rs c) (h : CtlK p c) (hck : checkP p c.plan = true) (hs : setErr p rs = 0) : validP p rs c = true := by
 obtain ⟨q, q1, q2, q3⟩ := hr.rest
 obtain ⟨e1, e2⟩ := expect_K h hck
 have hz : (expectP p c.plan c.at_ c.phase).2 = 0 := by
  by_cases h0 : c.phase = 0
  ·rw [e1 h0]
  ·rw [e2 h0]
 have hrest : restP c = 3 * q := by unfold restP; omega
 have hlh : lowP rs c ≤ c.replica ∧ c.replica ≤ highP rs c := by
  unfold highP lowP
  by_cases hb : c.phase = 1 ∨ c.phase = 2 ∨ c.phase = 3
  ·rw [if_pos ((busy_is _).2 hb)]
   by_cases k2 : (present c).kind = 2
   ·rw [if_pos ⟨(busy_is _).2 hb, k2⟩]
    rcases hb with q | q | q
    ·have := hr.some_ q k2; omega
    ·have := (h.ph2 (.inl q)).1; omega
    ·have := (h.ph2 (.inr q)).1; omega
   ·rw [if_neg (fun a => k2 a.2)]
    have := hr.busy hb k2
    omega
  ·rw [if_neg (fun a => hb ((busy_is _).1 a)), if_neg (fun a => hb ((busy_is _).1 a.1))]
   have := hr.idle hb
   omega
 unfold validP
 have htk := hr.tk
 rw [if_neg (by rintro (a | a); exact a hs; omega), if_neg (fun a => a hz), if_neg (by omega), if_neg (by rw [hrest, Int.mul_tmod_right]; omega)]
 by_cases h0 : c.phase = 0
 ·rw [e1 h0]
  by_cases hm : c.mix = (mixesP p c.plan).getD c.at_.toNat nilM
  ·rw [if_pos hm]
  ·rw [if_neg hm]
   have hq := (q3 h0).resolve_left hm
   obtain ⟨k, m⟩ := (h.ph0 h0).resolve_left hm
   have hlt := h.lt (by omega)
   exact decide_eq_true ⟨h0, by unfold kindP; rw [if_pos hlt]; exact k, by omega, m⟩
 ·rw [e2 h0, if_pos rfl]
theorem CtlR.token {p : Prob} {rs : List Int} {c : CtlD} (h : CtlR p rs c) {t : Int} (ht : 0 ≤ t) : CtlR p rs { c with token := t } := ⟨h.rest, h.idle, h.busy, h.some_, ht⟩
theorem CtlR.tick {p : Prob} {rs : List Int} {c : CtlD} (h : CtlR p rs c) (hk : CtlK p c) (hs : setErr p rs = 0) (hrd : -1000000000 ≤ c.round ∧ c.round ≤ 1000000000) : CtlR p rs (tickP p rs c).1 := by
 unfold tickP
 by_cases h0 : c.phase = 0
 ·rw [if_neg (fun a => a h0)]
  obtain ⟨q, q1, q2, q3⟩ := h.rest
  rw [h0, extra0] at q2
  have w : w64 (c.round + 1) = c.round + 1 := w64_is (by omega)
  have hi := h.idle (by omega)
  have hst := hk.st (by omega)
  have hso := setErr_ok hs
  have hix := hst.1.nn
  show CtlR p rs (beginC p rs c)
  by_cases k3 : (present c).kind = 3
  ·have e : beginC p rs c = ⟨c.plan, c.at_, 4, c.replica, c.round + 1, c.token, c.mix⟩ := by unfold beginC; rw [if_pos k3, if_pos k3, w, if_neg (by omega)]
   rw [e]
   exact ⟨⟨q, q1, by show c.round + 1 = 2 * c.at_ + extraP 4 + 3 * q; rw [extra4]; omega, fun a => absurd (show (4 : Int) = 0 from a) (by decide)⟩, fun _ => hi, fun a => absurd (show (4 : Int) = 1 ∨ (4 : Int) = 2 ∨ (4 : Int) = 3 from a) (by decide), fun a => absurd (show (4 : Int) = 1 from a) (by decide), h.tk⟩
  ·have e : beginC p rs c = ⟨c.plan, c.at_, 1, firstR rs (present c).idx, c.round + 1, c.token, if (present c).kind = 1 then afterM p c.mix (present c) else c.mix⟩ := by unfold beginC; rw [if_neg k3, if_neg k3, w]
   rw [e]
   have hsv := hst.1.svc k3
   have hrr := hso.2.2 (present c).idx.toNat (by have := hso.2.1; omega)
   refine ⟨⟨q, q1, by show c.round + 1 = 2 * c.at_ + extraP 1 + 3 * q; rw [extra1]; omega, fun a => absurd (show (1 : Int) = 0 from a) (by decide)⟩, fun a => absurd (.inl rfl) a, fun _ _ => rfl, fun _ _ => ?_, h.tk⟩
   show firstR rs (present c).idx ≤ firstR rs (present c).idx ∧ firstR rs (present c).idx ≤ firstR rs (present c).idx + rs.getD (present c).idx.toNat 0 - 1
   omega
 ·rw [if_pos h0]; exact h
theorem CtlR.done {p : Prob} {rs : List Int} {c : CtlD} (h : CtlR p rs c) (hk : CtlK p c) (hl : c.plan.length ≤ 1000000) (hrd : -1000000000 ≤ c.round ∧ c.round ≤ 1000000000) (hd : (c.phase = 1 ∧ (present c).kind = 2) ∨ c.phase = 2 ∨ c.phase = 4) : CtlR p rs (doneC p c) := by
 obtain ⟨q, q1, q2, q3⟩ := h.rest
 have hr := hk.rng
 have hlt := hk.lt (by omega)
 have hx : extraP c.phase = 1 := by
  rcases hd with ⟨a, _⟩ | a | a <;> rw [a] <;> rfl
 rw [hx] at q2
 have w : w64 (c.round + 1) = c.round + 1 := w64_is (by omega)
 have w1 : w64 (c.at_ + 1) = c.at_ + 1 := w64_is (by omega)
 have hkd := hk.done hl hd
 have e : doneC p c = ⟨c.plan, c.at_ + 1, if c.at_ + 1 = c.plan.length then 6 else 0, 0, c.round + 1, c.token, if ¬ (present c).kind = 1 then afterM p c.mix (present c) else c.mix⟩ := by unfold doneC; rw [w, w1]
 rw [e] at hkd ⊢
 have hx2 : extraP (if c.at_ + 1 = c.plan.length then 6 else 0) = 0 := by split <;> rfl
 refine ⟨⟨q, q1, by show c.round + 1 = 2 * (c.at_ + 1) + extraP (if c.at_ + 1 = c.plan.length then 6 else 0) + 3 * q; rw [hx2]; omega, fun a => .inl ?_⟩, fun _ => rfl, fun a => ?_, fun a => ?_, h.tk⟩
 ·-- the mix behind the step is the plan's
  have e2 : (c.at_ + 1).toNat = c.at_.toNat + 1 := by omega
  show (if ¬ (present c).kind = 1 then afterM p c.mix (present c) else c.mix) = (mixesP p c.plan).getD (c.at_ + 1).toNat nilM
  have haf := hk.plan.after (k := c.at_.toNat) (by omega)
  have aft : ¬ (present c).kind = 1 → c.mix = (mixesP p c.plan).getD c.at_.toNat nilM → afterM p c.mix (present c) = (mixesP p c.plan).getD (c.at_ + 1).toNat nilM := fun _ m => by
   unfold afterM present
   rw [m, haf, e2]; rfl
  rcases hd with ⟨a1, a2⟩ | a1 | a1
  ·rw [if_pos (by omega)]
   rcases hk.ph1 a1 with ⟨k, _⟩ | ⟨_, m⟩
   ·omega
   ·exact aft (by omega) m
  ·have := hk.ph2 (.inl a1)
   rw [if_neg (fun b => b this.1)]; exact this.2
  ·have := hk.ph4 a1
   rw [if_pos (by omega)]; exact aft (by omega) this.2
 ·have a : (if c.at_ + 1 = c.plan.length then (6 : Int) else 0) = 1 ∨ (if c.at_ + 1 = c.plan.length then (6 : Int) else 0) = 2 ∨ (if c.at_ + 1 = c.plan.length then (6 : Int) else 0) = 3 := a
  split at a <;> omega
 ·have a : (if c.at_ + 1 = c.plan.length then (6 : Int) else 0) = 1 := a
  split at a <;> omega
theorem CtlR.next {p : Prob} {rs : List Int} {c : CtlD} {s : SigD} (h : CtlR p rs c) (hk : CtlK p c) (hs : setErr p rs = 0) (hl : c.plan.length ≤ 1000000) (hrd : -1000000000 ≤ c.round ∧ c.round ≤ 1000000000) (hrp : -1000000000 ≤ c.replica ∧ c.replica ≤ 1000000000) (ht : 0 ≤ s.token) : CtlR p rs (nextP p rs c s).1 := by
 obtain ⟨q, q1, q2, q3⟩ := h.rest
 have w : w64 (c.round + 1) = c.round + 1 := w64_is (by omega)
 have wr : w64 (c.replica + 1) = c.replica + 1 := w64_is (by omega)
 have hps := hk.phs
 unfold nextP
 split
 ·split
  ·exact h
  ·exact (h.token ht).tick (hk.token _) hs hrd
 ·split
  ·exact h
  ·split
   ·exact h.token (by decide)
   ·split
    ·exact h.tick hk hs hrd
    ·split
     ·rename_i hc
      unfold ackP
      split
      ·exact h
      ·split
       ·rename_i h3
        rw [h3, extra3] at q2
        exact ⟨⟨q, q1, by show c.round = 2 * c.at_ + extraP 5 + 3 * q; rw [extra5]; omega, fun a => absurd (show (5 : Int) = 0 from a) (by decide)⟩, fun _ => rfl, fun a => absurd (show (5 : Int) = 1 ∨ (5 : Int) = 2 ∨ (5 : Int) = 3 from a) (by decide), fun a => absurd (show (5 : Int) = 1 from a) (by decide), h.tk⟩
       ·rename_i h3
        have h1 : c.phase = 1 := by omega
        rw [h1, extra1] at q2
        split
        ·rename_i k1
         have hb := h.busy (.inl h1) (by omega)
         exact ⟨⟨q, q1, by show c.round = 2 * c.at_ + extraP 2 + 3 * q; rw [extra2]; omega, fun a => absurd (show (2 : Int) = 0 from a) (by decide)⟩, fun a => absurd (.inr (.inl rfl)) a, fun _ _ => hb, fun a => absurd (show (2 : Int) = 1 from a) (by decide), h.tk⟩
        ·rename_i k1
         have k2 : (present c).kind = 2 := by
          rcases hk.ph1 h1 with ⟨k, _⟩ | ⟨k, _⟩
          ·exact absurd k k1
          ·exact k
         split
         ·exact h.done hk hl hrd (.inl ⟨h1, k2⟩)
         ·rename_i hne
          have hsm := h.some_ h1 k2
          refine ⟨⟨q, q1, by show c.round = 2 * c.at_ + extraP c.phase + 3 * q; rw [h1, extra1]; omega, q3⟩, fun a => absurd (.inl h1) a, fun _ b => absurd k2 b, fun _ _ => ?_, h.tk⟩
          show firstR rs (present c).idx ≤ w64 (c.replica + 1) ∧ w64 (c.replica + 1) ≤ firstR rs (present c).idx + rs.getD (present c).idx.toNat 0 - 1
          rw [wr]; omega
     ·split
      ·rename_i hc
       split
       ·exact h.done hk hl hrd (.inr (.inl hc.2.2))
       ·have h2 := hc.2.2
        rw [h2, extra2] at q2
        have hb := h.busy (.inr (.inl h2)) (by have := (hk.ph2 (.inl h2)).1; omega)
        exact ⟨⟨q, q1, by show w64 (c.round + 1) = 2 * c.at_ + extraP 3 + 3 * q; rw [extra3, w]; omega, fun a => absurd (show (3 : Int) = 0 from a) (by decide)⟩, fun a => absurd (.inr (.inr rfl)) a, fun _ _ => hb, fun a => absurd (show (3 : Int) = 1 from a) (by decide), h.tk⟩
      ·split
       ·rename_i hc; exact h.done hk hl hrd (.inr (.inr hc.2.2.1))
       ·split
        ·rename_i hc
         have h5 := hc.2
         rw [h5, extra5] at q2
         have hi := h.idle (by omega)
         exact ⟨⟨q + 1, by omega, by show w64 (c.round + 1) = 2 * c.at_ + extraP 0 + 3 * (q + 1); rw [extra0, w]; omega, fun _ => .inr (by omega)⟩, fun _ => hi, fun a => absurd (show (0 : Int) = 1 ∨ (0 : Int) = 2 ∨ (0 : Int) = 3 from a) (by decide), fun a => absurd (show (0 : Int) = 1 from a) (by decide), h.tk⟩
        ·exact h
theorem newP_r {p : Prob} {rs : List Int} {l : List StepD} (hs : setErr p rs = 0) (hc : checkP p l = true) : CtlR p rs (newP p rs l).1 := by
 have hv := (setErr_ok hs).1
 have hp := planOK_of hv (start_err hv) hc
 have e : newP p rs l = (⟨l, 0, if l.length = 0 then 6 else 0, 0, 0, 0, startM p⟩, 0) := by unfold newP; rw [if_neg (by simpa using hs), hc, if_neg (by decide)]
 have hm : startM p = (mixesP p l).getD 0 nilM := by rw [hp.mix, tr_0]
 rw [e]
 have hx2 : extraP (if l.length = 0 then 6 else 0) = 0 := by split <;> rfl
 refine ⟨⟨0, by decide, by show (0 : Int) = 2 * 0 + extraP (if l.length = 0 then 6 else 0) + 3 * 0; rw [hx2]; rfl, fun _ => .inl hm⟩, fun _ => rfl, fun a => ?_, fun a => ?_, by show (0 : Int) ≤ 0; decide⟩
 ·have a : (if l.length = 0 then (6 : Int) else 0) = 1 ∨ (if l.length = 0 then (6 : Int) else 0) = 2 ∨ (if l.length = 0 then (6 : Int) else 0) = 3 := a
  split at a <;> omega
 ·have a : (if l.length = 0 then (6 : Int) else 0) = 1 := a
  split at a <;> omega
end Go.Proofs.YtdpeoolildjohaaGreatDoor

namespace Go.Proofs.YtdpeoolildjohaaGreatDoor
open Go Go.RowKit
set_option maxRecDepth 100000
set_option maxHeartbeats 8000000
set_option linter.unusedSimpArgs false
set_option linter.unusedVariables false
theorem mtick_fn (p : Prob) (rs : List Int) (c : CtlD) (a : List ActD) (h : CtlK p c) (hv : PlanV p c.plan) (hs : setErr p rs = 0) (hl : c.plan.length ≤ 1000000) (hrd : -1000000000 ≤ c.round ∧ c.round ≤ 1000000000) (hla : a.length ≤ 800) : FnSound Tryz.prog 96 [.io 124 (machC p rs c (1000, 0))] (actB a) (mRes p rs (tickP p rs c).1 (a ++ (tickP p rs c).2)) := by
 by_cases hp : c.phase = 0
 ·have e : tickP p rs c = (beginC p rs c, entA c 1 :: repeatP (beginC p rs c)) := by unfold tickP; rw [if_neg (fun b => b hp)]
  have hbg := mbegin_fn p rs c a h hv hs hl hrd (by omega) hp
  have hrp := mrepeat_fn p rs (beginC p rs c) (a ++ [entA c 1]) (h.begin hp) hl (by simp; omega)
  rw [e]
  show FnSound _ _ _ _ (mRes p rs (beginC p rs c) (a ++ entA c 1 :: repeatP (beginC p rs c)))
  rw [List.append_cons]
  clear h hv hs e
  refine startK (tm := [(0, _)]) (mBo p rs c a) Tryz.func96 rfl Tryz.ntmps96 rfl rfl rfl rfl ?_
  repeat' (first
 |(with_reducible refine K_ca 124 ?_); refine zT (hbg) ?_
 |(with_reducible refine K_ca 125 ?_); refine zT (hrp) ?_
 |refine wA ?_
 |(refine wC ?_ ?_ <;> intro hc)
 |refine wB ?_ ?_
 |(with_reducible refine JL.block ?_)
 |(with_reducible refine FK_at ?_); refine eK Tryz.results96 ?_
 |exact oM
 |fail)
  all_goals first | (exfalso; omega) | kernel_rfl
 ·have e : tickP p rs c = (c, repeatP c) := by unfold tickP; rw [if_pos hp]
  have hrp := mrepeat_fn p rs c a h hl (by omega)
  rw [e]
  clear h hv hs e
  refine startK (tm := [(0, _)]) (mBo p rs c a) Tryz.func96 rfl Tryz.ntmps96 rfl rfl rfl rfl ?_
  repeat' (first
 |(with_reducible refine K_ca 125 ?_); refine zT (hrp) ?_
 |refine wA ?_
 |(refine wC ?_ ?_ <;> intro hc)
 |refine wB ?_ ?_
 |(with_reducible refine JL.block ?_)
 |(with_reducible refine FK_at ?_); refine eK Tryz.results96 ?_
 |exact oM
 |fail)
  all_goals first | (exfalso; omega) | kernel_rfl
theorem mack0_fn (p : Prob) (rs : List Int) (c : CtlD) (a : List ActD) (k tk rd rp vr tb : Int) (pa : Bool) (h : CtlK p c) (hl : c.plan.length ≤ 1000000) (hla : a.length ≤ 900) (hn : ¬ (c.phase = 1 ∨ c.phase = 3) ∨ ¬ (c.round = rd ∧ c.replica = rp ∧ wantedP c = vr)) : FnSound Tryz.prog 97 [.io 124 (machC p rs c (1000, 0)), .val true [.d (.v (.int .i64 k)), .d (.v (.int .i64 tk)), .d (.v (.int .i64 rd)), .d (.v (.int .i64 rp)), .d (.v (.int .i64 vr)), .d (.v (.bool pa)), .d (.v (.int .i64 tb))]] (actB a) (mRes p rs c a) := by
 have h0 := fun b => (⟨h.rng.1, h.lt b⟩ : 0 ≤ c.at_ ∧ c.at_ < c.plan.length)
 have hk1 := h.ph1
 have hk2 := h.ph2
 have hi := fun b : c.phase = 1 ∨ c.phase = 3 => h.svc (by omega) (by rcases b with b | b; (rcases hk1 b with x | x <;> omega); have := (hk2 (.inr b)).1; omega)
 have hcm := fun b i => mcommand_fn p rs c a b hl i
 clear h hk1 hk2
 by_cases hp : c.phase = 1 ∨ c.phase = 3
 ·have hne : decide (c.round = rd ∧ c.replica = rp ∧ wantedP c = vr) = false := decide_eq_false (by rcases hn with b | b; exact absurd hp b; exact b)
  have hi := hi hp
  have hcm := hcm (h0 (by omega)) (by omega)
  clear hn
  refine startK (tm := [(0, _), (1, _)]) (mBo p rs c a) Tryz.func97 rfl Tryz.ntmps97 rfl rfl rfl rfl ?_
  repeat' (first
 |(with_reducible refine JL.regionW (lend := (fun g => g == 126 || g == 99)) (id := 5) 500 mo ?_ ?_); exact rfl
 |(with_reducible refine JL.regionW (lend := (fun g => g == 126 || g == 99)) (id := 6) 600 mo ?_ ?_); exact rfl
 |(with_reducible refine JL.regionW (lend := (fun g => g == 126 || g == 99)) (id := 7) 700 mo ?_ ?_); exact rfl
 |(with_reducible refine JL.regionW (lend := (fun g => g == 126 || g == 99)) (id := 8) 800 mo ?_ ?_); exact rfl
 |(with_reducible refine JL.regionW (lend := (fun g => g == 126 || g == 99)) (id := 9) 900 mo ?_ ?_); exact rfl
 |(with_reducible refine JL.regionW (lend := (fun g => g == 126 || g == 99)) (id := 10) 1000 mo ?_ ?_); exact rfl
 |(with_reducible refine JL.regionW (lend := (fun g => g == 126 || g == 99)) (id := 11) 1100 mo ?_ ?_); exact rfl
 |(with_reducible refine JL.regionW (lend := (fun g => g == 126 || g == 99)) (id := 4) 1200 mo ?_ ?_); exact rfl
 |(with_reducible refine rgL (fun g => g == 126 || g == 99) ?_ ?_); exact rfl
 |(with_reducible refine K_ca 126 ?_); refine zC (hcm) ?_
 |(with_reducible refine W_at ?_); (first
 |(refine W.neCmd hne rfl rfl rfl ?_))
 |refine wA ?_
 |(refine wC ?_ ?_ <;> intro hc)
 |refine wB ?_ ?_
 |(with_reducible refine JL.block ?_)
 |(with_reducible refine FK_at ?_); refine eK Tryz.results97 ?_
 |exact oM
 |fail)
  all_goals first | (exfalso; omega) | kernel_rfl
 ·clear hi hcm hn
  refine startK (tm := [(0, _), (1, _)]) (mBo p rs c a) Tryz.func97 rfl Tryz.ntmps97 rfl rfl rfl rfl ?_
  repeat' (first
 |(with_reducible refine rgn 5 500 ?_ ?_); exact rfl
 |(with_reducible refine rgn 6 600 ?_ ?_); exact rfl
 |(with_reducible refine rgn 7 700 ?_ ?_); exact rfl
 |(with_reducible refine rgn 8 800 ?_ ?_); exact rfl
 |(with_reducible refine rgn 9 900 ?_ ?_); exact rfl
 |(with_reducible refine rgn 10 1000 ?_ ?_); exact rfl
 |(with_reducible refine rgn 11 1100 ?_ ?_); exact rfl
 |(with_reducible refine rgn 4 1200 ?_ ?_); exact rfl
 |refine wA ?_
 |(refine wC ?_ ?_ <;> intro hc)
 |refine wB ?_ ?_
 |(with_reducible refine JL.block ?_)
 |(with_reducible refine FK_at ?_); refine eK Tryz.results97 ?_
 |exact oM
 |fail)
  all_goals first | (exfalso; omega) | kernel_rfl
theorem fr_get {rs : List Int} {i : Int} (h : ∀ k, k < rs.length → 1 ≤ rs.getD k 0 ∧ rs.getD k 0 ≤ 4) (hl : rs.length ≤ 100) (hi : 0 ≤ i ∧ i < rs.length) : 0 ≤ firstR rs i ∧ firstR rs i ≤ 400 ∧ 1 ≤ rs.getD i.toNat 0 ∧ rs.getD i.toNat 0 ≤ 4 := by
 have h1 := firstR_rng h hl i
 have h2 := h i.toNat (by omega)
 omega
theorem mack1_fn (p : Prob) (rs : List Int) (c : CtlD) (a : List ActD) (k tk rd rp vr tb : Int) (pa : Bool) (h : CtlK p c) (hv : PlanV p c.plan) (hr : CtlR p rs c) (hs : setErr p rs = 0) (hl : c.plan.length ≤ 1000000) (hrd : -1000000000 ≤ c.round ∧ c.round ≤ 1000000000) (hla : a.length ≤ 800) (hrp : -1000000000 ≤ c.replica ∧ c.replica ≤ 1000000000) (hp : c.phase = 1 ∨ c.phase = 3) (he : c.round = rd ∧ c.replica = rp ∧ wantedP c = vr) : FnSound Tryz.prog 97 [.io 124 (machC p rs c (1000, 0)), .val true [.d (.v (.int .i64 k)), .d (.v (.int .i64 tk)), .d (.v (.int .i64 rd)), .d (.v (.int .i64 rp)), .d (.v (.int .i64 vr)), .d (.v (.bool pa)), .d (.v (.int .i64 tb))]] (actB a) (mRes p rs (ackP p rs c ⟨k, tk, rd, rp, vr, pa, tb⟩).1 (a ++ (ackP p rs c ⟨k, tk, rd, rp, vr, pa, tb⟩).2)) := by
 have hso := setErr_ok hs
 have hvp := vp_all hso.1
 have hrl := hso.2.1
 have h0 : 0 ≤ c.at_ ∧ c.at_ < c.plan.length := ⟨h.rng.1, h.lt (by omega)⟩
 have hk1 := h.ph1
 have hk2 := h.ph2
 have hi := h.svc (by omega) (by rcases hp with b | b; (rcases hk1 b with x | x <;> omega); have := (hk2 (.inr b)).1; omega)
 have hcm := mcommand_fn p rs c a h0 hl (by omega)
 have hpr := mpresent_fn p rs c a h0 hl (present c) rfl
 have hne : decide (c.round = rd ∧ c.replica = rp ∧ wantedP c = vr) = true := decide_eq_true he
 have hfr := cfirst_fn rs (present c).idx (by omega) hso.2.2 (by omega)
 have hfg := fr_get hso.2.2 (by omega) (i := (present c).idx) (by omega)
 have e0 : ¬ (¬ rp = c.replica ∨ ¬ vr = wantedP c) := by omega
 by_cases p3 : c.phase = 3
 ·have e : ackP p rs c ⟨k, tk, rd, rp, vr, pa, tb⟩ = (⟨c.plan, c.at_, 5, 0, c.round, c.token, abortedP p c.plan c.at_⟩, []) := by
    unfold ackP
    rw [if_neg e0, if_pos p3]
  have hmv := mmove_fn p rs c.plan c.at_ c.phase c.replica c.round c.token c.mix a ⟨4, (present c).idx, 0⟩ _ h.g.u (h.aborts hv p3)
  rw [e, List.append_nil]
  clear h hv hr hs hso hvp hk1 hk2 e hfr hfg
  refine startK (tm := [(0, _), (1, _)]) (mBo p rs c a) Tryz.func97 rfl Tryz.ntmps97 rfl rfl rfl rfl ?_
  repeat' (first
 |(with_reducible refine JL.regionW (lend := (fun g => g == 126 || g == 99)) (id := 5) 500 mo ?_ ?_); exact rfl
 |(with_reducible refine JL.regionW (lend := (fun g => g == 126 || g == 99)) (id := 6) 600 mo ?_ ?_); exact rfl
 |(with_reducible refine JL.regionW (lend := (fun g => g == 126 || g == 99)) (id := 7) 700 mo ?_ ?_); exact rfl
 |(with_reducible refine JL.regionW (lend := (fun g => g == 126 || g == 99)) (id := 8) 800 mo ?_ ?_); exact rfl
 |(with_reducible refine JL.regionW (lend := (fun g => g == 126 || g == 99)) (id := 9) 900 mo ?_ ?_); exact rfl
 |(with_reducible refine JL.regionW (lend := (fun g => g == 126 || g == 99)) (id := 10) 1000 mo ?_ ?_); exact rfl
 |(with_reducible refine JL.regionW (lend := (fun g => g == 126 || g == 99)) (id := 11) 1100 mo ?_ ?_); exact rfl
 |(with_reducible refine JL.regionW (lend := (fun g => g == 126 || g == 99)) (id := 4) 1200 mo ?_ ?_); exact rfl
 |(with_reducible refine rgL (fun g => g == 126 || g == 99) ?_ ?_); exact rfl
 |(with_reducible refine K_ca 126 ?_); refine zC (hcm) ?_
 |(with_reducible refine K_ca 99 ?_); refine zC (hpr) ?_
 |(with_reducible refine K_ca 127 ?_); refine zT (hmv) ?_
 |(with_reducible refine W_at ?_); (first
 |(refine W.neCmd hne rfl rfl rfl ?_))
 |refine wA ?_
 |(refine wC ?_ ?_ <;> intro hc)
 |refine wB ?_ ?_
 |(with_reducible refine JL.block ?_)
 |(with_reducible refine FK_at ?_); refine eK Tryz.results97 ?_
 |exact oM
 |fail)
  all_goals first | (exfalso; omega) | kernel_rfl
 ·have p1 : c.phase = 1 := by omega
  by_cases k1 : (present c).kind = 1
  ·have e : ackP p rs c ⟨k, tk, rd, rp, vr, pa, tb⟩ = (⟨c.plan, c.at_, 2, c.replica, c.round, c.token, c.mix⟩, repeatP ⟨c.plan, c.at_, 2, c.replica, c.round, c.token, c.mix⟩) := by
     unfold ackP
     rw [if_neg e0, if_neg p3, if_pos k1]
   have hrp2 := mrepeat_fn p rs ⟨c.plan, c.at_, 2, c.replica, c.round, c.token, c.mix⟩ a (h.probe p1 k1) hl (by omega)
   rw [e]
   clear h hv hr hs hso hvp hk1 hk2 e hfr hfg
   refine startK (tm := [(0, _), (1, _)]) (mBo p rs c a) Tryz.func97 rfl Tryz.ntmps97 rfl rfl rfl rfl ?_
   repeat' (first
 |(with_reducible refine JL.regionW (lend := (fun g => g == 126 || g == 99)) (id := 5) 500 mo ?_ ?_); exact rfl
 |(with_reducible refine JL.regionW (lend := (fun g => g == 126 || g == 99)) (id := 6) 600 mo ?_ ?_); exact rfl
 |(with_reducible refine JL.regionW (lend := (fun g => g == 126 || g == 99)) (id := 7) 700 mo ?_ ?_); exact rfl
 |(with_reducible refine JL.regionW (lend := (fun g => g == 126 || g == 99)) (id := 8) 800 mo ?_ ?_); exact rfl
 |(with_reducible refine JL.regionW (lend := (fun g => g == 126 || g == 99)) (id := 9) 900 mo ?_ ?_); exact rfl
 |(with_reducible refine JL.regionW (lend := (fun g => g == 126 || g == 99)) (id := 10) 1000 mo ?_ ?_); exact rfl
 |(with_reducible refine JL.regionW (lend := (fun g => g == 126 || g == 99)) (id := 11) 1100 mo ?_ ?_); exact rfl
 |(with_reducible refine JL.regionW (lend := (fun g => g == 126 || g == 99)) (id := 4) 1200 mo ?_ ?_); exact rfl
 |(with_reducible refine rgL (fun g => g == 126 || g == 99) ?_ ?_); exact rfl
 |(with_reducible refine K_ca 126 ?_); refine zC (hcm) ?_
 |(with_reducible refine K_ca 99 ?_); refine zC (hpr) ?_
 |(with_reducible refine K_ca 125 ?_); refine zT (hrp2) ?_
 |(with_reducible refine W_at ?_); (first
 |(refine W.neCmd hne rfl rfl rfl ?_))
 |refine wA ?_
 |(refine wC ?_ ?_ <;> intro hc)
 |refine wB ?_ ?_
 |(with_reducible refine JL.block ?_)
 |(with_reducible refine FK_at ?_); refine eK Tryz.results97 ?_
 |exact oM
 |fail)
   all_goals first | (exfalso; omega) | kernel_rfl
  ·have k2 : (present c).kind = 2 := by rcases hk1 p1 with x | x <;> omega
   have hbz := hr.some_ p1 k2
   by_cases hq : c.replica = firstR rs (present c).idx + rs.getD (present c).idx.toNat 0 - 1
   ·have e : ackP p rs c ⟨k, tk, rd, rp, vr, pa, tb⟩ = (doneC p c, [entA c 2]) := by
      unfold ackP
      rw [if_neg e0, if_neg p3, if_neg k1, if_pos hq]
    have hdn := mdone_fn p rs c a h hv hs hl hrd (by omega) (.inl ⟨p1, k2⟩)
    rw [e]
    clear h hv hr hs hso hvp hk1 hk2 e
    refine startK (tm := [(0, _), (1, _)]) (mBo p rs c a) Tryz.func97 rfl Tryz.ntmps97 rfl rfl rfl rfl ?_
    repeat' (first
 |(with_reducible refine JL.regionW (lend := (fun g => g == 126 || g == 99)) (id := 5) 500 mo ?_ ?_); exact rfl
 |(with_reducible refine JL.regionW (lend := (fun g => g == 126 || g == 99)) (id := 6) 600 mo ?_ ?_); exact rfl
 |(with_reducible refine JL.regionW (lend := (fun g => g == 126 || g == 99)) (id := 7) 700 mo ?_ ?_); exact rfl
 |(with_reducible refine JL.regionW (lend := (fun g => g == 126 || g == 99)) (id := 8) 800 mo ?_ ?_); exact rfl
 |(with_reducible refine JL.regionW (lend := (fun g => g == 126 || g == 99)) (id := 9) 900 mo ?_ ?_); exact rfl
 |(with_reducible refine JL.regionW (lend := (fun g => g == 126 || g == 99)) (id := 10) 1000 mo ?_ ?_); exact rfl
 |(with_reducible refine JL.regionW (lend := (fun g => g == 126 || g == 99)) (id := 11) 1100 mo ?_ ?_); exact rfl
 |(with_reducible refine JL.regionW (lend := (fun g => g == 126 || g == 99)) (id := 4) 1200 mo ?_ ?_); exact rfl
 |(with_reducible refine rgL (fun g => g == 126 || g == 99) ?_ ?_); exact rfl
 |(with_reducible refine K_ca 126 ?_); refine zC (hcm) ?_
 |(with_reducible refine K_ca 99 ?_); refine zC (hpr) ?_
 |(with_reducible refine K_ca 85 ?_); refine zC (hfr) ?_
 |(with_reducible refine K_ca 100 ?_); refine zT (hdn) ?_
 |(with_reducible refine W_at ?_); (first
 |(refine W.neCmd hne rfl rfl rfl ?_))
 |refine wA ?_
 |(refine wC ?_ ?_ <;> intro hc)
 |refine wB ?_ ?_
 |(with_reducible refine JL.block ?_)
 |(with_reducible refine FK_at ?_); refine eK Tryz.results97 ?_
 |exact oM
 |fail)
    all_goals first | (exfalso; omega) | kernel_rfl
   ·have e : ackP p rs c ⟨k, tk, rd, rp, vr, pa, tb⟩ = (⟨c.plan, c.at_, c.phase, c.replica + 1, c.round, c.token, c.mix⟩, repeatP ⟨c.plan, c.at_, c.phase, c.replica + 1, c.round, c.token, c.mix⟩) := by
      unfold ackP
      rw [if_neg e0, if_neg p3, if_neg k1, if_neg hq, w64_is (by omega)]
    have hrp2 := mrepeat_fn p rs ⟨c.plan, c.at_, c.phase, c.replica + 1, c.round, c.token, c.mix⟩ a (h.replica _) hl (by omega)
    rw [e]
    clear h hv hr hs hso hvp hk1 hk2 e
    refine startK (tm := [(0, _), (1, _)]) (mBo p rs c a) Tryz.func97 rfl Tryz.ntmps97 rfl rfl rfl rfl ?_
    repeat' (first
 |(with_reducible refine JL.regionW (lend := (fun g => g == 126 || g == 99)) (id := 5) 500 mo ?_ ?_); exact rfl
 |(with_reducible refine JL.regionW (lend := (fun g => g == 126 || g == 99)) (id := 6) 600 mo ?_ ?_); exact rfl
 |(with_reducible refine JL.regionW (lend := (fun g => g == 126 || g == 99)) (id := 7) 700 mo ?_ ?_); exact rfl
 |(with_reducible refine JL.regionW (lend := (fun g => g == 126 || g == 99)) (id := 8) 800 mo ?_ ?_); exact rfl
 |(with_reducible refine JL.regionW (lend := (fun g => g == 126 || g == 99)) (id := 9) 900 mo ?_ ?_); exact rfl
 |(with_reducible refine JL.regionW (lend := (fun g => g == 126 || g == 99)) (id := 10) 1000 mo ?_ ?_); exact rfl
 |(with_reducible refine JL.regionW (lend := (fun g => g == 126 || g == 99)) (id := 11) 1100 mo ?_ ?_); exact rfl
 |(with_reducible refine JL.regionW (lend := (fun g => g == 126 || g == 99)) (id := 4) 1200 mo ?_ ?_); exact rfl
 |(with_reducible refine rgL (fun g => g == 126 || g == 99) ?_ ?_); exact rfl
 |(with_reducible refine K_ca 126 ?_); refine zC (hcm) ?_
 |(with_reducible refine K_ca 99 ?_); refine zC (hpr) ?_
 |(with_reducible refine K_ca 85 ?_); refine zC (hfr) ?_
 |(with_reducible refine K_ca 125 ?_); refine zT (hrp2) ?_
 |(with_reducible refine W_at ?_); (first
 |(refine W.neCmd hne rfl rfl rfl ?_))
 |refine wA ?_
 |(refine wC ?_ ?_ <;> intro hc)
 |refine wB ?_ ?_
 |(with_reducible refine JL.block ?_)
 |(with_reducible refine FK_at ?_); refine eK Tryz.results97 ?_
 |exact oM
 |fail)
    all_goals first | (exfalso; omega) | kernel_rfl
end Go.Proofs.YtdpeoolildjohaaGreatDoor

