/- Rules of runs and contracts of functions, for the claims of one seat. -/
import Derived.Test.YtngjhkgcfabciaaGreatQA13
import Derived.Test.YtngjhkgcfabciaaGreatQA15
import Derived.Test.YtngjhkgcfabciaaGreatQA22
import Derived.Test.YtngjhkgcfabciaaGreatQA27
import Derived.Test.YtngjhkgcfabciaaGreatQA39
namespace Go.Proofs.YtngjhkgcfabciaaGreat
open Go Go.RowKit
set_option maxRecDepth 100000
set_option maxHeartbeats 8000000
set_option linter.unusedSimpArgs false
set_option linter.unusedVariables false
def mixIO : List C := [.own (1000, 0), .own (1001, 0), .own (1002, 0)]
def mixBx (m : MixD) : List (Key × Box) := [((1000, 0), .sl 3 1 (dInts m.base)), ((1001, 0), .sl 3 1 (dInts m.next)), ((1002, 0), .sl 146 1 (dSets m.held))]
theorem qstart_no (p : Prob) (m : MixD) (s : StepD) (hi : 0 ≤ s.idx ∧ s.idx < m.base.length ∧ s.idx < m.next.length) (hn : 0 ≤ m.next.getD s.idx.toNat 0 ∨ s.ver = m.base.getD s.idx.toNat 0) : FnSound Tryz.prog 133 [.val true (probC p), .io 45 mixIO, .val true (stepC s)] (mixBx m) { vals := [(false, [.d (.v (.bool false))])], ios := [mixIO], bx := mixBx m } := by
 refine startO (tm := [(0, _), (1, _), (2, _)]) [((1, 0), some (.st 45 [.own (1000, 0), .own (1001, 0), .own (1002, 0)])), ((1000, 0), some (.sl 3 1 (dInts m.base))), ((1001, 0), some (.sl 3 1 (dInts m.next))), ((1002, 0), some (.sl 146 1 (dSets m.held)))] Tryz.func133 rfl Tryz.ntmps133 rfl rfl rfl rfl ?_
 repeat' (first
 |refine wA ?_
 |(refine wC ?_ ?_ <;> intro hc)
 |refine wB ?_ ?_
 |(with_reducible refine JL.block ?_)
 |(with_reducible refine FO_at ?_); refine eO (vs := [(_, _)]) Tryz.results133 ?_
 |exact oM
 |fail)
 all_goals first
  | kernel_rfl
  | (exfalso; omega)
  | trace_state
theorem qstart_yes (p : Prob) (m : MixD) (s : StepD) (hi : 0 ≤ s.idx ∧ s.idx < m.base.length ∧ s.idx < m.next.length) (hv : 0 ≤ s.ver ∧ s.ver ≤ 6) (hl : m.held.length = p.tabs.length) (ht : p.tabs.length ≤ 12) (hu : u8s m.held) (hn : ¬ (0 ≤ m.next.getD s.idx.toNat 0 ∨ s.ver = m.base.getD s.idx.toNat 0)) : FnSound Tryz.prog 133 [.val true (probC p), .io 45 mixIO, .val true (stepC s)] (mixBx m) { vals := [(false, [.d (.v (.bool true))])], ios := [mixIO], bx := mixBx (startedM p m s) } := by
 have hwl := @heldW_len p s.idx s.ver m.held
 refine startO (tm := [(0, _), (1, _), (2, _)]) [((1, 0), some (.st 45 [.own (1000, 0), .own (1001, 0), .own (1002, 0)])), ((1000, 0), some (.sl 3 1 (dInts m.base))), ((1001, 0), some (.sl 3 1 (dInts m.next))), ((1002, 0), some (.sl 146 1 (dSets m.held)))] Tryz.func133 rfl Tryz.ntmps133 rfl rfl rfl rfl ?_
 repeat' (first
 |(with_reducible refine K_ca 136 ?_); refine zC (qstored_fn (p.tabs.getD k nilT)) ?_
 |(with_reducible refine blk_at (id := 0) ?_); ((with_reducible refine JL.loopW 0 599 (fun (k : Nat) tm => (43, .one false [.d (.v (.int .i64 ((k : Int))))]) :: tm) (fun (k : Nat) bo => ((1002, 0), some (.sl 146 1 (dSets (heldW p s.idx s.ver m.held k)))) :: bo) (fun (k : Nat) => k ≤ p.tabs.length) (fun (k : Nat) => p.tabs.length - k) (0) ?_ (fun k hk => have hwk := @hwl k; ?_) ?_); (focus (apply SubW [] rfl ?_ ?_ rfl ?_; (repeat' (first | exact kA | refine kB ?_ | refine kC ?_ ?_ | exact kD | fail)))))
 |((with_reducible refine round_next (i := k) (k + 1) ?_ ?_ ?_); (focus (apply SubW [] rfl ?_ ?_ rfl ?_; (repeat' (first | exact kA | refine kB ?_ | refine kC ?_ ?_ | exact kD | fail)))))
 |refine wA ?_
 |(refine wC ?_ ?_ <;> intro hc)
 |refine wB ?_ ?_
 |(with_reducible refine JL.block ?_)
 |(with_reducible refine FO_at ?_); refine eO (vs := [(_, _)]) Tryz.results133 ?_
 |exact oM
 |fail)
 all_goals first
  | (rw [heldW_0]; done)
  | (rw [Int.toNat_natCast]; exact congrArg dSets (heldW_set (by omega) ⟨by assumption, decide_eq_true hc⟩))
  | (rw [heldW_keep (by omega) (fun a => hc (of_decide_eq_true a.2))]; done)
  | (rw [heldW_keep (by omega) (fun a => hc a.1)]; done)
  | (rw [heldW_all (by omega)]; kernel_rfl)
  | (exfalso; omega)
  | trace_state
noncomputable def ann0 : Ann := { own := fun _ => false, lend := fun _ => false, cl := fun _ s => s, ext := fun _ _ _ => none }
theorem ann0_ok (n : Nat) : CallOk Tryz.prog (acall Tryz.prog ann0 n) := acall_ok (by kernel_rfl) (fun _ _ _ _ h => by cases h) (fun _ _ _ _ _ _ _ _ _ h => h) n
noncomputable def tzChk (n : Nat) : Bool := match acall Tryz.prog ann0 3 139 [.val false [.d (.v (.int .u8 (n : Int)))]] [] with
 | some { vals := [(false, [.d (.v (.int .i64 z))])], ios := [], bx := [], kp := false } => decide (z = (tz8 n : Int))
 | _ => false
theorem tz_chk : ((List.range 64).all fun n => n == 0 || tzChk n) = true := by kernel_rfl
theorem tz_fn (x : Int) (h : 0 < x ∧ x < 64) : FnSound Tryz.prog 139 [.val false [.d (.v (.int .u8 x))]] [] { vals := [(false, [.d (.v (.int .i64 (tz8 x)))])] } := by
 have h1 := List.all_eq_true.1 tz_chk x.toNat (List.mem_range.2 (by omega))
 simp only [Bool.or_eq_true, beq_iff_eq] at h1
 have h2 := h1.resolve_left (by omega)
 unfold tzChk at h2
 have e : ((x.toNat : Nat) : Int) = x := by omega
 rw [e] at h2
 split at h2
 ·rename_i z hz
  have := of_decide_eq_true h2
  subst this
  exact ann0_ok 3 _ _ _ _ hz
 ·cases h2
theorem hasV_hi {x : Int} (h : 0 ≤ x ∧ x < 64) {u : Nat} (hu : 6 ≤ u) : hasV x u = false := by
 rw [hasV_bit ⟨by omega, by omega⟩, BitVec.getLsbD]
 apply Nat.testBit_lt_two_pow
 have e1 : (BitVec.ofInt 8 x).toNat = x.toNat := by rw [BitVec.toNat_ofInt]; omega
 rw [e1]
 exact Nat.lt_of_lt_of_le (show x.toNat < 2 ^ 6 by omega) (Nat.pow_le_pow_right (by omega) hu)
theorem rewr_fn (t : Tab) (x b : Int) (hx : 0 ≤ x ∧ x < 64) (hr : ∀ u : Nat, hasV x u = true → u < t.rw.length ∧ 0 ≤ b ∧ b < ((t.rw.getD u []).length : Int)) : FnSound Tryz.prog 138 [.val true (tabC t), .val false [.d (.v (.int .u8 x))], .val false [.d (.v (.int .i64 b))]] [] { vals := [(false, [.d (.v (.bool (rewL (fun u => rwAt t u b) x)))])] } := by
 refine startW (tm := [(0, _), (1, _), (2, _)]) Tryz.func138 rfl Tryz.ntmps138 rfl rfl rfl rfl ?_
 repeat' (first
 |(with_reducible refine rgn 4 400 ?_ ?_); exact rfl
 |(with_reducible refine rgn 5 500 ?_ ?_); exact rfl
 |(with_reducible refine rgn 3 600 ?_ ?_); exact rfl
 |(with_reducible refine K_ca 139 ?_); refine zC (tz_fn y (by omega)) ?_
 |(with_reducible refine blk_at (id := 0) ?_); ((with_reducible refine JL.loopW 0 299 (fun (y : Int) tm => (7, .one false [.d (.v (.int .u8 (y)))]) :: tm) (fun (y : Int) bo => bo) (fun (y : Int) => (0 ≤ y ∧ y < 64) ∧ (∀ u : Nat, hasV y u = true → u < t.rw.length ∧ 0 ≤ b ∧ b < ((t.rw.getD u []).length : Int)) ∧ rewL (fun u => rwAt t u b) y = rewL (fun u => rwAt t u b) x) (fun (y : Int) => y.toNat) (x) ?_ (fun y hy => have htz := @tz_at y; have hrt := hy.2.1 (tz8 y); ?_) ?_); (focus (apply SubW [] rfl ?_ ?_ rfl ?_; (repeat' (first | exact kA | refine kB ?_ | refine kC ?_ ?_ | exact kD | fail)))))
 |((with_reducible refine round_next (i := y) (clr8 y) ?_ ?_ ?_); (focus (apply SubW [] rfl ?_ ?_ rfl ?_; (repeat' (first | exact kA | refine kB ?_ | refine kC ?_ ?_ | exact kD | fail)))))
 |refine wA ?_
 |(refine wC ?_ ?_ <;> intro hc)
 |refine wB ?_ ?_
 |(with_reducible refine JL.block ?_)
 |(with_reducible refine F_at ?_); refine eW (vs := [(_, _)]) Tryz.results138 ?_; (focus (repeat' (first | exact oA | refine oB ?_ | refine oC ?_ ?_ | fail)))
 |exact oM
 |fail)
 all_goals first
  | exact (hrt (htz (by omega)).2.1).1
  | exact (hrt (htz (by omega)).2.1).2
  | (rw [← hy.2.2, rewL_no (x := y) (by omega) (by simpa [rwAt] using hc)]; done)
  | (rw [← hy.2.2, hc]; exact rewL_0.symm)
  | exact ⟨hx, hr, rfl⟩
  | rfl
  | (have h3 := (htz (by omega)).2.2.1
     refine ⟨by omega, fun u hu => ?_, ?_⟩
     ·have h4 := (htz (by omega)).2.2.2 u
      by_cases h6 : u < 6
      ·rw [h4 h6, Bool.and_eq_true] at hu
       exact hy.2.1 u hu.1
      ·rw [hasV_hi (by omega) (by omega)] at hu; cases hu
     ·rw [rewL_yes (by omega) (by simpa [rwAt] using hc)]; exact hy.2.2)
  | trace_state
theorem held_at {p : Prob} {m : MixD} (h : mixErr p m = 0) {i : Nat} (hi : i < p.tabs.length) : heldB p m (p.tabs.getD i nilT) (m.held.getD i 0) = false := by
 have hm := mixIn_of h
 unfold mixErr at h
 rw [if_neg (by simpa using hm.vp), if_neg (by have := hm.lb; have := hm.ln; have := hm.lh; omega)] at h
 split at h
 ·rename_i h1; exact absurd h h1
 ·have := firstErr_zero.1 h i hi
  rw [Nat.zero_add] at this
  unfold heldI at this
  split at this
  ·cases this
  ·rename_i h2; simpa using h2
end Go.Proofs.YtngjhkgcfabciaaGreat

namespace Go.Proofs.YtngjhkgcfabciaaGreat
open Go Go.RowKit
set_option maxRecDepth 100000
set_option maxHeartbeats 8000000
set_option linter.unusedSimpArgs false
set_option linter.unusedVariables false
theorem held_sub {p : Prob} {m : MixD} (h : mixErr p m = 0) (hu : u8s m.held) {i : Nat} (hi : i < p.tabs.length) (hs : storedB (p.tabs.getD i nilT).kind = true) : (∀ u : Nat, hasV (m.held.getD i 0) u = true → (u : Int) < p.vs.getD (p.tabs.getD i nilT).frm.toNat 0) ∧ ∀ u : Nat, hasV (runS m (p.tabs.getD i nilT).frm) u = true → hasV (m.held.getD i 0) u = true := by
 have hv := (mixIn_of h).vp
 have ht := tab_at hv hi
 have hn := (vp_all hv).2.2.2.2 (p.tabs.getD i nilT).frm.toNat (by have := ht.frm; omega)
 have hb := held_at h hi
 have hr := u8s_get hu i
 unfold heldB at hb
 rw [if_pos hs, Bool.or_eq_false_iff, decide_eq_false_iff_not, decide_eq_false_iff_not, Classical.not_not, Classical.not_not] at hb
 refine ⟨fun u hu2 => ?_, fun u hu2 => sub_has (runS_rng _ _) hr hb.2 hu2⟩
 have h1 := sub_has hr (allV_rng _) hb.1 hu2
 by_cases h8 : u < 8
 ·rw [hasV_all hn.1 h8] at h1; exact of_decide_eq_true h1
 ·rw [hasV_over (allV_rng _) (by omega)] at h1; cases h1
theorem old_lt {p : Prob} {m : MixD} (h : mixErr p m = 0) (hu : u8s m.held) {i : Nat} (hi : i < p.tabs.length) (hs : storedB (p.tabs.getD i nilT).kind = true) : (0 ≤ bits BinOp.andNot IntKind.u8 (m.held.getD i 0) (runS m (p.tabs.getD i nilT).frm) ∧ bits BinOp.andNot IntKind.u8 (m.held.getD i 0) (runS m (p.tabs.getD i nilT).frm) < 64) ∧ ∀ u : Nat, hasV (bits BinOp.andNot IntKind.u8 (m.held.getD i 0) (runS m (p.tabs.getD i nilT).frm)) u = true → (u : Int) < p.vs.getD (p.tabs.getD i nilT).frm.toNat 0 := by
 have hv := (mixIn_of h).vp
 have ht := tab_at hv hi
 have hn := (vp_all hv).2.2.2.2 (p.tabs.getD i nilT).frm.toNat (by have := ht.frm; omega)
 have hr := u8s_get hu i
 have hsb := (held_sub h hu hi hs).1
 have key : ∀ u : Nat, hasV (bits BinOp.andNot IntKind.u8 (m.held.getD i 0) (runS m (p.tabs.getD i nilT).frm)) u = true → (u : Int) < p.vs.getD (p.tabs.getD i nilT).frm.toNat 0 := fun u h1 => by
  by_cases h8 : u < 8
  ·rw [hasV_andNot hr (runS_rng _ _) h8, Bool.and_eq_true] at h1
   exact hsb u h1.1
  ·rw [hasV_over (bits_rng _ _ _) (by omega)] at h1; cases h1
 have no : ∀ u : Nat, 6 ≤ u → hasV (bits BinOp.andNot IntKind.u8 (m.held.getD i 0) (runS m (p.tabs.getD i nilT).frm)) u = false := fun u h6 => by
  cases hc : hasV (bits BinOp.andNot IntKind.u8 (m.held.getD i 0) (runS m (p.tabs.getD i nilT).frm)) u with
  | false => rfl
  | true => have := key u hc; omega
 exact ⟨⟨(bits_rng _ _ _).1, hasV_lt (bits_rng _ _ _) (no 6 (by omega)) (no 7 (by omega))⟩, key⟩
theorem clear_is {p : Prob} {m : MixD} (h : mixErr p m = 0) (hu : u8s m.held) {i : Nat} (hi : i < p.tabs.length) (hs : storedB (p.tabs.getD i nilT).kind = true) : clearB p m (p.tabs.getD i nilT) (m.held.getD i 0) = (!decide ((p.tabs.getD i nilT).kind = 4) || rewL (fun u => rwAt (p.tabs.getD i nilT) u (m.base.getD (p.tabs.getD i nilT).frm.toNat 0)) (bits BinOp.andNot IntKind.u8 (m.held.getD i 0) (runS m (p.tabs.getD i nilT).frm))) := by
 have hv := (mixIn_of h).vp
 have ht := tab_at hv hi
 have hn := (vp_all hv).2.2.2.2 (p.tabs.getD i nilT).frm.toNat (by have := ht.frm; omega)
 have hr := u8s_get hu i
 have hol := (old_lt h hu hi hs).2
 unfold clearB
 by_cases k4 : (p.tabs.getD i nilT).kind = 4
 ·rw [decide_eq_true k4, Bool.not_true, Bool.false_or]
  unfold rewL
  rw [Bool.eq_iff_iff, List.all_eq_true, List.all_eq_true]
  constructor
  ·intro a u hu2
   have hu6 := List.mem_range.1 hu2
   cases hc : hasV (bits BinOp.andNot IntKind.u8 (m.held.getD i 0) (runS m (p.tabs.getD i nilT).frm)) u with
   | false => rfl
   | true =>
    have h1 := hol u hc
    have h2 := a u (List.mem_range.2 (by omega))
    rw [hasV_andNot hr (runS_rng _ _) (by omega)] at hc
    rw [hc] at h2
    simpa using h2
  ·intro a u hu2
   have hu6 := List.mem_range.1 hu2
   have h2 := a u (List.mem_range.2 (by omega))
   rw [hasV_andNot hr (runS_rng _ _) (by omega)] at h2
   cases hc : (hasV (m.held.getD i 0) u && !hasV (runS m (p.tabs.getD i nilT).frm) u) with
   | false => rfl
   | true => rw [hc] at h2; simpa using h2
 ·rw [decide_eq_false k4]
  simp
theorem qclear_no (p : Prob) (m : MixD) (i : Int) (h : mixErr p m = 0) (hu : u8s m.held) (hi : 0 ≤ i ∧ i < p.tabs.length) (hn : storedB (p.tabs.getD i.toNat nilT).kind = false ∨ m.held.getD i.toNat 0 = runS m (p.tabs.getD i.toNat nilT).frm ∨ clearB p m (p.tabs.getD i.toNat nilT) (m.held.getD i.toNat 0) = false) : FnSound Tryz.prog 134 [.val true (probC p), .io 45 mixIO, .val false [.d (.v (.int .i64 i))]] (mixBx m) { vals := [(false, [.d (.v (.bool false))])], ios := [mixIO], bx := mixBx m } := by
 have hm := mixIn_of h
 have hlh := hm.lh
 have htn := tabN hm.vp i.toNat (by omega)
 have hmf := hm.nn (p.tabs.getD i.toNat nilT).frm htn.1.1 htn.1.2
 have hst : ∀ a : (p.tabs.getD i.toNat nilT).kind = 3 ∨ (p.tabs.getD i.toNat nilT).kind = 4, storedB (p.tabs.getD i.toNat nilT).kind = true := fun a => decide_eq_true a
 have hol := fun a => old_lt h hu (i := i.toNat) (by omega) (hst a)
 have hcl := fun a => clear_is h hu (i := i.toNat) (by omega) (hst a)
 have hrw := fun k (u : Nat) => tabRW hm.vp i.toNat u (by omega) k
 have hrr := fun a k => rewr_fn (p.tabs.getD i.toNat nilT) (bits BinOp.andNot IntKind.u8 (m.held.getD i.toNat 0) (runS m (p.tabs.getD i.toNat nilT).frm)) (m.base.getD (p.tabs.getD i.toNat nilT).frm.toNat 0) (hol a).1 (fun u hu2 => by have h1 := (hol a).2 u hu2; have h2 := hrw k u h1; omega)
 refine startO (tm := [(0, _), (1, _), (2, _)]) [((1, 0), some (.st 45 [.own (1000, 0), .own (1001, 0), .own (1002, 0)])), ((1000, 0), some (.sl 3 1 (dInts m.base))), ((1001, 0), some (.sl 3 1 (dInts m.next))), ((1002, 0), some (.sl 146 1 (dSets m.held)))] Tryz.func134 rfl Tryz.ntmps134 rfl rfl rfl rfl ?_
 repeat' (first
 |(with_reducible refine rgL (fun g => g == 137) ?_ ?_); exact rfl
 |(with_reducible refine K_ca 136 ?_); refine zC (qstored_fn (p.tabs.getD i.toNat nilT)) ?_
 |(with_reducible refine K_ca 137 ?_); refine zC (qrun_fn m (p.tabs.getD i.toNat nilT).frm (by omega) (by omega) (by omega)) ?_
 |(with_reducible refine K_ca 138 ?_); refine zC (hrr (by assumption) (by assumption)) ?_
 |refine wA ?_
 |(refine wC ?_ ?_ <;> intro hc)
 |refine wB ?_ ?_
 |(with_reducible refine JL.block ?_)
 |(with_reducible refine FO_at ?_); refine eO (vs := [(_, _)]) Tryz.results134 ?_
 |exact oM
 |fail)
 all_goals first
  | (exfalso; rcases hn with a | a | a
     ·rw [hst (by assumption)] at a; cases a
     ·exact absurd a (by assumption)
     ·rw [hcl (by assumption)] at a; simp_all; done)
  | kernel_rfl
theorem qclear_yes (p : Prob) (m : MixD) (i : Int) (h : mixErr p m = 0) (hu : u8s m.held) (hi : 0 ≤ i ∧ i < p.tabs.length) (hs1 : storedB (p.tabs.getD i.toNat nilT).kind = true) (hs2 : ¬ m.held.getD i.toNat 0 = runS m (p.tabs.getD i.toNat nilT).frm) (hs3 : clearB p m (p.tabs.getD i.toNat nilT) (m.held.getD i.toNat 0) = true) : FnSound Tryz.prog 134 [.val true (probC p), .io 45 mixIO, .val false [.d (.v (.int .i64 i))]] (mixBx m) { vals := [(false, [.d (.v (.bool true))])], ios := [mixIO], bx := mixBx ⟨m.base, m.next, m.held.set i.toNat (runS m (p.tabs.getD i.toNat nilT).frm)⟩ } := by
 have hm := mixIn_of h
 have hlh := hm.lh
 have htn := tabN hm.vp i.toNat (by omega)
 have hmf := hm.nn (p.tabs.getD i.toNat nilT).frm htn.1.1 htn.1.2
 have hst : ∀ a : (p.tabs.getD i.toNat nilT).kind = 3 ∨ (p.tabs.getD i.toNat nilT).kind = 4, storedB (p.tabs.getD i.toNat nilT).kind = true := fun a => decide_eq_true a
 have hol := fun a => old_lt h hu (i := i.toNat) (by omega) (hst a)
 have hcl := fun a => clear_is h hu (i := i.toNat) (by omega) (hst a)
 have hrw := fun k (u : Nat) => tabRW hm.vp i.toNat u (by omega) k
 have hrr := fun a k => rewr_fn (p.tabs.getD i.toNat nilT) (bits BinOp.andNot IntKind.u8 (m.held.getD i.toNat 0) (runS m (p.tabs.getD i.toNat nilT).frm)) (m.base.getD (p.tabs.getD i.toNat nilT).frm.toNat 0) (hol a).1 (fun u hu2 => by have h1 := (hol a).2 u hu2; have h2 := hrw k u h1; omega)
 refine startO (tm := [(0, _), (1, _), (2, _)]) [((1, 0), some (.st 45 [.own (1000, 0), .own (1001, 0), .own (1002, 0)])), ((1000, 0), some (.sl 3 1 (dInts m.base))), ((1001, 0), some (.sl 3 1 (dInts m.next))), ((1002, 0), some (.sl 146 1 (dSets m.held)))] Tryz.func134 rfl Tryz.ntmps134 rfl rfl rfl rfl ?_
 repeat' (first
 |(with_reducible refine rgL (fun g => g == 137) ?_ ?_); exact rfl
 |(with_reducible refine K_ca 136 ?_); refine zC (qstored_fn (p.tabs.getD i.toNat nilT)) ?_
 |(with_reducible refine K_ca 137 ?_); refine zC (qrun_fn m (p.tabs.getD i.toNat nilT).frm (by omega) (by omega) (by omega)) ?_
 |(with_reducible refine K_ca 138 ?_); refine zC (hrr (by assumption) (by assumption)) ?_
 |refine wA ?_
 |(refine wC ?_ ?_ <;> intro hc)
 |refine wB ?_ ?_
 |(with_reducible refine JL.block ?_)
 |(with_reducible refine FO_at ?_); refine eO (vs := [(_, _)]) Tryz.results134 ?_
 |exact oM
 |fail)
 all_goals first
  | (exfalso; exact absurd (of_decide_eq_true hs1) (by assumption))
  | (exfalso; exact hs2 (by assumption))
  | (exfalso; rw [hcl (by assumption)] at hs3; simp_all; done)
  | kernel_rfl
end Go.Proofs.YtngjhkgcfabciaaGreat

namespace Go.Proofs.YtngjhkgcfabciaaGreat
open Go Go.RowKit
set_option maxRecDepth 100000
set_option maxHeartbeats 8000000
set_option linter.unusedSimpArgs false
set_option linter.unusedVariables false
theorem qafter_fn (p : Prob) (m : MixD) (s : StepD) (h : mixErr p m = 0) (hu : u8s m.held) (hs : StepAt p s) (hk : 1 ≤ s.kind ∧ s.kind ≤ 4) : FnSound Tryz.prog 128 [.val true (probC p), .val true (mixC m), .val true (stepC s)] [] { vals := [(true, mixC ((afterP p m s).getD m)), (false, [.d (.v (.bool (afterP p m s).isSome))])] } := by
 have hm := mixIn_of h
 have hvp := vp_all hm.vp
 have hb := hm.lb; have hnl := hm.ln; have hlh := hm.lh
 have h0 := hs.nn
 have hf : m.base.length ≤ 12 ∧ m.next.length ≤ 12 ∧ m.held.length ≤ 12 := ⟨by omega, by omega, by omega⟩
 by_cases k1 : s.kind = 1
 ·have hsv := hs.svc (by omega)
  have hv := hs.ver k1
  have hvl := vs_le hm.vp s.idx.toNat
  by_cases hn : 0 ≤ m.next.getD s.idx.toNat 0 ∨ s.ver = m.base.getD s.idx.toNat 0
  ·have e : afterP p m s = none := by rw [after1 k1, if_pos hn]
   rw [e]
   refine startW (tm := [(0, _), (1, _), (2, _)]) Tryz.func128 rfl Tryz.ntmps128 rfl rfl rfl rfl ?_
   repeat' (first
 |(with_reducible refine K_ca 132 ?_); refine W.callM 64 65 66 rfl rfl rfl rfl rfl BoC.h (qcloned_fn m hf) rfl rfl ?_
 |(with_reducible refine K_ca 133 ?_); refine zK (qstart_no p m s (by omega) hn) ?_
 |refine wA ?_
 |(refine wC ?_ ?_ <;> intro hc)
 |refine wB ?_ ?_
 |(with_reducible refine JL.block ?_)
 |(with_reducible refine F_at ?_); refine eW (vs := [(_, _), (_, _)]) Tryz.results128 ?_; (focus (repeat' (first | exact oA | refine oB ?_ | refine oC ?_ ?_ | fail)))
 |exact oM
 |fail)
   all_goals first | rfl | (exfalso; omega) | trace_state
  ·have e : afterP p m s = some (startedM p m s) := by rw [after1 k1, if_neg hn]
   rw [e]
   refine startW (tm := [(0, _), (1, _), (2, _)]) Tryz.func128 rfl Tryz.ntmps128 rfl rfl rfl rfl ?_
   repeat' (first
 |(with_reducible refine K_ca 132 ?_); refine W.callM 64 65 66 rfl rfl rfl rfl rfl BoC.h (qcloned_fn m hf) rfl rfl ?_
 |(with_reducible refine K_ca 133 ?_); refine zK (qstart_yes p m s (by omega) (by omega) hlh hvp.2.1 hu hn) ?_
 |refine wA ?_
 |(refine wC ?_ ?_ <;> intro hc)
 |refine wB ?_ ?_
 |(with_reducible refine JL.block ?_)
 |(with_reducible refine F_at ?_); refine eW (vs := [(_, _), (_, _)]) Tryz.results128 ?_; (focus (repeat' (first | exact oA | refine oB ?_ | refine oC ?_ ?_ | fail)))
 |exact oM
 |fail)
   all_goals first | rfl | (exfalso; omega) | trace_state
 ·by_cases k3 : s.kind = 3
  ·have htb := hs.tab k3
   by_cases hn : storedB (p.tabs.getD s.idx.toNat nilT).kind = false ∨ m.held.getD s.idx.toNat 0 = runS m (p.tabs.getD s.idx.toNat nilT).frm ∨ clearB p m (p.tabs.getD s.idx.toNat nilT) (m.held.getD s.idx.toNat 0) = false
   ·have e : afterP p m s = none := by
      rw [after3 k3]
      (repeat' split) <;> first | rfl | (exfalso; simp_all; done)
    rw [e]
    refine startW (tm := [(0, _), (1, _), (2, _)]) Tryz.func128 rfl Tryz.ntmps128 rfl rfl rfl rfl ?_
    repeat' (first
 |(with_reducible refine K_ca 132 ?_); refine W.callM 64 65 66 rfl rfl rfl rfl rfl BoC.h (qcloned_fn m hf) rfl rfl ?_
 |(with_reducible refine K_ca 134 ?_); refine zK (qclear_no p m s.idx h hu (by omega) hn) ?_
 |refine wA ?_
 |(refine wC ?_ ?_ <;> intro hc)
 |refine wB ?_ ?_
 |(with_reducible refine JL.block ?_)
 |(with_reducible refine F_at ?_); refine eW (vs := [(_, _), (_, _)]) Tryz.results128 ?_; (focus (repeat' (first | exact oA | refine oB ?_ | refine oC ?_ ?_ | fail)))
 |exact oM
 |fail)
    all_goals first | rfl | (exfalso; omega) | trace_state
   ·simp only [not_or, Bool.not_eq_false] at hn
    have e : afterP p m s = some ⟨m.base, m.next, m.held.set s.idx.toNat (runS m (p.tabs.getD s.idx.toNat nilT).frm)⟩ := by
     rw [after3 k3, if_neg (by rw [hn.1]; decide), if_neg hn.2.1, if_neg (by rw [hn.2.2]; decide)]
    rw [e]
    refine startW (tm := [(0, _), (1, _), (2, _)]) Tryz.func128 rfl Tryz.ntmps128 rfl rfl rfl rfl ?_
    repeat' (first
 |(with_reducible refine K_ca 132 ?_); refine W.callM 64 65 66 rfl rfl rfl rfl rfl BoC.h (qcloned_fn m hf) rfl rfl ?_
 |(with_reducible refine K_ca 134 ?_); refine zK (qclear_yes p m s.idx h hu (by omega) hn.1 hn.2.1 hn.2.2) ?_
 |refine wA ?_
 |(refine wC ?_ ?_ <;> intro hc)
 |refine wB ?_ ?_
 |(with_reducible refine JL.block ?_)
 |(with_reducible refine F_at ?_); refine eW (vs := [(_, _), (_, _)]) Tryz.results128 ?_; (focus (repeat' (first | exact oA | refine oB ?_ | refine oC ?_ ?_ | fail)))
 |exact oM
 |fail)
    all_goals first | rfl | (exfalso; omega) | trace_state
  ·have hsv := hs.svc k3
   by_cases hn : m.next.getD s.idx.toNat 0 < 0
   ·have e : afterP p m s = none := by
      by_cases k2 : s.kind = 2
      ·rw [after2 k2, if_pos hn]
      ·rw [after4 k1 k2 k3, if_pos hn]
    rw [e]
    refine startW (tm := [(0, _), (1, _), (2, _)]) Tryz.func128 rfl Tryz.ntmps128 rfl rfl rfl rfl ?_
    repeat' (first
 |(with_reducible refine K_ca 132 ?_); refine W.callM 64 65 66 rfl rfl rfl rfl rfl BoC.h (qcloned_fn m hf) rfl rfl ?_
 |refine wA ?_
 |(refine wC ?_ ?_ <;> intro hc)
 |refine wB ?_ ?_
 |(with_reducible refine JL.block ?_)
 |(with_reducible refine F_at ?_); refine eW (vs := [(_, _), (_, _)]) Tryz.results128 ?_; (focus (repeat' (first | exact oA | refine oB ?_ | refine oC ?_ ?_ | fail)))
 |exact oM
 |fail)
    all_goals first | rfl | (exfalso; omega) | trace_state
   ·have e : afterP p m s = some ⟨if s.kind = 2 then m.base.set s.idx.toNat (m.next.getD s.idx.toNat 0) else m.base, m.next.set s.idx.toNat (-1), m.held⟩ := by
      by_cases k2 : s.kind = 2
      ·rw [after2 k2, if_neg hn, if_pos k2]
      ·rw [after4 k1 k2 k3, if_neg hn, if_neg k2]
    rw [e]
    refine startW (tm := [(0, _), (1, _), (2, _)]) Tryz.func128 rfl Tryz.ntmps128 rfl rfl rfl rfl ?_
    repeat' (first
 |(with_reducible refine K_ca 132 ?_); refine W.callM 64 65 66 rfl rfl rfl rfl rfl BoC.h (qcloned_fn m hf) rfl rfl ?_
 |refine wA ?_
 |(refine wC ?_ ?_ <;> intro hc)
 |refine wB ?_ ?_
 |(with_reducible refine JL.block ?_)
 |(with_reducible refine F_at ?_); refine eW (vs := [(_, _), (_, _)]) Tryz.results128 ?_; (focus (repeat' (first | exact oA | refine oB ?_ | refine oC ?_ ?_ | fail)))
 |exact oM
 |fail)
    all_goals first | rfl | (exfalso; omega) | (rw [if_pos hc]; rfl) | (rw [if_neg hc]; rfl) | trace_state
end Go.Proofs.YtngjhkgcfabciaaGreat

namespace Go.Proofs.YtngjhkgcfabciaaGreat
open Go Go.RowKit
set_option maxRecDepth 100000
set_option maxHeartbeats 8000000
set_option linter.unusedSimpArgs false
set_option linter.unusedVariables false
theorem qap_fn (p : Prob) (m : MixD) (s : StepD) (h : mixErr p m = 0) (hu : u8s m.held) : FnSound Tryz.prog 113 [.val true (probC p), .val true (mixC m), .val true (stepC s)] [] { vals := [(true, mixC (applyP p m s).1), (false, [.d (.v (.int .i64 (applyP p m s).2))])] } := by
 have e : applyP p m s = (if stepOK s = false then (nilM, 1) else if thereB p s = false then (nilM, 4) else (match afterP p m s with
  | none => (nilM, 11)
  | some x => (x, 0)) : MixD × Int) := by unfold applyP; rw [if_neg (by simpa using h)]; cases afterP p m s <;> rfl
 rw [e]
 have hnn : stepOK s = true → 0 ≤ s.idx ∧ (1 ≤ s.kind ∧ s.kind ≤ 4) := fun a => by
  unfold stepOK at a
  have := of_decide_eq_true a
  omega
 have haf := fun a b => qafter_fn p m s h hu (stepAt_of a b) (hnn a).2
 cases hs : stepOK s with
 | false =>
  have hv := qvalid_fn s
  rw [hs] at hv
  refine startW (tm := [(0, _), (1, _), (2, _)]) Tryz.func113 rfl Tryz.ntmps113 rfl rfl rfl rfl ?_
  repeat' (first
 |(with_reducible refine K_ca 126 ?_); refine zC (hv) ?_
 |refine wA ?_
 |(refine wC ?_ ?_ <;> intro hc)
 |refine wB ?_ ?_
 |(with_reducible refine JL.block ?_)
 |(with_reducible refine F_at ?_); refine eW (vs := [(_, _), (_, _)]) Tryz.results113 ?_; (focus (repeat' (first | exact oA | refine oB ?_ | refine oC ?_ ?_ | fail)))
 |exact oM
 |fail)
  all_goals first | rfl | trace_state
 | true =>
  have hv := qvalid_fn s
  rw [hs] at hv
  have hx := qexists_fn p s (hnn hs).1
  cases ht : thereB p s with
  | false =>
   rw [ht] at hx
   refine startW (tm := [(0, _), (1, _), (2, _)]) Tryz.func113 rfl Tryz.ntmps113 rfl rfl rfl rfl ?_
   repeat' (first
 |(with_reducible refine K_ca 126 ?_); refine zC (hv) ?_
 |(with_reducible refine K_ca 127 ?_); refine zC (hx) ?_
 |refine wA ?_
 |(refine wC ?_ ?_ <;> intro hc)
 |refine wB ?_ ?_
 |(with_reducible refine JL.block ?_)
 |(with_reducible refine F_at ?_); refine eW (vs := [(_, _), (_, _)]) Tryz.results113 ?_; (focus (repeat' (first | exact oA | refine oB ?_ | refine oC ?_ ?_ | fail)))
 |exact oM
 |fail)
   all_goals first | rfl | trace_state
  | true =>
   rw [ht] at hx
   have ha := haf hs ht
   cases hp : afterP p m s with
   | none =>
    rw [hp] at ha
    refine startW (tm := [(0, _), (1, _), (2, _)]) Tryz.func113 rfl Tryz.ntmps113 rfl rfl rfl rfl ?_
    repeat' (first
 |(with_reducible refine K_ca 126 ?_); refine zC (hv) ?_
 |(with_reducible refine K_ca 127 ?_); refine zC (hx) ?_
 |(with_reducible refine K_ca 128 ?_); refine zC (ha) ?_
 |refine wA ?_
 |(refine wC ?_ ?_ <;> intro hc)
 |refine wB ?_ ?_
 |(with_reducible refine JL.block ?_)
 |(with_reducible refine F_at ?_); refine eW (vs := [(_, _), (_, _)]) Tryz.results113 ?_; (focus (repeat' (first | exact oA | refine oB ?_ | refine oC ?_ ?_ | fail)))
 |exact oM
 |fail)
    all_goals first | rfl | trace_state
   | some x =>
    rw [hp] at ha
    refine startW (tm := [(0, _), (1, _), (2, _)]) Tryz.func113 rfl Tryz.ntmps113 rfl rfl rfl rfl ?_
    repeat' (first
 |(with_reducible refine K_ca 126 ?_); refine zC (hv) ?_
 |(with_reducible refine K_ca 127 ?_); refine zC (hx) ?_
 |(with_reducible refine K_ca 128 ?_); refine zC (ha) ?_
 |refine wA ?_
 |(refine wC ?_ ?_ <;> intro hc)
 |refine wB ?_ ?_
 |(with_reducible refine JL.block ?_)
 |(with_reducible refine F_at ?_); refine eW (vs := [(_, _), (_, _)]) Tryz.results113 ?_; (focus (repeat' (first | exact oA | refine oB ?_ | refine oC ?_ ?_ | fail)))
 |exact oM
 |fail)
    all_goals first | rfl | trace_state
theorem qapply_fn (p : Prob) (m : MixD) (s : StepD) (hu : u8s m.held) : FnSound Tryz.prog 95 [.val true (probC p), .val true (mixC m), .val true (stepC s)] [] { vals := [(true, mixC (applyP p m s).1), (false, [.d (.v (.int .i64 (applyP p m s).2))])] } := by
 by_cases h : mixErr p m = 0
 ·refine startW (tm := [(0, _), (1, _), (2, _)]) Tryz.func95 rfl Tryz.ntmps95 rfl rfl rfl rfl ?_
  repeat' (first
 |(with_reducible refine K_ca 112 ?_); refine zC (pmixValidOK_fn hu h) ?_
 |(with_reducible refine K_ca 113 ?_); refine zC (qap_fn p m s h hu) ?_
 |refine wA ?_
 |(refine wC ?_ ?_ <;> intro hc)
 |refine wB ?_ ?_
 |(with_reducible refine JL.block ?_)
 |(with_reducible refine F_at ?_); refine eW (vs := [(_, _), (_, _)]) Tryz.results95 ?_; (focus (repeat' (first | exact oA | refine oB ?_ | refine oC ?_ ?_ | fail)))
 |exact oM
 |fail)
  all_goals first | rfl | trace_state
 ·have e : applyP p m s = (nilM, mixErr p m) := by unfold applyP; rw [if_pos h]
  rw [e]
  refine startW (tm := [(0, _), (1, _), (2, _)]) Tryz.func95 rfl Tryz.ntmps95 rfl rfl rfl rfl ?_
  repeat' (first
 |(with_reducible refine K_ca 112 ?_); refine zC (pmixValid_fn p m hu) ?_
 |refine wA ?_
 |(refine wC ?_ ?_ <;> intro hc)
 |refine wB ?_ ?_
 |(with_reducible refine JL.block ?_)
 |(with_reducible refine F_at ?_); refine eW (vs := [(_, _), (_, _)]) Tryz.results95 ?_; (focus (repeat' (first | exact oA | refine oB ?_ | refine oC ?_ ?_ | fail)))
 |exact oM
 |fail)
  all_goals first | rfl | exact absurd hc h | trace_state
end Go.Proofs.YtngjhkgcfabciaaGreat

namespace Go.Proofs.YtngjhkgcfabciaaGreat
open Go Go.RowKit
set_option linter.unusedSimpArgs false
set_option linter.unusedVariables false
theorem check_goal {p : Prob} : ∀ {l : List StepD} {m : MixD} {i : Int}, (failL p m l i).2.2.2 = 15 → goalP p ((tr p m l).getD l.length nilM) = true
 | [], m, i, h => by
  unfold failL at h
  split at h
  ·rename_i hg; exact hg
  ·cases h
 | s :: r, m, i, h => by
  unfold failL at h
  split at h
  ·cases h
  ·split at h
   ·cases h
   ·exact check_goal (l := r) h
structure PlanV (p : Prob) (l : List StepD) : Prop where
 ok : PlanOK p l
 last : mixErr p ((mixesP p l).getD l.length nilM) = 0
theorem planV_of {p : Prob} {l : List StepD} (hv : vpErr p = 0) (h : checkP p l = true) : PlanV p l := by
 have hp := planOK_of hv (start_err hv) h
 refine ⟨hp, ?_⟩
 have h := of_decide_eq_true h
 unfold failP at h
 rw [if_neg (by simpa using hv)] at h
 split at h
 ·cases h
 ·have hg := check_goal h
  rw [hp.mix]
  unfold goalP at hg
  rw [Bool.and_eq_true] at hg
  exact of_decide_eq_true hg.1
theorem PlanV.valid {p : Prob} {l : List StepD} (h : PlanV p l) {k : Nat} (hk : k ≤ l.length) : mixErr p ((mixesP p l).getD k nilM) = 0 := by
 by_cases e : k = l.length
 ·rw [e]; exact h.last
 ·exact h.ok.valid (by omega)
theorem getDi_set' {l : List Int} {k j : Nat} {x : Int} : (l.set k x).getD j 0 = if k = j ∧ k < l.length then x else l.getD j 0 := by
 by_cases e : k = j
 ·subst e
  by_cases h : k < l.length
  ·rw [if_pos ⟨rfl, h⟩, List.getD_eq_getElem?_getD, List.getElem?_set_self h]; rfl
  ·rw [if_neg (fun a => h a.2), List.getD_eq_getElem?_getD, List.getD_eq_getElem?_getD, List.getElem?_eq_none (by simp; omega), List.getElem?_eq_none (by omega)]
 ·rw [if_neg (fun a => e a.1), List.getD_eq_getElem?_getD, List.getElem?_set_ne e, ← List.getD_eq_getElem?_getD]
theorem abort_valid {p : Prob} {m : MixD} {i : Nat} (h : mixErr p m = 0) (hu : u8s m.held) (hi : i < p.vs.length) : mixErr p ⟨m.base, m.next.set i (-1), m.held⟩ = 0 := by
 have hm := mixIn_of h
 have hln := hm.ln
 have hsv : ∀ j, j < p.vs.length → svcI p.vs m.base m.next j = 0 := by
  intro j hj
  unfold mixErr at h
  rw [if_neg (by simpa using hm.vp), if_neg (by have := hm.lb; have := hm.ln; have := hm.lh; omega)] at h
  split at h
  ·rename_i h1; exact absurd h h1
  ·rename_i h1
   have := firstErr_zero.1 (Classical.not_not.1 h1) j hj
   rwa [Nat.zero_add] at this
 have hhb : ∀ j, j < p.tabs.length → heldB p m (p.tabs.getD j nilT) (m.held.getD j 0) = false := by
  intro j hj
  unfold mixErr at h
  rw [if_neg (by simpa using hm.vp), if_neg (by have := hm.lb; have := hm.ln; have := hm.lh; omega)] at h
  split at h
  ·rename_i h1; exact absurd h h1
  ·have := firstErr_zero.1 h j hj
   rw [Nat.zero_add] at this
   unfold heldI at this
   split at this
   ·cases this
   ·rename_i h2; simpa using h2
 refine mixErr_ok hm.vp hm.lb (by simp; exact hm.ln) hm.lh (fun j hj => ?_) (fun j hj => ?_)
 ·have h1 := hsv j hj
  have hr := hm.rng j hj
  unfold svcI at h1 ⊢
  show svcE (p.vs.getD j 0) (m.base.getD j 0) ((m.next.set i (-1)).getD j 0) = 0
  rw [getDi_set']
  split
  ·unfold svcE
   rw [if_neg (by omega), if_neg (by omega)]
  ·exact h1
 ·have h1 := hhb j hj
  have ht := tab_at hm.vp hj
  have hr := u8_get hu j
  show heldB p ⟨m.base, m.next.set i (-1), m.held⟩ (p.tabs.getD j nilT) (m.held.getD j 0) = false
  unfold heldB at h1 ⊢
  by_cases hs : storedB (p.tabs.getD j nilT).kind = true
  ·rw [if_pos hs] at h1 ⊢
   rw [Bool.or_eq_false_iff, decide_eq_false_iff_not, decide_eq_false_iff_not, Classical.not_not, Classical.not_not] at h1 ⊢
   refine ⟨h1.1, ?_⟩
   by_cases e : i = (p.tabs.getD j nilT).frm.toNat
   ·have hrs : runS ⟨m.base, m.next.set i (-1), m.held⟩ (p.tabs.getD j nilT).frm = one8 (m.base.getD (p.tabs.getD j nilT).frm.toNat 0) := by
      unfold runS runV
      have en : (m.next.set i (-1)).getD (p.tabs.getD j nilT).frm.toNat 0 = -1 := by rw [getDi_set', if_pos ⟨e, by omega⟩]
      show (if 0 ≤ (m.next.set i (-1)).getD (p.tabs.getD j nilT).frm.toNat 0 then bits BinOp.or IntKind.u8 (one8 (m.base.getD (p.tabs.getD j nilT).frm.toNat 0)) (one8 ((m.next.set i (-1)).getD (p.tabs.getD j nilT).frm.toNat 0)) else one8 (m.base.getD (p.tabs.getD j nilT).frm.toNat 0)) = _
      rw [en, if_neg (by decide)]
    rw [hrs]
    refine sub_of (one8_rng _) hr fun u hu8 hb => ?_
    refine sub_has (runS_rng _ _) hr h1.2 ?_
    unfold runS runV
    split
    ·rw [hasV_or (one8_rng _) (one8_rng _), hb]; rfl
    ·exact hb
   ·have hrs : runS ⟨m.base, m.next.set i (-1), m.held⟩ (p.tabs.getD j nilT).frm = runS m (p.tabs.getD j nilT).frm := by
      unfold runS runV
      have en : (m.next.set i (-1)).getD (p.tabs.getD j nilT).frm.toNat 0 = m.next.getD (p.tabs.getD j nilT).frm.toNat 0 := by rw [getDi_set', if_neg (fun a => e a.1)]
      show (if 0 ≤ (m.next.set i (-1)).getD (p.tabs.getD j nilT).frm.toNat 0 then bits BinOp.or IntKind.u8 (one8 (m.base.getD (p.tabs.getD j nilT).frm.toNat 0)) (one8 ((m.next.set i (-1)).getD (p.tabs.getD j nilT).frm.toNat 0)) else one8 (m.base.getD (p.tabs.getD j nilT).frm.toNat 0)) = _
      rw [en]
    rw [hrs]; exact h1.2
  ·rw [if_neg hs] at h1 ⊢
   exact h1
theorem apply_is {p : Prob} {m : MixD} {s : StepD} (h : mixErr p m = 0) (h1 : stepOK s = true) (h2 : thereB p s = true) : (applyP p m s).1 = afterM p m s := by
 unfold applyP afterM
 rw [if_neg (by simpa using h), if_neg (by rw [h1]; decide), if_neg (by rw [h2]; decide)]
 cases afterP p m s <;> rfl
theorem CtlK.valid {p : Prob} {c : CtlD} (h : CtlK p c) (hv : PlanV p c.plan) : mixErr p c.mix = 0 := by
 have hr := h.rng
 have hps := h.phs
 have ab : ¬ c.phase = 6 → (present c).kind = 1 → mixErr p (abortedP p c.plan c.at_) = 0 := fun h6 k => by
  have hlt := h.lt h6
  obtain ⟨a1, a2, a3⟩ := h.plan.abort ⟨hr.1, hlt⟩ k
  have hst := (h.plan.step (k := c.at_.toNat) (by omega)).1
  have hsv := hst.svc (by have : (c.plan.getD c.at_.toNat nilS).kind = 1 := k; omega)
  have hvm := hv.valid (k := (c.at_ + 1).toNat) (by omega)
  have hg := h.plan.g (k := (c.at_ + 1).toNat) (by omega)
  rw [after4 (by show ¬ (4 : Int) = 1; decide) (by show ¬ (4 : Int) = 2; decide) (by show ¬ (4 : Int) = 3; decide)] at a3
  split at a3
  ·cases a3
  ·have e := Option.some.inj a3
   rw [← e]
   have := hst.nn
   exact abort_valid hvm hg.u (by show (c.plan.getD c.at_.toNat nilS).idx.toNat < _; omega)
 by_cases h6 : c.phase = 6
 ·rw [h.ph6 h6]; exact hv.valid (by omega)
 ·have hlt := h.lt h6
  have : c.phase = 0 ∨ c.phase = 1 ∨ c.phase = 2 ∨ c.phase = 3 ∨ c.phase = 4 ∨ c.phase = 5 := by omega
  rcases this with e | e | e | e | e | e
  ·rcases h.ph0 e with m | ⟨k, m⟩
   ·rw [m]; exact hv.valid (by omega)
   ·rw [m]; exact ab h6 k
  ·rcases h.ph1 e with ⟨k, m⟩ | ⟨k, m⟩
   ·rw [m]; exact hv.valid (by omega)
   ·rw [m]; exact hv.valid (by omega)
  ·rw [(h.ph2 (.inl e)).2]; exact hv.valid (by omega)
  ·rw [(h.ph2 (.inr e)).2]; exact hv.valid (by omega)
  ·rw [(h.ph4 e).2]; exact hv.valid (by omega)
  ·have := h.ph5 e
   rw [this.2]; exact ab h6 this.1
theorem CtlK.stepOK {p : Prob} {c : CtlD} (h : CtlK p c) (hp : ¬ c.phase = 6) : Go.Proofs.YtngjhkgcfabciaaGreat.stepOK (present c) = true ∧ thereB p (present c) = true := by
 have hlt := h.lt hp
 have hr := h.rng
 have := (h.plan.step (k := c.at_.toNat) (by omega)).2.2
 have e : (applyP p ((mixesP p c.plan).getD c.at_.toNat nilM) (c.plan.getD c.at_.toNat nilS)).2 = 0 := by rw [this]
 obtain ⟨_, _, a3, a4⟩ := apply_after e
 exact ⟨a3, a4⟩
theorem abort_ok {p : Prob} {i : Int} (h : 0 ≤ i ∧ i < p.vs.length) : stepOK ⟨4, i, 0⟩ = true ∧ thereB p ⟨4, i, 0⟩ = true := by
 constructor
 ·unfold stepOK
  exact decide_eq_true (by refine ⟨?_, ?_, ?_, ?_, ?_⟩ <;> first | (show (1 : Int) ≤ 4; decide) | (show (4 : Int) ≤ 4; decide) | exact h.1 | (show (0 : Int) ≤ 0; decide) | exact .inr rfl)
 ·unfold thereB
  rw [if_neg (by show ¬ (4 : Int) = 3; decide), decide_eq_true (show (⟨4, i, 0⟩ : StepD).idx < p.vs.length from h.2), decide_eq_true (show ¬ (⟨4, i, 0⟩ : StepD).kind = 1 by show ¬ (4 : Int) = 1; decide)]
  rfl
end Go.Proofs.YtngjhkgcfabciaaGreat

namespace Go.Proofs.YtngjhkgcfabciaaGreat
open Go Go.RowKit
set_option maxRecDepth 100000
set_option maxHeartbeats 8000000
set_option linter.unusedSimpArgs false
set_option linter.unusedVariables false
theorem failL_k {p : Prob} {m : MixD} {l : List StepD} {k : Nat} {i : Int} (hk : k < l.length) : failL p m (l.drop k) i = if ¬ (applyP p m (l.getD k nilS)).2 = 0 ∨ (l.getD k nilS).kind = 4 then (i, nilM, nilC, 0)
    else if (blameP p (applyP p m (l.getD k nilS)).1).2.2 = 0 then (i, (blameP p (applyP p m (l.getD k nilS)).1).1, (blameP p (applyP p m (l.getD k nilS)).1).2.1, 0)
    else failL p (applyP p m (l.getD k nilS)).1 (l.drop (k + 1)) (i + 1) := by
 rw [dropD_cons (d := nilS) hk]; rfl
theorem failL_e {p : Prob} {m : MixD} {l : List StepD} {k : Nat} {i : Int} (hk : ¬ k < l.length) : failL p m (l.drop k) i = if goalP p m = true then (0, nilM, nilC, 15) else (i, nilM, nilC, 14) := by
 rw [List.drop_eq_nil_of_le (by omega)]; rfl
theorem apply_u {p : Prob} {m : MixD} {s : StepD} (hm : MixG p m) (h : (applyP p m s).2 = 0) : MixG p (applyP p m s).1 := by
 obtain ⟨a1, a2, a3, a4⟩ := apply_after h
 exact after_g hm (stepAt_of a3 a4) a1
theorem pfail_fn (p : Prob) (l : List StepD) (h : vpErr p = 0) (hl : l.length ≤ 1000000) : FnSound Tryz.prog 90 [.val true (probC p), .val false [.d (.sl 3 (dSteps l))]] [] { vals := [(false, [.d (.v (.int .i64 (failP p l).1))]), (true, mixC (failP p l).2.1), (true, confC (failP p l).2.2.1), (false, [.d (.v (.int .i64 (failP p l).2.2.2))])] } := by
 have hg := start_g h
 have fA : (blameP p (startM p)).2.2 = 0 → failP p l = (-1, (blameP p (startM p)).1, (blameP p (startM p)).2.1, 0) := fun a => by unfold failP; rw [if_neg (by simpa using h), if_pos a]
 have fB : ¬ (blameP p (startM p)).2.2 = 0 → failP p l = failL p (startM p) l 0 := fun a => by unfold failP; rw [if_neg (by simpa using h), if_neg a]
 refine startW (tm := [(0, _), (1, _)]) Tryz.func90 rfl Tryz.ntmps90 rfl rfl rfl rfl ?_
 repeat' (first
 |(with_reducible refine K_ca 57 ?_); refine zC (pstart_fn p h) ?_
 |(with_reducible refine K_ca 109 ?_); (first
 |refine zC (pblame_fn p (startM p) hg.u) ?_
 |refine zC (pblame_fn p (applyP p y.2 (l.getD y.1 nilS)).1 (apply_u hy.2.1 (by assumption)).u) ?_)
 |(with_reducible refine K_ca 95 ?_); refine zC (qapply_fn p y.2 (l.getD y.1 nilS) hy.2.1.u) ?_
 |(with_reducible refine K_ca 110 ?_); refine zC (pgoal_fn p y.2 hy.2.1.u) ?_
 |(with_reducible refine blk_at (id := 0) ?_); ((with_reducible refine JL.loopW 0 899 (fun (y : Nat × MixD) tm => (43, .one false [.d (.v (.int .i64 ((y.1 : Int))))]) :: tm) (fun (y : Nat × MixD) bo => ((320, 200), some (.st 45 [.d (.sl 1 ((dInts y.2.base))), .d (.sl 1 ((dInts y.2.next))), .d (.sl 1 ((dSets y.2.held)))])) :: bo) (fun (y : Nat × MixD) => y.1 ≤ l.length ∧ MixG p y.2 ∧ failL p y.2 (l.drop y.1) y.1 = failP p l) (fun (y : Nat × MixD) => l.length - y.1) ((0, startM p)) ?_ (fun y hy => ?_) ?_); (focus (apply SubW [] rfl ?_ ?_ rfl ?_; (repeat' (first | exact kA | refine kB ?_ | refine kC ?_ ?_ | exact kD | fail)))))
 |((with_reducible refine round_next (i := y) ((y.1 + 1, (applyP p y.2 (l.getD y.1 nilS)).1)) ?_ ?_ ?_); (focus (apply SubW [] rfl ?_ ?_ rfl ?_; (repeat' (first | exact kA | refine kB ?_ | refine kC ?_ ?_ | exact kD | fail)))))
 |refine wA ?_
 |(refine wC ?_ ?_ <;> intro hc)
 |refine wB ?_ ?_
 |(with_reducible refine JL.block ?_)
 |(with_reducible refine F_at ?_); refine eW (vs := [(_, _), (_, _), (_, _), (_, _)]) Tryz.results90 ?_; (focus (repeat' (first | exact oA | refine oB ?_ | refine oC ?_ ?_ | fail)))
 |exact oM
 |fail)
 all_goals first
  | (rw [fA hc] <;> rfl)
  | (have d : ¬ (applyP p y.2 (l.getD y.1 nilS)).2 = 0 := hc; have q := hy.2.2; rw [failL_k (by omega), if_pos (Or.inl d)] at q; rw [← q] <;> rfl)
  | (have d : (l.getD y.1 nilS).kind = 4 := hc; have q := hy.2.2; rw [failL_k (by omega), if_pos (Or.inr d)] at q; rw [← q] <;> rfl)
  | (have d1 : (applyP p y.2 (l.getD y.1 nilS)).2 = 0 := by assumption
     have d2 : ¬ (l.getD y.1 nilS).kind = 4 := by assumption
     have d3 : ¬ (¬ (applyP p y.2 (l.getD y.1 nilS)).2 = 0 ∨ (l.getD y.1 nilS).kind = 4) := fun a => a.elim (fun b => b d1) d2
     have q := hy.2.2
     rw [failL_k (by omega), if_neg d3] at q
     first
      | (rw [if_pos hc] at q; rw [← q] <;> rfl)
      | (rw [if_neg hc] at q; exact ⟨by dsimp only; omega, apply_u hy.2.1 d1, q⟩))
  | (have q := hy.2.2; rw [failL_e (by omega), if_pos (by simpa using hc)] at q; rw [← q] <;> rfl)
  | (have q := hy.2.2; rw [failL_e (by omega), if_neg (by simpa using hc)] at q; rw [← q] <;> first | rfl | (show (l.length : Int) = (y.1 : Int); omega))
  | exact ⟨Nat.zero_le _, hg, (fB hc).symm⟩
  | trace_state
theorem pcheck_fn (p : Prob) (l : List StepD) (h : vpErr p = 0) (hl : l.length ≤ 1000000) : FnSound Tryz.prog 56 [.val true (probC p), .val false [.d (.sl 3 (dSteps l))]] [] { vals := [(false, [.d (.v (.bool (checkP p l)))])] } := by
 refine startW (tm := [(0, _), (1, _)]) Tryz.func56 rfl Tryz.ntmps56 rfl rfl rfl rfl ?_
 repeat' (first
 |(with_reducible refine K_ca 90 ?_); refine zC (pfail_fn p l h hl) ?_
 |refine wA ?_
 |(refine wC ?_ ?_ <;> intro hc)
 |refine wB ?_ ?_
 |(with_reducible refine JL.block ?_)
 |(with_reducible refine F_at ?_); refine eW (vs := [(_, _)]) Tryz.results56 ?_; (focus (repeat' (first | exact oA | refine oB ?_ | refine oC ?_ ?_ | fail)))
 |exact oM
 |fail)
 all_goals first | rfl | trace_state
theorem psetx_fn (v : Int) : FnSound Tryz.prog 89 [.val false [.d (.v (.int .i64 v))]] [] { vals := [(false, [.d (.v (.bool (!replOK v)))])] } := by
 refine startW (tm := [(0, _)]) Tryz.func89 rfl Tryz.ntmps89 rfl rfl rfl rfl ?_
 repeat' (first
 |refine wA ?_
 |(refine wC ?_ ?_ <;> intro hc)
 |refine wB ?_ ?_
 |(with_reducible refine JL.block ?_)
 |(with_reducible refine F_at ?_); refine eW (vs := [(_, _)]) Tryz.results89 ?_; (focus (repeat' (first | exact oA | refine oB ?_ | refine oC ?_ ?_ | fail)))
 |exact oM
 |fail)
 all_goals (unfold replOK; first | (rw [decide_eq_false (by omega)]; rfl) | (rw [← decide_not]; congr 1; exact propext (by omega)) | trace_state)
theorem any_rep {rs : List Int} : (rs.any fun v => !replOK v) = !rs.all replOK := by
 induction rs with
 | nil => rfl
 | cons x r ih => rw [List.any_cons, List.all_cons, ih]; cases replOK x <;> simp
theorem psetting_fn (p : Prob) (rs : List Int) (hl : rs.length ≤ 1000000) : FnSound Tryz.prog 55 [.val true (probC p), .val false [.d (.sl 1 (dInts rs))]] [] { vals := [(false, [.d (.v (.int .i64 (setErr p rs)))])] } := by
 refine startW (tm := [(0, _), (1, _)]) Tryz.func55 rfl Tryz.ntmps55 rfl rfl rfl rfl ?_
 repeat' (first
 |(with_reducible refine K_ca 87 ?_); refine zC (vp_fn p) ?_
 |(with_reducible refine K_ca 88 ?_); refine zC (contains_fn 89 (fun v => !replOK v) ⟨by kernel_rfl⟩ psetx_fn rs hl) ?_
 |refine wA ?_
 |(refine wC ?_ ?_ <;> intro hc)
 |refine wB ?_ ?_
 |(with_reducible refine JL.block ?_)
 |(with_reducible refine F_at ?_); refine eW (vs := [(_, _)]) Tryz.results55 ?_; (focus (repeat' (first | exact oA | refine oB ?_ | refine oC ?_ ?_ | fail)))
 |exact oM
 |fail)
 all_goals first
  | exact (setErr_vp hc).symm
  | exact (setErr_ar (by assumption) (by omega)).symm
  | (have d := hc; rw [any_rep] at d; unfold setErr; rw [if_neg (fun a => a (by assumption)), if_neg (by omega)]; (first | (rw [if_pos (by simpa using d)]; done) | (rw [if_neg (by simpa using d)]; done)))
  | trace_state
end Go.Proofs.YtngjhkgcfabciaaGreat

