/- Rules of runs and contracts of functions, for the claims of one seat. -/
import Derived.Test.YtfnljcallbalgaaGreatDoorUA12
import Derived.Test.YtfnljcallbalgaaGreatDoorUA13
import Derived.Test.YtfnljcallbalgaaGreatDoorUA14
import Derived.Test.YtfnljcallbalgaaGreatDoorUA16
import Derived.Test.YtfnljcallbalgaaGreatDoorUA18
import Derived.Test.YtfnljcallbalgaaGreatDoorUA20
namespace Go.Proofs.YtfnljcallbalgaaGreatDoor
open Go Go.RowKit
set_option linter.unusedSimpArgs false
set_option linter.unusedVariables false
theorem wrap_u8 (n : Int) : 0 ≤ IntKind.u8.wrap n ∧ IntKind.u8.wrap n < 256 := by
 simp only [IntKind.wrap, IntKind.bits, IntKind.signed]
 simp
 omega
theorem bits_u8 (op : BinOp) (a b : Int) : 0 ≤ bits op IntKind.u8 a b ∧ bits op IntKind.u8 a b < 256 := wrap_u8 _
theorem runV_u8 (a b : Int) : 0 ≤ runV a b ∧ runV a b < 256 := by
 unfold runV
 split
 ·exact bits_u8 _ _ _
 ·exact wrap_u8 _
structure MixG (p : Prob) (m : MixD) : Prop where
 inn : MixIn p m
 u : u8s m.held
theorem mem_set {α : Type} {l : List α} {k : Nat} {x y : α} (h : y ∈ l.set k x) : y ∈ l ∨ y = x := List.mem_or_eq_of_mem_set h
theorem u8_get {l : List Int} (h : u8s l) (k : Nat) : 0 ≤ l.getD k 0 ∧ l.getD k 0 < 256 := by
 by_cases hk : k < l.length
 ·exact h _ (int_getD_mem hk)
 ·rw [List.getD_eq_getElem?_getD, List.getElem?_eq_none (by omega)]; decide
theorem after_g {p : Prob} {m x : MixD} {s : StepD} (hm : MixG p m) (hs : StepAt p s) (h : afterP p m s = some x) : MixG p x := by
 obtain ⟨hi, hu⟩ := hm
 by_cases k1 : s.kind = 1
 ·rw [after1 k1] at h
  split at h
  ·cases h
  ·cases h
   have hv := hs.ver k1
   refine ⟨⟨hi.vp, hi.lb, ?_, ?_, fun i h => ⟨(hi.rng i h).1, ?_⟩⟩, ?_⟩
   ·simp only [startedM]; rw [set_len]; exact hi.ln
   ·simp only [startedM, List.length_map, List.length_range]; exact hi.lh
   ·simp only [startedM]
    rw [getDi_set]
    split
    ·rename_i e; rw [← e.1]; omega
    ·exact (hi.rng i h).2
   ·intro y hy
    simp only [startedM, List.mem_map, List.mem_range] at hy
    obtain ⟨j, hj, rfl⟩ := hy
    unfold heldUp
    split
    ·exact bits_u8 _ _ _
    ·exact u8_get hu j
 ·by_cases k2 : s.kind = 2
  ·rw [after2 k2] at h
   split at h
   ·cases h
   ·rename_i hc
    cases h
    have hv := hs.svc (by omega)
    have h0 := hs.nn
    have hr := hi.rng s.idx.toNat (by omega)
    refine ⟨⟨hi.vp, by rw [set_len]; exact hi.lb, by rw [set_len]; exact hi.ln, hi.lh, fun i h => ⟨?_, ?_⟩⟩, hu⟩
    ·rw [getDi_set]
     split
     ·rename_i e; rw [← e.1]; omega
     ·exact (hi.rng i h).1
    ·rw [getDi_set]
     have := hi.rng i h
     split
     ·omega
     ·exact this.2
  ·by_cases k3 : s.kind = 3
   ·rw [after3 k3] at h
    split at h
    ·cases h
    ·split at h
     ·cases h
     ·split at h
      ·cases h
      ·cases h
       refine ⟨⟨hi.vp, hi.lb, hi.ln, by rw [set_len]; exact hi.lh, hi.rng⟩, fun y hy => ?_⟩
       rcases mem_set hy with h1 | rfl
       ·exact hu _ h1
       ·exact runV_u8 _ _
   ·rw [after4 k1 k2 k3] at h
    split at h
    ·cases h
    ·cases h
     refine ⟨⟨hi.vp, hi.lb, by rw [set_len]; exact hi.ln, hi.lh, fun i h => ⟨(hi.rng i h).1, ?_⟩⟩, hu⟩
     rw [getDi_set]
     have := hi.rng i h
     split
     ·omega
     ·exact this.2
theorem start_g {p : Prob} (h : vpErr p = 0) : MixG p (startM p) := by
 have hv := vp_all h
 refine ⟨⟨h, by simp only [startM]; exact hv.2.2.1, by simp [startM], by simp [startM], fun i hi => ⟨by simp only [startM]; exact (hv.2.2.2.2 i hi).2.1, ?_⟩⟩, fun y hy => ?_⟩
 ·have h1 := (hv.2.2.2.2 i hi).1
  have e : (List.replicate p.vs.length (-1 : Int)).getD i 0 = -1 := by rw [List.getD_eq_getElem?_getD, List.getElem?_replicate, if_pos hi]; rfl
  simp only [startM]
  rw [e]; omega
 ·simp only [startM, List.mem_map] at hy
  obtain ⟨t, ht, rfl⟩ := hy
  unfold startHeld
  split
  ·exact wrap_u8 _
  ·decide
theorem dropD_cons {α : Type} {l : List α} {k : Nat} {d : α} (h : k < l.length) : l.drop k = l.getD k d :: l.drop (k + 1) := by
 rw [List.getD_eq_getElem?_getD, List.getElem?_eq_getElem h, List.drop_eq_getElem_cons h]; rfl
end Go.Proofs.YtfnljcallbalgaaGreatDoor

namespace Go.Proofs.YtfnljcallbalgaaGreatDoor
open Go Go.RowKit
set_option linter.unusedSimpArgs false
set_option linter.unusedVariables false
def heldW (p : Prob) (i v : Int) (h : List Int) (k : Nat) : List Int := (List.range h.length).map fun j => if j < k then heldUp p i v (p.tabs.getD j nilT) (h.getD j 0) else h.getD j 0
theorem heldW_len {p : Prob} {i v : Int} {h : List Int} {k : Nat} : (heldW p i v h k).length = h.length := by simp [heldW]
theorem heldW_get {p : Prob} {i v : Int} {h : List Int} {k j : Nat} (hj : j < h.length) : (heldW p i v h k).getD j 0 = if j < k then heldUp p i v (p.tabs.getD j nilT) (h.getD j 0) else h.getD j 0 := map_range_get hj
theorem heldW_0 {p : Prob} {i v : Int} {h : List Int} : heldW p i v h 0 = h := by
 refine list_ext heldW_len fun j hj => ?_
 rw [heldW_len] at hj
 rw [heldW_get hj, if_neg (by omega)]
theorem heldW_all {p : Prob} {m : MixD} {s : StepD} {k : Nat} (hk : m.held.length ≤ k) : heldW p s.idx s.ver m.held k = (startedM p m s).held := by
 show (List.range m.held.length).map _ = (List.range m.held.length).map _
 refine List.map_congr_left fun j hj => ?_
 have := List.mem_range.1 hj
 rw [if_pos (by omega)]
theorem heldW_keep {p : Prob} {i v : Int} {h : List Int} {k : Nat} (hk : k < h.length) (hn : ¬ ((p.tabs.getD k nilT).frm = i ∧ storedB (p.tabs.getD k nilT).kind = true)) : heldW p i v h (k + 1) = heldW p i v h k := by
 refine list_ext (by rw [heldW_len, heldW_len]) fun j hj => ?_
 rw [heldW_len] at hj
 rw [heldW_get hj, heldW_get hj]
 by_cases e : j = k
 ·subst e
  rw [if_pos (by omega), if_neg (by omega)]
  unfold heldUp
  rw [if_neg hn]
 ·by_cases c : j < k
  ·rw [if_pos (by omega), if_pos c]
  ·rw [if_neg (by omega), if_neg c]
theorem heldW_at {p : Prob} {i v : Int} {h : List Int} {k : Nat} (hk : k < h.length) : (heldW p i v h k).getD k 0 = h.getD k 0 := by rw [heldW_get hk, if_neg (by omega)]
theorem heldW_set {p : Prob} {i v : Int} {h : List Int} {k : Nat} (hk : k < h.length) (hn : (p.tabs.getD k nilT).frm = i ∧ storedB (p.tabs.getD k nilT).kind = true) : (heldW p i v h k).set k (bits BinOp.or IntKind.u8 ((heldW p i v h k).getD k 0) (one8 v)) = heldW p i v h (k + 1) := by
 refine list_ext (by rw [List.length_set, heldW_len, heldW_len]) fun j hj => ?_
 rw [List.length_set, heldW_len] at hj
 rw [heldW_get hj]
 by_cases e : j = k
 ·subst e
  rw [heldW_at hk, if_pos (by omega), List.getD_eq_getElem?_getD, List.getElem?_set_self (by rw [heldW_len]; exact hk)]
  unfold heldUp
  rw [if_pos hn]; rfl
 ·have e5 : ∀ x, ((heldW p i v h k).set k x).getD j 0 = (heldW p i v h k).getD j 0 := fun x => by rw [List.getD_eq_getElem?_getD, List.getElem?_set_ne (fun a => e a.symm), ← List.getD_eq_getElem?_getD]
  rw [e5, heldW_get hj]
  by_cases c : j < k
  ·rw [if_pos (by omega), if_pos (by omega)]
  ·rw [if_neg (by omega), if_neg (by omega)]
def tz8 (x : Int) : Nat := ((List.range 8).find? fun (u : Nat) => hasV x u).getD 8
def clr8 (x : Int) : Int := bits BinOp.and IntKind.u8 x (IntKind.u8.wrap (x - 1))
theorem tz_all : ((List.range 64).all fun (n : Nat) => n == 0 || (decide (tz8 n < 6) && hasV n (tz8 n) && decide (0 ≤ clr8 n ∧ clr8 n < n) && (List.range 6).all fun (u : Nat) => hasV (clr8 n) u == (hasV n u && u != tz8 n))) = true := by decide +kernel
theorem tz_at {x : Int} (h : 0 < x ∧ x < 64) : tz8 x < 6 ∧ hasV x (tz8 x) = true ∧ (0 ≤ clr8 x ∧ clr8 x < x) ∧ ∀ u : Nat, u < 6 → hasV (clr8 x) u = (hasV x u && u != tz8 x) := by
 have h1 := List.all_eq_true.1 tz_all x.toNat (List.mem_range.2 (by omega))
 have e : ((x.toNat : Nat) : Int) = x := by omega
 rw [e] at h1
 simp only [Bool.or_eq_true, beq_iff_eq, Bool.and_eq_true, decide_eq_true_eq] at h1
 rcases h1 with h1 | ⟨⟨⟨h1, h2⟩, h3⟩, h4⟩
 ·omega
 ·refine ⟨h1, h2, h3, fun u hu => ?_⟩
  have := List.all_eq_true.1 h4 u (List.mem_range.2 hu)
  simpa using this
def rewL (q : Nat → Bool) (x : Int) : Bool := (List.range 6).all fun (u : Nat) => !hasV x u || q u
theorem rewL_no {q : Nat → Bool} {x : Int} (h : 0 < x ∧ x < 64) (hq : q (tz8 x) = false) : rewL q x = false := by
 obtain ⟨h1, h2, _⟩ := tz_at h
 refine range_no h1 ?_
 rw [h2, hq]; rfl
theorem rewL_yes {q : Nat → Bool} {x : Int} (h : 0 < x ∧ x < 64) (hq : q (tz8 x) = true) : rewL q (clr8 x) = rewL q x := by
 obtain ⟨h1, h2, _, h4⟩ := tz_at h
 unfold rewL
 rw [Bool.eq_iff_iff, List.all_eq_true, List.all_eq_true]
 constructor
 ·intro a u hu
  have h5 := a u hu
  rw [h4 u (List.mem_range.1 hu)] at h5
  by_cases e : u = tz8 x
  ·subst e; rw [hq, Bool.or_true]
  ·have : (u != tz8 x) = true := by simpa using e
   rw [this, Bool.and_true] at h5; exact h5
 ·intro a u hu
  have h5 := a u hu
  rw [h4 u (List.mem_range.1 hu)]
  by_cases e : u = tz8 x
  ·subst e; rw [hq, Bool.or_true]
  ·have : (u != tz8 x) = true := by simpa using e
   rw [this, Bool.and_true]; exact h5
theorem rewL_0 {q : Nat → Bool} : rewL q 0 = true := by
 unfold rewL
 rw [List.all_eq_true]
 intro u _
 have : hasV 0 u = false := by
  refine hasV_no.1 ?_
  unfold bitOf
  rw [Int.zero_ediv]; rfl
 rw [this]; rfl
theorem hasV_bit {x : Int} (h : 0 ≤ x ∧ x < 256) (v : Nat) : hasV x v = (BitVec.ofInt 8 x).getLsbD v := by
 have e1 : (BitVec.ofInt 8 x).toNat = x.toNat := by rw [BitVec.toNat_ofInt]; omega
 rw [BitVec.getLsbD, e1, Nat.testBit_eq_decide_div_mod_eq]
 unfold hasV
 congr 1
 unfold bitOf
 have e2 : (x / 2 ^ ((v : Nat) : Int).toNat) = ((x.toNat / 2 ^ v : Nat) : Int) := by
  rw [Int.toNat_natCast]
  conv => lhs; rw [show x = ((x.toNat : Nat) : Int) by omega]
  push_cast; rfl
 rw [e2]
 have hz : x.toNat / 2 ^ v < 256 := Nat.lt_of_le_of_lt (Nat.div_le_self _ _) (by omega)
 show (IntKind.u8.wrap (((BitVec.ofInt 8 ((x.toNat / 2 ^ v : Nat) : Int) &&& BitVec.ofInt 8 1).toNat : Nat) : Int) = 1) = _
 rw [and_one, show (BitVec.ofInt 8 1).toNat = 1 from rfl, Nat.and_one_is_mod, BitVec.toNat_ofInt]
 generalize x.toNat / 2 ^ v = z at hz
 have e3 : (((z : Int) % ((2 ^ 8 : Nat) : Int)).toNat) % 2 = z % 2 := by
  have : ((2 ^ 8 : Nat) : Int) = 256 := by decide
  rw [this]; omega
 rw [e3]
 have : z % 2 = 0 ∨ z % 2 = 1 := by omega
 rcases this with e | e <;> rw [e] <;> simp [IntKind.wrap, IntKind.bits, IntKind.signed]
theorem bits_rng (op : BinOp) (a b : Int) : 0 ≤ bits op IntKind.u8 a b ∧ bits op IntKind.u8 a b < 256 := by
 unfold bits
 cases op <;> simp [IntKind.wrap, IntKind.bits, IntKind.signed] <;> omega
theorem ofInt_wrap (z : BitVec 8) : BitVec.ofInt 8 (IntKind.u8.wrap ((z.toNat : Nat) : Int)) = z := by
 have h1 : IntKind.u8.wrap ((z.toNat : Nat) : Int) = (z.toNat : Int) := wr_u8 ⟨by omega, by have := z.isLt; omega⟩
 rw [h1]
 apply BitVec.eq_of_toNat_eq
 rw [BitVec.toNat_ofInt]
 have := z.isLt
 omega
theorem hasV_andNot {a b : Int} (ha : 0 ≤ a ∧ a < 256) (hb : 0 ≤ b ∧ b < 256) {u : Nat} (hu : u < 8) : hasV (bits BinOp.andNot IntKind.u8 a b) u = (hasV a u && !hasV b u) := by
 rw [hasV_bit (bits_rng _ _ _), hasV_bit ha, hasV_bit hb]
 show (BitVec.ofInt 8 (IntKind.u8.wrap (((BitVec.ofInt 8 a &&& ~~~ BitVec.ofInt 8 b).toNat : Nat) : Int))).getLsbD u = _
 rw [ofInt_wrap, BitVec.getLsbD_and, BitVec.getLsbD_not]
 simp [hu]
theorem hasV_over {x : Int} (h : 0 ≤ x ∧ x < 256) {u : Nat} (hu : 8 ≤ u) : hasV x u = false := by
 rw [hasV_bit h]; exact BitVec.getLsbD_of_ge _ _ hu
theorem hasV_lt {x : Int} (h : 0 ≤ x ∧ x < 256) (h6 : hasV x 6 = false) (h7 : hasV x 7 = false) : x < 64 := by
 have h6 : hasV x ((6 : Nat) : Int) = false := h6
 have h7 : hasV x ((7 : Nat) : Int) = false := h7
 rw [hasV_bit h] at h6 h7
 have e1 : (BitVec.ofInt 8 x).toNat = x.toNat := by rw [BitVec.toNat_ofInt]; omega
 rw [BitVec.getLsbD, e1, Nat.testBit_eq_decide_div_mod_eq, decide_eq_false_iff_not] at h6 h7
 omega
theorem allV_tab : ((List.range 7).all fun (n : Nat) => n == 0 || (List.range 8).all fun (u : Nat) => hasV (allV n) u == decide (u < n)) = true := by decide +kernel
theorem hasV_all {n : Int} (h : 1 ≤ n ∧ n ≤ 6) {u : Nat} (hu : u < 8) : hasV (allV n) u = decide ((u : Int) < n) := by
 have h1 := List.all_eq_true.1 allV_tab n.toNat (List.mem_range.2 (by omega))
 have e : ((n.toNat : Nat) : Int) = n := by omega
 rw [e] at h1
 simp only [Bool.or_eq_true, beq_iff_eq] at h1
 rcases h1 with h1 | h1
 ·omega
 ·have := List.all_eq_true.1 h1 u (List.mem_range.2 hu)
  rw [beq_iff_eq] at this
  rw [this]
  congr 1
  exact propext (by omega)
theorem allV_rng (n : Int) : 0 ≤ allV n ∧ allV n < 256 := by
 unfold allV
 simp [IntKind.wrap, IntKind.bits, IntKind.signed]; omega
theorem sub_has {a b : Int} (ha : 0 ≤ a ∧ a < 256) (hb : 0 ≤ b ∧ b < 256) (h : bits BinOp.andNot IntKind.u8 a b = 0) {u : Nat} (hu : hasV a u = true) : hasV b u = true := by
 by_cases hu8 : u < 8
 ·have := hasV_andNot ha hb hu8
  rw [h, hu] at this
  have e0 : hasV 0 u = false := by refine hasV_no.1 ?_; unfold bitOf; rw [Int.zero_ediv]; rfl
  rw [e0] at this
  simpa using this.symm
 ·rw [hasV_over ha (by omega)] at hu; cases hu
theorem runS_rng (m : MixD) (s : Int) : 0 ≤ runS m s ∧ runS m s < 256 := by
 unfold runS runV
 split
 ·exact bits_rng _ _ _
 ·exact one8_nn _
end Go.Proofs.YtfnljcallbalgaaGreatDoor

namespace Go.Proofs.YtfnljcallbalgaaGreatDoor
open Go Go.RowKit
set_option maxRecDepth 100000
set_option maxHeartbeats 8000000
set_option linter.unusedSimpArgs false
set_option linter.unusedVariables false
theorem qstored_fn (t : Tab) : FnSound Tryz.prog 333 [.val true (tabC t)] [] { vals := [(false, [.d (.v (.bool (storedB t.kind)))])] } := by
 refine startW (tm := [(0, _)]) Tryz.func333 rfl Tryz.ntmps333 rfl rfl rfl rfl ?_
 repeat' (first
 |refine wA ?_
 |(refine wC ?_ ?_ <;> intro hc)
 |refine wB ?_ ?_
 |(with_reducible refine JL.block ?_)
 |(with_reducible refine F_at ?_); refine eW (vs := [(_, _)]) Tryz.results333 ?_; (focus (repeat' (first | exact oA | refine oB ?_ | refine oC ?_ ?_ | fail)))
 |exact oM
 |fail)
 all_goals simp [storedB, *]
theorem qrun_fn (m : MixD) (s : Int) (hs : 0 ≤ s ∧ s < m.base.length ∧ s < m.next.length) (hb : 0 ≤ m.base.getD s.toNat 0 ∧ m.base.getD s.toNat 0 ≤ 6) (hn : m.next.getD s.toNat 0 ≤ 6) : FnSound Tryz.prog 334 [.val true (mixC m), .val false [.d (.v (.int .i64 s))]] [] { vals := [(false, [.d (.v (.int .u8 (runS m s)))])] } := by
 refine startW (tm := [(0, _), (1, _)]) Tryz.func334 rfl Tryz.ntmps334 rfl rfl rfl rfl ?_
 repeat' (first
 |refine wA ?_
 |(refine wC ?_ ?_ <;> intro hc)
 |refine wB ?_ ?_
 |(with_reducible refine JL.block ?_)
 |(with_reducible refine F_at ?_); refine eW (vs := [(_, _)]) Tryz.results334 ?_; (focus (repeat' (first | exact oA | refine oB ?_ | refine oC ?_ ?_ | fail)))
 |exact oM
 |fail)
 ·unfold runS runV; rw [if_pos hc]; rfl
 ·unfold runS runV; rw [if_neg hc]; rfl
theorem qvalid_fn (s : StepD) : FnSound Tryz.prog 75 [.val true (stepC s)] [] { vals := [(false, [.d (.v (.bool (stepOK s)))])] } := by
 refine startW (tm := [(0, _)]) Tryz.func75 rfl Tryz.ntmps75 rfl rfl rfl rfl ?_
 repeat' (first
 |refine wA ?_
 |(refine wC ?_ ?_ <;> intro hc)
 |refine wB ?_ ?_
 |(with_reducible refine JL.block ?_)
 |(with_reducible refine F_at ?_); refine eW (vs := [(_, _)]) Tryz.results75 ?_; (focus (repeat' (first | exact oA | refine oB ?_ | refine oC ?_ ?_ | fail)))
 |exact oM
 |fail)
 all_goals (unfold stepOK; first | (rw [eq_comm, decide_eq_true_eq]; omega) | (rw [eq_comm, decide_eq_false_iff_not]; omega) | (congr 1; exact propext (by omega)) | trace_state)
theorem qexists_fn (p : Prob) (s : StepD) (h : 0 ≤ s.idx) : FnSound Tryz.prog 312 [.val true (probC p), .val true (stepC s)] [] { vals := [(false, [.d (.v (.bool (thereB p s)))])] } := by
 refine startW (tm := [(0, _), (1, _)]) Tryz.func312 rfl Tryz.ntmps312 rfl rfl rfl rfl ?_
 repeat' (first
 |refine wA ?_
 |(refine wC ?_ ?_ <;> intro hc)
 |refine wB ?_ ?_
 |(with_reducible refine JL.block ?_)
 |(with_reducible refine F_at ?_); refine eW (vs := [(_, _)]) Tryz.results312 ?_; (focus (repeat' (first | exact oA | refine oB ?_ | refine oC ?_ ?_ | fail)))
 |exact oM
 |fail)
 all_goals (unfold thereB; simp [*])
theorem qcloned_fn (m : MixD) (hf : m.base.length ≤ 12 ∧ m.next.length ≤ 12 ∧ m.held.length ≤ 12) : FnSound Tryz.prog 294 [.val true (mixC m)] [] { vals := [(true, [.own (128, 200), .own (320, 200), .own (512, 200)])], bx := [((128, 200), .sl 3 1 (dInts m.base)), ((320, 200), .sl 3 1 (dInts m.next)), ((512, 200), .sl 183 1 (dSets m.held))] } := by
 refine startO (tm := [(0, _)]) [] Tryz.func294 rfl Tryz.ntmps294 rfl rfl rfl rfl ?_
 repeat' (first
 |(with_reducible refine K_ca 54 ?_); (first
 |refine zS (cloneInts_fn m.base (by omega)) ?_
 |refine zS (cloneInts_fn m.next (by omega)) ?_)
 |(with_reducible refine K_ca 310 ?_); refine zS (cloneSets_fn m.held (by omega)) ?_
 |refine wA ?_
 |(refine wC ?_ ?_ <;> intro hc)
 |refine wB ?_ ?_
 |(with_reducible refine JL.block ?_)
 |(with_reducible refine FO_at ?_); refine eO (vs := [(_, _)]) Tryz.results294 ?_
 |exact oM
 |fail)
 kernel_rfl
end Go.Proofs.YtfnljcallbalgaaGreatDoor

namespace Go.Proofs.YtfnljcallbalgaaGreatDoor
open Go Go.RowKit
set_option maxRecDepth 100000
set_option maxHeartbeats 8000000
set_option linter.unusedSimpArgs false
set_option linter.unusedVariables false
def mixIO : List C := [.own (1000, 0), .own (1001, 0), .own (1002, 0)]
def mixBx (m : MixD) : List (Key × Box) := [((1000, 0), .sl 3 1 (dInts m.base)), ((1001, 0), .sl 3 1 (dInts m.next)), ((1002, 0), .sl 183 1 (dSets m.held))]
theorem qstart_no (p : Prob) (m : MixD) (s : StepD) (hi : 0 ≤ s.idx ∧ s.idx < m.base.length ∧ s.idx < m.next.length) (hn : 0 ≤ m.next.getD s.idx.toNat 0 ∨ s.ver = m.base.getD s.idx.toNat 0) : FnSound Tryz.prog 325 [.val true (probC p), .io 57 mixIO, .val true (stepC s)] (mixBx m) { vals := [(false, [.d (.v (.bool false))])], ios := [mixIO], bx := mixBx m } := by
 refine startO (tm := [(0, _), (1, _), (2, _)]) [((1, 0), some (.st 57 [.own (1000, 0), .own (1001, 0), .own (1002, 0)])), ((1000, 0), some (.sl 3 1 (dInts m.base))), ((1001, 0), some (.sl 3 1 (dInts m.next))), ((1002, 0), some (.sl 183 1 (dSets m.held)))] Tryz.func325 rfl Tryz.ntmps325 rfl rfl rfl rfl ?_
 repeat' (first
 |refine wA ?_
 |(refine wC ?_ ?_ <;> intro hc)
 |refine wB ?_ ?_
 |(with_reducible refine JL.block ?_)
 |(with_reducible refine FO_at ?_); refine eO (vs := [(_, _)]) Tryz.results325 ?_
 |exact oM
 |fail)
 all_goals first
  | kernel_rfl
  | (exfalso; omega)
  | trace_state
theorem qstart_yes (p : Prob) (m : MixD) (s : StepD) (hi : 0 ≤ s.idx ∧ s.idx < m.base.length ∧ s.idx < m.next.length) (hv : 0 ≤ s.ver ∧ s.ver ≤ 6) (hl : m.held.length = p.tabs.length) (ht : p.tabs.length ≤ 12) (hu : u8s m.held) (hn : ¬ (0 ≤ m.next.getD s.idx.toNat 0 ∨ s.ver = m.base.getD s.idx.toNat 0)) : FnSound Tryz.prog 325 [.val true (probC p), .io 57 mixIO, .val true (stepC s)] (mixBx m) { vals := [(false, [.d (.v (.bool true))])], ios := [mixIO], bx := mixBx (startedM p m s) } := by
 have hwl := @heldW_len p s.idx s.ver m.held
 refine startO (tm := [(0, _), (1, _), (2, _)]) [((1, 0), some (.st 57 [.own (1000, 0), .own (1001, 0), .own (1002, 0)])), ((1000, 0), some (.sl 3 1 (dInts m.base))), ((1001, 0), some (.sl 3 1 (dInts m.next))), ((1002, 0), some (.sl 183 1 (dSets m.held)))] Tryz.func325 rfl Tryz.ntmps325 rfl rfl rfl rfl ?_
 repeat' (first
 |(with_reducible refine K_ca 333 ?_); refine zC (qstored_fn (p.tabs.getD k nilT)) ?_
 |(with_reducible refine blk_at (id := 0) ?_); ((with_reducible refine JL.loopW 0 599 (fun (k : Nat) tm => (43, .one false [.d (.v (.int .i64 ((k : Int))))]) :: tm) (fun (k : Nat) bo => ((1002, 0), some (.sl 183 1 (dSets (heldW p s.idx s.ver m.held k)))) :: bo) (fun (k : Nat) => k ≤ p.tabs.length) (fun (k : Nat) => p.tabs.length - k) (0) ?_ (fun k hk => have hwk := @hwl k; ?_) ?_); (focus (apply SubW [] rfl ?_ ?_ rfl ?_; (repeat' (first | exact kA | refine kB ?_ | refine kC ?_ ?_ | exact kD | fail)))))
 |((with_reducible refine round_next (i := k) (k + 1) ?_ ?_ ?_); (focus (apply SubW [] rfl ?_ ?_ rfl ?_; (repeat' (first | exact kA | refine kB ?_ | refine kC ?_ ?_ | exact kD | fail)))))
 |refine wA ?_
 |(refine wC ?_ ?_ <;> intro hc)
 |refine wB ?_ ?_
 |(with_reducible refine JL.block ?_)
 |(with_reducible refine FO_at ?_); refine eO (vs := [(_, _)]) Tryz.results325 ?_
 |exact oM
 |fail)
 all_goals first
  | (rw [heldW_0]; done)
  | (rw [Int.toNat_natCast]; exact congrArg dSets (heldW_set (by omega) ⟨by assumption, decide_eq_true hc⟩))
  | (rw [heldW_keep (by omega) (fun a => hc (of_decide_eq_true a.2))]; done)
  | (rw [heldW_keep (by omega) (fun a => hc a.1)]; done)
  | (rw [heldW_all (by omega)]; kernel_rfl)
  | (exfalso; omega)
  | trace_state
noncomputable def ann0 : Ann := { own := fun _ => false, lend := fun _ => false, cl := fun _ s => s, ext := fun _ _ _ => none }
theorem ann0_ok (n : Nat) : CallOk Tryz.prog (acall Tryz.prog ann0 n) := acall_ok (by kernel_rfl) (fun _ _ _ _ h => by cases h) (fun _ _ _ _ _ _ _ _ _ h => h) n
noncomputable def tzChk (n : Nat) : Bool := match acall Tryz.prog ann0 3 343 [.val false [.d (.v (.int .u8 (n : Int)))]] [] with
 | some { vals := [(false, [.d (.v (.int .i64 z))])], ios := [], bx := [], kp := false } => decide (z = (tz8 n : Int))
 | _ => false
theorem tz_chk : ((List.range 64).all fun n => n == 0 || tzChk n) = true := by kernel_rfl
theorem tz_fn (x : Int) (h : 0 < x ∧ x < 64) : FnSound Tryz.prog 343 [.val false [.d (.v (.int .u8 x))]] [] { vals := [(false, [.d (.v (.int .i64 (tz8 x)))])] } := by
 have h1 := List.all_eq_true.1 tz_chk x.toNat (List.mem_range.2 (by omega))
 simp only [Bool.or_eq_true, beq_iff_eq] at h1
 have h2 := h1.resolve_left (by omega)
 unfold tzChk at h2
 have e : ((x.toNat : Nat) : Int) = x := by omega
 rw [e] at h2
 split at h2
 ·rename_i z hz
  have := of_decide_eq_true h2
  subst this
  exact ann0_ok 3 _ _ _ _ hz
 ·cases h2
theorem hasV_hi {x : Int} (h : 0 ≤ x ∧ x < 64) {u : Nat} (hu : 6 ≤ u) : hasV x u = false := by
 rw [hasV_bit ⟨by omega, by omega⟩, BitVec.getLsbD]
 apply Nat.testBit_lt_two_pow
 have e1 : (BitVec.ofInt 8 x).toNat = x.toNat := by rw [BitVec.toNat_ofInt]; omega
 rw [e1]
 exact Nat.lt_of_lt_of_le (show x.toNat < 2 ^ 6 by omega) (Nat.pow_le_pow_right (by omega) hu)
theorem rewr_fn (t : Tab) (x b : Int) (hx : 0 ≤ x ∧ x < 64) (hr : ∀ u : Nat, hasV x u = true → u < t.rw.length ∧ 0 ≤ b ∧ b < ((t.rw.getD u []).length : Int)) : FnSound Tryz.prog 335 [.val true (tabC t), .val false [.d (.v (.int .u8 x))], .val false [.d (.v (.int .i64 b))]] [] { vals := [(false, [.d (.v (.bool (rewL (fun u => rwAt t u b) x)))])] } := by
 refine startW (tm := [(0, _), (1, _), (2, _)]) Tryz.func335 rfl Tryz.ntmps335 rfl rfl rfl rfl ?_
 repeat' (first
 |(with_reducible refine rgn 4 400 ?_ ?_); exact rfl
 |(with_reducible refine rgn 5 500 ?_ ?_); exact rfl
 |(with_reducible refine rgn 3 600 ?_ ?_); exact rfl
 |(with_reducible refine K_ca 343 ?_); refine zC (tz_fn y (by omega)) ?_
 |(with_reducible refine blk_at (id := 0) ?_); ((with_reducible refine JL.loopW 0 299 (fun (y : Int) tm => (7, .one false [.d (.v (.int .u8 (y)))]) :: tm) (fun (y : Int) bo => bo) (fun (y : Int) => (0 ≤ y ∧ y < 64) ∧ (∀ u : Nat, hasV y u = true → u < t.rw.length ∧ 0 ≤ b ∧ b < ((t.rw.getD u []).length : Int)) ∧ rewL (fun u => rwAt t u b) y = rewL (fun u => rwAt t u b) x) (fun (y : Int) => y.toNat) (x) ?_ (fun y hy => have htz := @tz_at y; have hrt := hy.2.1 (tz8 y); ?_) ?_); (focus (apply SubW [] rfl ?_ ?_ rfl ?_; (repeat' (first | exact kA | refine kB ?_ | refine kC ?_ ?_ | exact kD | fail)))))
 |((with_reducible refine round_next (i := y) (clr8 y) ?_ ?_ ?_); (focus (apply SubW [] rfl ?_ ?_ rfl ?_; (repeat' (first | exact kA | refine kB ?_ | refine kC ?_ ?_ | exact kD | fail)))))
 |refine wA ?_
 |(refine wC ?_ ?_ <;> intro hc)
 |refine wB ?_ ?_
 |(with_reducible refine JL.block ?_)
 |(with_reducible refine F_at ?_); refine eW (vs := [(_, _)]) Tryz.results335 ?_; (focus (repeat' (first | exact oA | refine oB ?_ | refine oC ?_ ?_ | fail)))
 |exact oM
 |fail)
 all_goals first
  | exact (hrt (htz (by omega)).2.1).1
  | exact (hrt (htz (by omega)).2.1).2
  | (rw [← hy.2.2, rewL_no (x := y) (by omega) (by simpa [rwAt] using hc)]; done)
  | (rw [← hy.2.2, hc]; exact rewL_0.symm)
  | exact ⟨hx, hr, rfl⟩
  | rfl
  | (have h3 := (htz (by omega)).2.2.1
     refine ⟨by omega, fun u hu => ?_, ?_⟩
     ·have h4 := (htz (by omega)).2.2.2 u
      by_cases h6 : u < 6
      ·rw [h4 h6, Bool.and_eq_true] at hu
       exact hy.2.1 u hu.1
      ·rw [hasV_hi (by omega) (by omega)] at hu; cases hu
     ·rw [rewL_yes (by omega) (by simpa [rwAt] using hc)]; exact hy.2.2)
  | trace_state
theorem held_at {p : Prob} {m : MixD} (h : mixErr p m = 0) {i : Nat} (hi : i < p.tabs.length) : heldB p m (p.tabs.getD i nilT) (m.held.getD i 0) = false := by
 have hm := mixIn_of h
 unfold mixErr at h
 rw [if_neg (by simpa using hm.vp), if_neg (by have := hm.lb; have := hm.ln; have := hm.lh; omega)] at h
 split at h
 ·rename_i h1; exact absurd h h1
 ·have := firstErr_zero.1 h i hi
  rw [Nat.zero_add] at this
  unfold heldI at this
  split at this
  ·cases this
  ·rename_i h2; simpa using h2
end Go.Proofs.YtfnljcallbalgaaGreatDoor

namespace Go.Proofs.YtfnljcallbalgaaGreatDoor
open Go Go.RowKit
set_option maxRecDepth 100000
set_option maxHeartbeats 8000000
set_option linter.unusedSimpArgs false
set_option linter.unusedVariables false
theorem held_sub {p : Prob} {m : MixD} (h : mixErr p m = 0) (hu : u8s m.held) {i : Nat} (hi : i < p.tabs.length) (hs : storedB (p.tabs.getD i nilT).kind = true) : (∀ u : Nat, hasV (m.held.getD i 0) u = true → (u : Int) < p.vs.getD (p.tabs.getD i nilT).frm.toNat 0) ∧ ∀ u : Nat, hasV (runS m (p.tabs.getD i nilT).frm) u = true → hasV (m.held.getD i 0) u = true := by
 have hv := (mixIn_of h).vp
 have ht := tab_at hv hi
 have hn := (vp_all hv).2.2.2.2 (p.tabs.getD i nilT).frm.toNat (by have := ht.frm; omega)
 have hb := held_at h hi
 have hr := u8s_get hu i
 unfold heldB at hb
 rw [if_pos hs, Bool.or_eq_false_iff, decide_eq_false_iff_not, decide_eq_false_iff_not, Classical.not_not, Classical.not_not] at hb
 refine ⟨fun u hu2 => ?_, fun u hu2 => sub_has (runS_rng _ _) hr hb.2 hu2⟩
 have h1 := sub_has hr (allV_rng _) hb.1 hu2
 by_cases h8 : u < 8
 ·rw [hasV_all hn.1 h8] at h1; exact of_decide_eq_true h1
 ·rw [hasV_over (allV_rng _) (by omega)] at h1; cases h1
theorem old_lt {p : Prob} {m : MixD} (h : mixErr p m = 0) (hu : u8s m.held) {i : Nat} (hi : i < p.tabs.length) (hs : storedB (p.tabs.getD i nilT).kind = true) : (0 ≤ bits BinOp.andNot IntKind.u8 (m.held.getD i 0) (runS m (p.tabs.getD i nilT).frm) ∧ bits BinOp.andNot IntKind.u8 (m.held.getD i 0) (runS m (p.tabs.getD i nilT).frm) < 64) ∧ ∀ u : Nat, hasV (bits BinOp.andNot IntKind.u8 (m.held.getD i 0) (runS m (p.tabs.getD i nilT).frm)) u = true → (u : Int) < p.vs.getD (p.tabs.getD i nilT).frm.toNat 0 := by
 have hv := (mixIn_of h).vp
 have ht := tab_at hv hi
 have hn := (vp_all hv).2.2.2.2 (p.tabs.getD i nilT).frm.toNat (by have := ht.frm; omega)
 have hr := u8s_get hu i
 have hsb := (held_sub h hu hi hs).1
 have key : ∀ u : Nat, hasV (bits BinOp.andNot IntKind.u8 (m.held.getD i 0) (runS m (p.tabs.getD i nilT).frm)) u = true → (u : Int) < p.vs.getD (p.tabs.getD i nilT).frm.toNat 0 := fun u h1 => by
  by_cases h8 : u < 8
  ·rw [hasV_andNot hr (runS_rng _ _) h8, Bool.and_eq_true] at h1
   exact hsb u h1.1
  ·rw [hasV_over (bits_rng _ _ _) (by omega)] at h1; cases h1
 have no : ∀ u : Nat, 6 ≤ u → hasV (bits BinOp.andNot IntKind.u8 (m.held.getD i 0) (runS m (p.tabs.getD i nilT).frm)) u = false := fun u h6 => by
  cases hc : hasV (bits BinOp.andNot IntKind.u8 (m.held.getD i 0) (runS m (p.tabs.getD i nilT).frm)) u with
  | false => rfl
  | true => have := key u hc; omega
 exact ⟨⟨(bits_rng _ _ _).1, hasV_lt (bits_rng _ _ _) (no 6 (by omega)) (no 7 (by omega))⟩, key⟩
theorem clear_is {p : Prob} {m : MixD} (h : mixErr p m = 0) (hu : u8s m.held) {i : Nat} (hi : i < p.tabs.length) (hs : storedB (p.tabs.getD i nilT).kind = true) : clearB p m (p.tabs.getD i nilT) (m.held.getD i 0) = (!decide ((p.tabs.getD i nilT).kind = 4) || rewL (fun u => rwAt (p.tabs.getD i nilT) u (m.base.getD (p.tabs.getD i nilT).frm.toNat 0)) (bits BinOp.andNot IntKind.u8 (m.held.getD i 0) (runS m (p.tabs.getD i nilT).frm))) := by
 have hv := (mixIn_of h).vp
 have ht := tab_at hv hi
 have hn := (vp_all hv).2.2.2.2 (p.tabs.getD i nilT).frm.toNat (by have := ht.frm; omega)
 have hr := u8s_get hu i
 have hol := (old_lt h hu hi hs).2
 unfold clearB
 by_cases k4 : (p.tabs.getD i nilT).kind = 4
 ·rw [decide_eq_true k4, Bool.not_true, Bool.false_or]
  unfold rewL
  rw [Bool.eq_iff_iff, List.all_eq_true, List.all_eq_true]
  constructor
  ·intro a u hu2
   have hu6 := List.mem_range.1 hu2
   cases hc : hasV (bits BinOp.andNot IntKind.u8 (m.held.getD i 0) (runS m (p.tabs.getD i nilT).frm)) u with
   | false => rfl
   | true =>
    have h1 := hol u hc
    have h2 := a u (List.mem_range.2 (by omega))
    rw [hasV_andNot hr (runS_rng _ _) (by omega)] at hc
    rw [hc] at h2
    simpa using h2
  ·intro a u hu2
   have hu6 := List.mem_range.1 hu2
   have h2 := a u (List.mem_range.2 (by omega))
   rw [hasV_andNot hr (runS_rng _ _) (by omega)] at h2
   cases hc : (hasV (m.held.getD i 0) u && !hasV (runS m (p.tabs.getD i nilT).frm) u) with
   | false => rfl
   | true => rw [hc] at h2; simpa using h2
 ·rw [decide_eq_false k4]
  simp
theorem qclear_no (p : Prob) (m : MixD) (i : Int) (h : mixErr p m = 0) (hu : u8s m.held) (hi : 0 ≤ i ∧ i < p.tabs.length) (hn : storedB (p.tabs.getD i.toNat nilT).kind = false ∨ m.held.getD i.toNat 0 = runS m (p.tabs.getD i.toNat nilT).frm ∨ clearB p m (p.tabs.getD i.toNat nilT) (m.held.getD i.toNat 0) = false) : FnSound Tryz.prog 326 [.val true (probC p), .io 57 mixIO, .val false [.d (.v (.int .i64 i))]] (mixBx m) { vals := [(false, [.d (.v (.bool false))])], ios := [mixIO], bx := mixBx m } := by
 have hm := mixIn_of h
 have hlh := hm.lh
 have htn := tabN hm.vp i.toNat (by omega)
 have hmf := hm.nn (p.tabs.getD i.toNat nilT).frm htn.1.1 htn.1.2
 have hst : ∀ a : (p.tabs.getD i.toNat nilT).kind = 3 ∨ (p.tabs.getD i.toNat nilT).kind = 4, storedB (p.tabs.getD i.toNat nilT).kind = true := fun a => decide_eq_true a
 have hol := fun a => old_lt h hu (i := i.toNat) (by omega) (hst a)
 have hcl := fun a => clear_is h hu (i := i.toNat) (by omega) (hst a)
 have hrw := fun k (u : Nat) => tabRW hm.vp i.toNat u (by omega) k
 have hrr := fun a k => rewr_fn (p.tabs.getD i.toNat nilT) (bits BinOp.andNot IntKind.u8 (m.held.getD i.toNat 0) (runS m (p.tabs.getD i.toNat nilT).frm)) (m.base.getD (p.tabs.getD i.toNat nilT).frm.toNat 0) (hol a).1 (fun u hu2 => by have h1 := (hol a).2 u hu2; have h2 := hrw k u h1; omega)
 refine startO (tm := [(0, _), (1, _), (2, _)]) [((1, 0), some (.st 57 [.own (1000, 0), .own (1001, 0), .own (1002, 0)])), ((1000, 0), some (.sl 3 1 (dInts m.base))), ((1001, 0), some (.sl 3 1 (dInts m.next))), ((1002, 0), some (.sl 183 1 (dSets m.held)))] Tryz.func326 rfl Tryz.ntmps326 rfl rfl rfl rfl ?_
 repeat' (first
 |(with_reducible refine rgL (fun g => g == 334) ?_ ?_); exact rfl
 |(with_reducible refine K_ca 333 ?_); refine zC (qstored_fn (p.tabs.getD i.toNat nilT)) ?_
 |(with_reducible refine K_ca 334 ?_); refine zC (qrun_fn m (p.tabs.getD i.toNat nilT).frm (by omega) (by omega) (by omega)) ?_
 |(with_reducible refine K_ca 335 ?_); refine zC (hrr (by assumption) (by assumption)) ?_
 |refine wA ?_
 |(refine wC ?_ ?_ <;> intro hc)
 |refine wB ?_ ?_
 |(with_reducible refine JL.block ?_)
 |(with_reducible refine FO_at ?_); refine eO (vs := [(_, _)]) Tryz.results326 ?_
 |exact oM
 |fail)
 all_goals first
  | (exfalso; rcases hn with a | a | a
     ·rw [hst (by assumption)] at a; cases a
     ·exact absurd a (by assumption)
     ·rw [hcl (by assumption)] at a; simp_all; done)
  | kernel_rfl
theorem qclear_yes (p : Prob) (m : MixD) (i : Int) (h : mixErr p m = 0) (hu : u8s m.held) (hi : 0 ≤ i ∧ i < p.tabs.length) (hs1 : storedB (p.tabs.getD i.toNat nilT).kind = true) (hs2 : ¬ m.held.getD i.toNat 0 = runS m (p.tabs.getD i.toNat nilT).frm) (hs3 : clearB p m (p.tabs.getD i.toNat nilT) (m.held.getD i.toNat 0) = true) : FnSound Tryz.prog 326 [.val true (probC p), .io 57 mixIO, .val false [.d (.v (.int .i64 i))]] (mixBx m) { vals := [(false, [.d (.v (.bool true))])], ios := [mixIO], bx := mixBx ⟨m.base, m.next, m.held.set i.toNat (runS m (p.tabs.getD i.toNat nilT).frm)⟩ } := by
 have hm := mixIn_of h
 have hlh := hm.lh
 have htn := tabN hm.vp i.toNat (by omega)
 have hmf := hm.nn (p.tabs.getD i.toNat nilT).frm htn.1.1 htn.1.2
 have hst : ∀ a : (p.tabs.getD i.toNat nilT).kind = 3 ∨ (p.tabs.getD i.toNat nilT).kind = 4, storedB (p.tabs.getD i.toNat nilT).kind = true := fun a => decide_eq_true a
 have hol := fun a => old_lt h hu (i := i.toNat) (by omega) (hst a)
 have hcl := fun a => clear_is h hu (i := i.toNat) (by omega) (hst a)
 have hrw := fun k (u : Nat) => tabRW hm.vp i.toNat u (by omega) k
 have hrr := fun a k => rewr_fn (p.tabs.getD i.toNat nilT) (bits BinOp.andNot IntKind.u8 (m.held.getD i.toNat 0) (runS m (p.tabs.getD i.toNat nilT).frm)) (m.base.getD (p.tabs.getD i.toNat nilT).frm.toNat 0) (hol a).1 (fun u hu2 => by have h1 := (hol a).2 u hu2; have h2 := hrw k u h1; omega)
 refine startO (tm := [(0, _), (1, _), (2, _)]) [((1, 0), some (.st 57 [.own (1000, 0), .own (1001, 0), .own (1002, 0)])), ((1000, 0), some (.sl 3 1 (dInts m.base))), ((1001, 0), some (.sl 3 1 (dInts m.next))), ((1002, 0), some (.sl 183 1 (dSets m.held)))] Tryz.func326 rfl Tryz.ntmps326 rfl rfl rfl rfl ?_
 repeat' (first
 |(with_reducible refine rgL (fun g => g == 334) ?_ ?_); exact rfl
 |(with_reducible refine K_ca 333 ?_); refine zC (qstored_fn (p.tabs.getD i.toNat nilT)) ?_
 |(with_reducible refine K_ca 334 ?_); refine zC (qrun_fn m (p.tabs.getD i.toNat nilT).frm (by omega) (by omega) (by omega)) ?_
 |(with_reducible refine K_ca 335 ?_); refine zC (hrr (by assumption) (by assumption)) ?_
 |refine wA ?_
 |(refine wC ?_ ?_ <;> intro hc)
 |refine wB ?_ ?_
 |(with_reducible refine JL.block ?_)
 |(with_reducible refine FO_at ?_); refine eO (vs := [(_, _)]) Tryz.results326 ?_
 |exact oM
 |fail)
 all_goals first
  | (exfalso; exact absurd (of_decide_eq_true hs1) (by assumption))
  | (exfalso; exact hs2 (by assumption))
  | (exfalso; rw [hcl (by assumption)] at hs3; simp_all; done)
  | kernel_rfl
end Go.Proofs.YtfnljcallbalgaaGreatDoor

namespace Go.Proofs.YtfnljcallbalgaaGreatDoor
open Go Go.RowKit
set_option maxRecDepth 100000
set_option maxHeartbeats 8000000
set_option linter.unusedSimpArgs false
set_option linter.unusedVariables false
theorem qafter_fn (p : Prob) (m : MixD) (s : StepD) (h : mixErr p m = 0) (hu : u8s m.held) (hs : StepAt p s) (hk : 1 ≤ s.kind ∧ s.kind ≤ 4) : FnSound Tryz.prog 313 [.val true (probC p), .val true (mixC m), .val true (stepC s)] [] { vals := [(true, mixC ((afterP p m s).getD m)), (false, [.d (.v (.bool (afterP p m s).isSome))])] } := by
 have hm := mixIn_of h
 have hvp := vp_all hm.vp
 have hb := hm.lb; have hnl := hm.ln; have hlh := hm.lh
 have h0 := hs.nn
 have hf : m.base.length ≤ 12 ∧ m.next.length ≤ 12 ∧ m.held.length ≤ 12 := ⟨by omega, by omega, by omega⟩
 by_cases k1 : s.kind = 1
 ·have hsv := hs.svc (by omega)
  have hv := hs.ver k1
  have hvl := vs_le hm.vp s.idx.toNat
  by_cases hn : 0 ≤ m.next.getD s.idx.toNat 0 ∨ s.ver = m.base.getD s.idx.toNat 0
  ·have e : afterP p m s = none := by rw [after1 k1, if_pos hn]
   rw [e]
   refine startW (tm := [(0, _), (1, _), (2, _)]) Tryz.func313 rfl Tryz.ntmps313 rfl rfl rfl rfl ?_
   repeat' (first
 |(with_reducible refine K_ca 294 ?_); refine W.callM 64 65 66 rfl rfl rfl rfl rfl BoC.h (qcloned_fn m hf) rfl rfl ?_
 |(with_reducible refine K_ca 325 ?_); refine zK (qstart_no p m s (by omega) hn) ?_
 |refine wA ?_
 |(refine wC ?_ ?_ <;> intro hc)
 |refine wB ?_ ?_
 |(with_reducible refine JL.block ?_)
 |(with_reducible refine F_at ?_); refine eW (vs := [(_, _), (_, _)]) Tryz.results313 ?_; (focus (repeat' (first | exact oA | refine oB ?_ | refine oC ?_ ?_ | fail)))
 |exact oM
 |fail)
   all_goals first | rfl | (exfalso; omega) | trace_state
  ·have e : afterP p m s = some (startedM p m s) := by rw [after1 k1, if_neg hn]
   rw [e]
   refine startW (tm := [(0, _), (1, _), (2, _)]) Tryz.func313 rfl Tryz.ntmps313 rfl rfl rfl rfl ?_
   repeat' (first
 |(with_reducible refine K_ca 294 ?_); refine W.callM 64 65 66 rfl rfl rfl rfl rfl BoC.h (qcloned_fn m hf) rfl rfl ?_
 |(with_reducible refine K_ca 325 ?_); refine zK (qstart_yes p m s (by omega) (by omega) hlh hvp.2.1 hu hn) ?_
 |refine wA ?_
 |(refine wC ?_ ?_ <;> intro hc)
 |refine wB ?_ ?_
 |(with_reducible refine JL.block ?_)
 |(with_reducible refine F_at ?_); refine eW (vs := [(_, _), (_, _)]) Tryz.results313 ?_; (focus (repeat' (first | exact oA | refine oB ?_ | refine oC ?_ ?_ | fail)))
 |exact oM
 |fail)
   all_goals first | rfl | (exfalso; omega) | trace_state
 ·by_cases k3 : s.kind = 3
  ·have htb := hs.tab k3
   by_cases hn : storedB (p.tabs.getD s.idx.toNat nilT).kind = false ∨ m.held.getD s.idx.toNat 0 = runS m (p.tabs.getD s.idx.toNat nilT).frm ∨ clearB p m (p.tabs.getD s.idx.toNat nilT) (m.held.getD s.idx.toNat 0) = false
   ·have e : afterP p m s = none := by
      rw [after3 k3]
      (repeat' split) <;> first | rfl | (exfalso; simp_all; done)
    rw [e]
    refine startW (tm := [(0, _), (1, _), (2, _)]) Tryz.func313 rfl Tryz.ntmps313 rfl rfl rfl rfl ?_
    repeat' (first
 |(with_reducible refine K_ca 294 ?_); refine W.callM 64 65 66 rfl rfl rfl rfl rfl BoC.h (qcloned_fn m hf) rfl rfl ?_
 |(with_reducible refine K_ca 326 ?_); refine zK (qclear_no p m s.idx h hu (by omega) hn) ?_
 |refine wA ?_
 |(refine wC ?_ ?_ <;> intro hc)
 |refine wB ?_ ?_
 |(with_reducible refine JL.block ?_)
 |(with_reducible refine F_at ?_); refine eW (vs := [(_, _), (_, _)]) Tryz.results313 ?_; (focus (repeat' (first | exact oA | refine oB ?_ | refine oC ?_ ?_ | fail)))
 |exact oM
 |fail)
    all_goals first | rfl | (exfalso; omega) | trace_state
   ·simp only [not_or, Bool.not_eq_false] at hn
    have e : afterP p m s = some ⟨m.base, m.next, m.held.set s.idx.toNat (runS m (p.tabs.getD s.idx.toNat nilT).frm)⟩ := by
     rw [after3 k3, if_neg (by rw [hn.1]; decide), if_neg hn.2.1, if_neg (by rw [hn.2.2]; decide)]
    rw [e]
    refine startW (tm := [(0, _), (1, _), (2, _)]) Tryz.func313 rfl Tryz.ntmps313 rfl rfl rfl rfl ?_
    repeat' (first
 |(with_reducible refine K_ca 294 ?_); refine W.callM 64 65 66 rfl rfl rfl rfl rfl BoC.h (qcloned_fn m hf) rfl rfl ?_
 |(with_reducible refine K_ca 326 ?_); refine zK (qclear_yes p m s.idx h hu (by omega) hn.1 hn.2.1 hn.2.2) ?_
 |refine wA ?_
 |(refine wC ?_ ?_ <;> intro hc)
 |refine wB ?_ ?_
 |(with_reducible refine JL.block ?_)
 |(with_reducible refine F_at ?_); refine eW (vs := [(_, _), (_, _)]) Tryz.results313 ?_; (focus (repeat' (first | exact oA | refine oB ?_ | refine oC ?_ ?_ | fail)))
 |exact oM
 |fail)
    all_goals first | rfl | (exfalso; omega) | trace_state
  ·have hsv := hs.svc k3
   by_cases hn : m.next.getD s.idx.toNat 0 < 0
   ·have e : afterP p m s = none := by
      by_cases k2 : s.kind = 2
      ·rw [after2 k2, if_pos hn]
      ·rw [after4 k1 k2 k3, if_pos hn]
    rw [e]
    refine startW (tm := [(0, _), (1, _), (2, _)]) Tryz.func313 rfl Tryz.ntmps313 rfl rfl rfl rfl ?_
    repeat' (first
 |(with_reducible refine K_ca 294 ?_); refine W.callM 64 65 66 rfl rfl rfl rfl rfl BoC.h (qcloned_fn m hf) rfl rfl ?_
 |refine wA ?_
 |(refine wC ?_ ?_ <;> intro hc)
 |refine wB ?_ ?_
 |(with_reducible refine JL.block ?_)
 |(with_reducible refine F_at ?_); refine eW (vs := [(_, _), (_, _)]) Tryz.results313 ?_; (focus (repeat' (first | exact oA | refine oB ?_ | refine oC ?_ ?_ | fail)))
 |exact oM
 |fail)
    all_goals first | rfl | (exfalso; omega) | trace_state
   ·have e : afterP p m s = some ⟨if s.kind = 2 then m.base.set s.idx.toNat (m.next.getD s.idx.toNat 0) else m.base, m.next.set s.idx.toNat (-1), m.held⟩ := by
      by_cases k2 : s.kind = 2
      ·rw [after2 k2, if_neg hn, if_pos k2]
      ·rw [after4 k1 k2 k3, if_neg hn, if_neg k2]
    rw [e]
    refine startW (tm := [(0, _), (1, _), (2, _)]) Tryz.func313 rfl Tryz.ntmps313 rfl rfl rfl rfl ?_
    repeat' (first
 |(with_reducible refine K_ca 294 ?_); refine W.callM 64 65 66 rfl rfl rfl rfl rfl BoC.h (qcloned_fn m hf) rfl rfl ?_
 |refine wA ?_
 |(refine wC ?_ ?_ <;> intro hc)
 |refine wB ?_ ?_
 |(with_reducible refine JL.block ?_)
 |(with_reducible refine F_at ?_); refine eW (vs := [(_, _), (_, _)]) Tryz.results313 ?_; (focus (repeat' (first | exact oA | refine oB ?_ | refine oC ?_ ?_ | fail)))
 |exact oM
 |fail)
    all_goals first | rfl | (exfalso; omega) | (rw [if_pos hc]; rfl) | (rw [if_neg hc]; rfl) | trace_state
end Go.Proofs.YtfnljcallbalgaaGreatDoor

namespace Go.Proofs.YtfnljcallbalgaaGreatDoor
open Go Go.RowKit
set_option maxRecDepth 100000
set_option maxHeartbeats 8000000
set_option linter.unusedSimpArgs false
set_option linter.unusedVariables false
theorem qap_fn (p : Prob) (m : MixD) (s : StepD) (h : mixErr p m = 0) (hu : u8s m.held) : FnSound Tryz.prog 269 [.val true (probC p), .val true (mixC m), .val true (stepC s)] [] { vals := [(true, mixC (applyP p m s).1), (false, [.d (.v (.int .i64 (applyP p m s).2))])] } := by
 have e : applyP p m s = (if stepOK s = false then (nilM, 1) else if thereB p s = false then (nilM, 4) else (match afterP p m s with
  | none => (nilM, 11)
  | some x => (x, 0)) : MixD × Int) := by unfold applyP; rw [if_neg (by simpa using h)]; cases afterP p m s <;> rfl
 rw [e]
 have hnn : stepOK s = true → 0 ≤ s.idx ∧ (1 ≤ s.kind ∧ s.kind ≤ 4) := fun a => by
  unfold stepOK at a
  have := of_decide_eq_true a
  omega
 have haf := fun a b => qafter_fn p m s h hu (stepAt_of a b) (hnn a).2
 cases hs : stepOK s with
 | false =>
  have hv := qvalid_fn s
  rw [hs] at hv
  refine startW (tm := [(0, _), (1, _), (2, _)]) Tryz.func269 rfl Tryz.ntmps269 rfl rfl rfl rfl ?_
  repeat' (first
 |(with_reducible refine K_ca 75 ?_); refine zC (hv) ?_
 |refine wA ?_
 |(refine wC ?_ ?_ <;> intro hc)
 |refine wB ?_ ?_
 |(with_reducible refine JL.block ?_)
 |(with_reducible refine F_at ?_); refine eW (vs := [(_, _), (_, _)]) Tryz.results269 ?_; (focus (repeat' (first | exact oA | refine oB ?_ | refine oC ?_ ?_ | fail)))
 |exact oM
 |fail)
  all_goals first | rfl | trace_state
 | true =>
  have hv := qvalid_fn s
  rw [hs] at hv
  have hx := qexists_fn p s (hnn hs).1
  cases ht : thereB p s with
  | false =>
   rw [ht] at hx
   refine startW (tm := [(0, _), (1, _), (2, _)]) Tryz.func269 rfl Tryz.ntmps269 rfl rfl rfl rfl ?_
   repeat' (first
 |(with_reducible refine K_ca 75 ?_); refine zC (hv) ?_
 |(with_reducible refine K_ca 312 ?_); refine zC (hx) ?_
 |refine wA ?_
 |(refine wC ?_ ?_ <;> intro hc)
 |refine wB ?_ ?_
 |(with_reducible refine JL.block ?_)
 |(with_reducible refine F_at ?_); refine eW (vs := [(_, _), (_, _)]) Tryz.results269 ?_; (focus (repeat' (first | exact oA | refine oB ?_ | refine oC ?_ ?_ | fail)))
 |exact oM
 |fail)
   all_goals first | rfl | trace_state
  | true =>
   rw [ht] at hx
   have ha := haf hs ht
   cases hp : afterP p m s with
   | none =>
    rw [hp] at ha
    refine startW (tm := [(0, _), (1, _), (2, _)]) Tryz.func269 rfl Tryz.ntmps269 rfl rfl rfl rfl ?_
    repeat' (first
 |(with_reducible refine K_ca 75 ?_); refine zC (hv) ?_
 |(with_reducible refine K_ca 312 ?_); refine zC (hx) ?_
 |(with_reducible refine K_ca 313 ?_); refine zC (ha) ?_
 |refine wA ?_
 |(refine wC ?_ ?_ <;> intro hc)
 |refine wB ?_ ?_
 |(with_reducible refine JL.block ?_)
 |(with_reducible refine F_at ?_); refine eW (vs := [(_, _), (_, _)]) Tryz.results269 ?_; (focus (repeat' (first | exact oA | refine oB ?_ | refine oC ?_ ?_ | fail)))
 |exact oM
 |fail)
    all_goals first | rfl | trace_state
   | some x =>
    rw [hp] at ha
    refine startW (tm := [(0, _), (1, _), (2, _)]) Tryz.func269 rfl Tryz.ntmps269 rfl rfl rfl rfl ?_
    repeat' (first
 |(with_reducible refine K_ca 75 ?_); refine zC (hv) ?_
 |(with_reducible refine K_ca 312 ?_); refine zC (hx) ?_
 |(with_reducible refine K_ca 313 ?_); refine zC (ha) ?_
 |refine wA ?_
 |(refine wC ?_ ?_ <;> intro hc)
 |refine wB ?_ ?_
 |(with_reducible refine JL.block ?_)
 |(with_reducible refine F_at ?_); refine eW (vs := [(_, _), (_, _)]) Tryz.results269 ?_; (focus (repeat' (first | exact oA | refine oB ?_ | refine oC ?_ ?_ | fail)))
 |exact oM
 |fail)
    all_goals first | rfl | trace_state
theorem qapply_fn (p : Prob) (m : MixD) (s : StepD) (hu : u8s m.held) : FnSound Tryz.prog 205 [.val true (probC p), .val true (mixC m), .val true (stepC s)] [] { vals := [(true, mixC (applyP p m s).1), (false, [.d (.v (.int .i64 (applyP p m s).2))])] } := by
 by_cases h : mixErr p m = 0
 ·refine startW (tm := [(0, _), (1, _), (2, _)]) Tryz.func205 rfl Tryz.ntmps205 rfl rfl rfl rfl ?_
  repeat' (first
 |(with_reducible refine K_ca 268 ?_); refine zC (pmixValidOK_fn hu h) ?_
 |(with_reducible refine K_ca 269 ?_); refine zC (qap_fn p m s h hu) ?_
 |refine wA ?_
 |(refine wC ?_ ?_ <;> intro hc)
 |refine wB ?_ ?_
 |(with_reducible refine JL.block ?_)
 |(with_reducible refine F_at ?_); refine eW (vs := [(_, _), (_, _)]) Tryz.results205 ?_; (focus (repeat' (first | exact oA | refine oB ?_ | refine oC ?_ ?_ | fail)))
 |exact oM
 |fail)
  all_goals first | rfl | trace_state
 ·have e : applyP p m s = (nilM, mixErr p m) := by unfold applyP; rw [if_pos h]
  rw [e]
  refine startW (tm := [(0, _), (1, _), (2, _)]) Tryz.func205 rfl Tryz.ntmps205 rfl rfl rfl rfl ?_
  repeat' (first
 |(with_reducible refine K_ca 268 ?_); refine zC (pmixValid_fn p m hu) ?_
 |refine wA ?_
 |(refine wC ?_ ?_ <;> intro hc)
 |refine wB ?_ ?_
 |(with_reducible refine JL.block ?_)
 |(with_reducible refine F_at ?_); refine eW (vs := [(_, _), (_, _)]) Tryz.results205 ?_; (focus (repeat' (first | exact oA | refine oB ?_ | refine oC ?_ ?_ | fail)))
 |exact oM
 |fail)
  all_goals first | rfl | exact absurd hc h | trace_state
end Go.Proofs.YtfnljcallbalgaaGreatDoor

namespace Go.Proofs.YtfnljcallbalgaaGreatDoor
open Go Go.RowKit
set_option linter.unusedSimpArgs false
set_option linter.unusedVariables false
theorem setErr_ok {p : Prob} {rs : List Int} (h : setErr p rs = 0) : vpErr p = 0 ∧ rs.length = p.vs.length ∧ ∀ k, k < rs.length → 1 ≤ rs.getD k 0 ∧ rs.getD k 0 ≤ 4 := by
 unfold setErr at h
 split at h
 ·contradiction
 ·split at h
  ·cases h
  ·split at h
   ·cases h
   ·rename_i h1 h2 h3
    refine ⟨by simpa using h1, by omega, fun k hk => ?_⟩
    have h3 : rs.all replOK = true := by simpa using h3
    rw [List.all_eq_true] at h3
    have := h3 _ (int_getD_mem hk)
    simpa [replOK] using this
theorem setErr_vp {p : Prob} {rs : List Int} (h : ¬ vpErr p = 0) : setErr p rs = vpErr p := by unfold setErr; rw [if_pos h]
theorem setErr_ar {p : Prob} {rs : List Int} (h : vpErr p = 0) (h1 : ¬ rs.length = p.vs.length) : setErr p rs = 6 := by unfold setErr; rw [if_neg (by simpa using h), if_pos h1]
theorem setErr_rg {p : Prob} {rs : List Int} {k : Nat} (h : vpErr p = 0) (h1 : rs.length = p.vs.length) (hk : k < rs.length) (h2 : ¬ (1 ≤ rs.getD k 0 ∧ rs.getD k 0 ≤ 4)) : setErr p rs = 7 := by
 unfold setErr
 rw [if_neg (by simpa using h), if_neg (by omega), if_pos]
 rw [List.all_eq_false]
 exact ⟨_, int_getD_mem hk, by simp only [replOK, decide_eq_true_eq]; exact h2⟩
theorem setErr_yes {p : Prob} {rs : List Int} {k : Nat} (h : vpErr p = 0) (h1 : rs.length = p.vs.length) (hk : rs.length ≤ k) (h2 : ∀ j, j < k → 1 ≤ rs.getD j 0 ∧ rs.getD j 0 ≤ 4) : setErr p rs = 0 := by
 unfold setErr
 rw [if_neg (by simpa using h), if_neg (by omega), if_neg]
 rw [Bool.not_eq_false, List.all_eq_true]
 intro x hx
 obtain ⟨i, hi, rfl⟩ := List.getElem_of_mem hx
 have := h2 i (by omega)
 rw [List.getD_eq_getElem?_getD, List.getElem?_eq_getElem hi] at this
 simp only [replOK, decide_eq_true_eq]
 exact this
end Go.Proofs.YtfnljcallbalgaaGreatDoor

