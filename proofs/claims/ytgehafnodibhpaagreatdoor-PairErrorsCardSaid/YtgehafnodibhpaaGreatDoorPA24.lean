/- Rules of runs and contracts of functions, for the claims of one seat. -/
import Derived.Test.YtgehafnodibhpaaGreatDoorPA14
import Derived.Test.YtgehafnodibhpaaGreatDoorPA18
import Derived.Test.YtgehafnodibhpaaGreatDoorPA19
import Derived.Test.YtgehafnodibhpaaGreatDoorPA21
import Derived.Test.YtgehafnodibhpaaGreatDoorPA22
import Derived.Test.YtgehafnodibhpaaGreatDoorPA23
namespace Go.Proofs.YtgehafnodibhpaaGreatDoor
open Go Go.RowKit
set_option maxRecDepth 100000
set_option maxHeartbeats 8000000
set_option linter.unusedSimpArgs false
set_option linter.unusedVariables false
theorem nan_u64 (x : Int) : FnSound Tryz.prog 300 [.val false [.d (.v (.int .u64 x))]] [] { vals := [(false, [.d (.v (.bool false))])] } := by
 refine startW (tm := [(0, _)]) Tryz.func300 rfl Tryz.ntmps300 rfl rfl rfl rfl ?_
 repeat' (first
 |refine wA ?_
 |(refine wC ?_ ?_ <;> intro hc)
 |refine wB ?_ ?_
 |(with_reducible refine JL.block ?_)
 |(with_reducible refine F_at ?_); refine eW (vs := [(_, _)]) Tryz.results300 ?_; (focus (repeat' (first | exact oA | refine oB ?_ | refine oC ?_ ?_ | fail)))
 |exact oM
 |fail)
 all_goals first | with_reducible rfl | (simp; done) | trace_state
theorem pcmp_u64 (a b : Int) : FnSound Tryz.prog 250 [.val false [.d (.v (.int .u64 a))], .val false [.d (.v (.int .u64 b))]] [] { vals := [(false, [.d (.v (.int .i64 (if a < b then -1 else if b < a then 1 else 0)))])] } := by
 refine startW (tm := [(0, _), (1, _)]) Tryz.func250 rfl Tryz.ntmps250 rfl rfl rfl rfl ?_
 repeat' (first
 |(with_reducible refine K_ca 300 ?_); refine zC (nan_u64 _) ?_
 |refine wA ?_
 |(refine wC ?_ ?_ <;> intro hc)
 |refine wB ?_ ?_
 |(with_reducible refine JL.block ?_)
 |(with_reducible refine F_at ?_); refine eW (vs := [(_, _)]) Tryz.results250 ?_; (focus (repeat' (first | exact oA | refine oB ?_ | refine oC ?_ ?_ | fail)))
 |exact oM
 |fail)
 all_goals first | with_reducible rfl | ((repeat' split) <;> omega) | trace_state
theorem nan_i64 (x : Int) : FnSound Tryz.prog 172 [.val false [.d (.v (.int .i64 x))]] [] { vals := [(false, [.d (.v (.bool false))])] } := by
 refine startW (tm := [(0, _)]) Tryz.func172 rfl Tryz.ntmps172 rfl rfl rfl rfl ?_
 repeat' (first
 |refine wA ?_
 |(refine wC ?_ ?_ <;> intro hc)
 |refine wB ?_ ?_
 |(with_reducible refine JL.block ?_)
 |(with_reducible refine F_at ?_); refine eW (vs := [(_, _)]) Tryz.results172 ?_; (focus (repeat' (first | exact oA | refine oB ?_ | refine oC ?_ ?_ | fail)))
 |exact oM
 |fail)
 all_goals first | with_reducible rfl | (simp; done) | trace_state
theorem pcmp_i64 (a b : Int) : FnSound Tryz.prog 161 [.val false [.d (.v (.int .i64 a))], .val false [.d (.v (.int .i64 b))]] [] { vals := [(false, [.d (.v (.int .i64 (if a < b then -1 else if b < a then 1 else 0)))])] } := by
 refine startW (tm := [(0, _), (1, _)]) Tryz.func161 rfl Tryz.ntmps161 rfl rfl rfl rfl ?_
 repeat' (first
 |(with_reducible refine K_ca 172 ?_); refine zC (nan_i64 _) ?_
 |refine wA ?_
 |(refine wC ?_ ?_ <;> intro hc)
 |refine wB ?_ ?_
 |(with_reducible refine JL.block ?_)
 |(with_reducible refine F_at ?_); refine eW (vs := [(_, _)]) Tryz.results161 ?_; (focus (repeat' (first | exact oA | refine oB ?_ | refine oC ?_ ?_ | fail)))
 |exact oM
 |fail)
 all_goals first | with_reducible rfl | ((repeat' split) <;> omega) | trace_state
theorem nan_s (x : ByteArray) : FnSound Tryz.prog 301 [.val false [.d (.v (.string x))]] [] { vals := [(false, [.d (.v (.bool false))])] } := by
 refine startW (tm := [(0, _)]) Tryz.func301 rfl Tryz.ntmps301 rfl rfl rfl rfl ?_
 repeat' (first
 |refine wA ?_
 |(refine wC ?_ ?_ <;> intro hc)
 |refine wB ?_ ?_
 |(with_reducible refine JL.block ?_)
 |(with_reducible refine F_at ?_); refine eW (vs := [(_, _)]) Tryz.results301 ?_; (focus (repeat' (first | exact oA | refine oB ?_ | refine oC ?_ ?_ | fail)))
 |exact oM
 |fail)
 all_goals first | with_reducible rfl | (simp; done) | trace_state
theorem pcmp_s (a b : ByteArray) : FnSound Tryz.prog 251 [.val false [.d (.v (.string a))], .val false [.d (.v (.string b))]] [] { vals := [(false, [.d (.v (.int .i64 (if lessS a b = true then -1 else if a = b then 0 else 1)))])] } := by
 refine startW (tm := [(0, _), (1, _)]) Tryz.func251 rfl Tryz.ntmps251 rfl rfl rfl rfl ?_
 repeat' (first
 |(with_reducible refine K_ca 301 ?_); refine zC (nan_s _) ?_
 |refine wA ?_
 |(refine wC ?_ ?_ <;> intro hc)
 |refine wB ?_ ?_
 |(with_reducible refine JL.block ?_)
 |(with_reducible refine F_at ?_); refine eW (vs := [(_, _)]) Tryz.results251 ?_; (focus (repeat' (first | exact oA | refine oB ?_ | refine oC ?_ ?_ | fail)))
 |exact oM
 |fail)
 all_goals first | with_reducible rfl | (simp_all; done) | trace_state
def orI : List Int → Int
 | [] => 0
 | x :: r => if x = 0 then orI r else x
theorem orI_no : ∀ {xs : List Int} {k : Nat}, k < xs.length → (∀ j, j < k → xs.getD j 0 = 0) → ¬ xs.getD k 0 = 0 → xs.getD k 0 = orI xs
 | [], _, h, _, _ => absurd h (Nat.not_lt_zero _)
 | x :: r, 0, _, _, h => by unfold orI; rw [if_neg (show ¬ x = 0 from h)]; rfl
 | x :: r, k + 1, h1, h2, h => by
  unfold orI
  rw [if_pos (show x = 0 from h2 0 (by omega))]
  exact orI_no (xs := r) (k := k) (by simpa using h1) (fun j hj => by have := h2 (j + 1) (by omega); simpa using this) (by simpa using h)
theorem orI_all : ∀ {xs : List Int}, (∀ j, j < xs.length → xs.getD j 0 = 0) → 0 = orI xs
 | [], _ => rfl
 | x :: r, h => by
  unfold orI
  rw [if_pos (show x = 0 from h 0 (by simp))]
  exact orI_all (xs := r) fun j hj => by have := h (j + 1) (by simpa using hj); simpa using this
theorem por_fn (xs : List Int) (hl : xs.length ≤ 1000) : FnSound Tryz.prog 160 [.val false [.d (.sl 1 (dInts xs))]] [] { vals := [(false, [.d (.v (.int .i64 (orI xs)))])] } := by
 refine startW (tm := [(0, _)]) Tryz.func160 rfl Tryz.ntmps160 rfl rfl rfl rfl ?_
 repeat' (first
 |(with_reducible refine blk_at (id := 0) ?_); ((with_reducible refine JL.loopW 0 399 (fun (k : Nat) tm => (8, .one false [.d (.v (.int .i64 ((k : Int))))]) :: tm) (fun (k : Nat) bo => bo) (fun (k : Nat) => k ≤ xs.length ∧ ∀ j, j < k → xs.getD j 0 = 0) (fun (k : Nat) => xs.length - k) (0) ?_ (fun k hk => ?_) ?_); (focus (apply SubW [] rfl ?_ ?_ rfl ?_; (repeat' (first | exact kA | refine kB ?_ | refine kC ?_ ?_ | exact kD | fail)))))
 |((with_reducible refine round_next (i := k) (k + 1) ?_ ?_ ?_); (focus (apply SubW [] rfl ?_ ?_ rfl ?_; (repeat' (first | exact kA | refine kB ?_ | refine kC ?_ ?_ | exact kD | fail)))))
 |refine wA ?_
 |(refine wC ?_ ?_ <;> intro hc)
 |refine wB ?_ ?_
 |(with_reducible refine JL.block ?_)
 |(with_reducible refine F_at ?_); refine eW (vs := [(_, _)]) Tryz.results160 ?_; (focus (repeat' (first | exact oA | refine oB ?_ | refine oC ?_ ?_ | fail)))
 |exact oM
 |fail)
 all_goals first
  | with_reducible rfl
  | omega
  | exact ⟨Nat.zero_le _, fun j hj => absurd hj (Nat.not_lt_zero j)⟩
  | exact orI_no (by omega) hk.2 hc
  | exact ⟨by omega, lt_next hk.2 (by omega)⟩
  | exact orI_all (fun j hj => hk.2 j (by omega))
  | trace_state
theorem zig_bits (n : Int) (h : -9223372036854775808 ≤ n ∧ n ≤ 9223372036854775807) : bits .xor .u64 (IntKind.u64.wrap (IntKind.u64.wrap n * 2 ^ Int.toNat 1)) (IntKind.u64.wrap (n / 2 ^ Int.toNat 63)) = zigP n := by
 have e1 : (2 : Int) ^ Int.toNat 1 = 2 := rfl
 have e2 : (2 : Int) ^ Int.toNat 63 = 9223372036854775808 := rfl
 have w : ∀ m : Int, IntKind.u64.wrap m = m % 18446744073709551616 := fun m => rfl
 rw [e1, e2, w, w, w]
 show IntKind.u64.wrap (BitVec.ofInt 64 _ ^^^ BitVec.ofInt 64 _).toNat = _
 rw [w]
 unfold zigP
 by_cases hn : 0 ≤ n
 ·rw [if_pos hn, show n / 9223372036854775808 = 0 by omega, show (0 : Int) % 18446744073709551616 = 0 from rfl, show BitVec.ofInt 64 0 = 0#64 from rfl, BitVec.xor_zero, BitVec.toNat_ofInt]
  omega
 ·rw [if_neg hn, show n / 9223372036854775808 = -1 by omega, show (-1 : Int) % 18446744073709551616 = 18446744073709551615 from rfl, show BitVec.ofInt 64 18446744073709551615 = BitVec.allOnes 64 from rfl, BitVec.xor_allOnes, BitVec.toNat_not, BitVec.toNat_ofInt]
  omega
theorem pzig_fn (n : Int) (h : -9223372036854775808 ≤ n ∧ n ≤ 9223372036854775807) : FnSound Tryz.prog 179 [.val false [.d (.v (.int .i64 n))]] [] { vals := [(false, [.d (.v (.int .u64 (zigP n)))])] } := by
 refine startW (tm := [(0, _)]) Tryz.func179 rfl Tryz.ntmps179 rfl rfl rfl rfl ?_
 repeat' (first
 |refine wA ?_
 |(refine wC ?_ ?_ <;> intro hc)
 |refine wB ?_ ?_
 |(with_reducible refine JL.block ?_)
 |(with_reducible refine F_at ?_); refine eW (vs := [(_, _)]) Tryz.results179 ?_; (focus (repeat' (first | exact oA | refine oB ?_ | refine oC ?_ ?_ | fail)))
 |exact oM
 |fail)
 all_goals first | with_reducible rfl | exact zig_bits n h | trace_state
end Go.Proofs.YtgehafnodibhpaaGreatDoor

namespace Go.Proofs.YtgehafnodibhpaaGreatDoor
open Go Go.RowKit
set_option maxRecDepth 100000
set_option maxHeartbeats 8000000
set_option linter.unusedSimpArgs false
set_option linter.unusedVariables false
theorem bl_irrefl : ∀ l : List UInt8, Op.bytesLess l l = false
 | [] => rfl
 | x :: r => by
  unfold Op.bytesLess
  simp [bl_irrefl r]
theorem less_ne {a b : ByteArray} (h : lessS a b = true) : ¬ a = b := fun e => by
 subst e
 unfold lessS at h
 rw [bl_irrefl] at h
 cases h
theorem or2 (x y : Int) : orI [x, y] = if x = 0 then y else x := by
 unfold orI
 split
 ·unfold orI; split
  ·rename_i h; unfold orI; exact h.symm
  ·rfl
 ·rfl
theorem str_cmp {a b : ValD} (h0 : a.kind = b.kind) (h : a.kind = 3) : orI [if (a.s.size : Int) < b.s.size then -1 else if (b.s.size : Int) < a.s.size then 1 else 0, if lessS a.s b.s = true then -1 else if a.s = b.s then 0 else 1] = cmpV a b := by
 have e : cmpV a b = (if a.s.size < b.s.size then -1 else if b.s.size < a.s.size then 1 else if a.s = b.s then 0 else if lessS a.s b.s then -1 else 1) := by
  unfold cmpV
  rw [if_neg (not_not_intro h0), if_neg (show ¬ a.kind = 1 by omega), if_neg (show ¬ a.kind = 2 by omega), if_pos h]
 rw [or2, e]
 by_cases h1 : a.s.size < b.s.size
 ·rw [if_pos h1, if_pos (show (a.s.size : Int) < b.s.size by omega), if_neg (by decide)]
 ·rw [if_neg h1, if_neg (show ¬ (a.s.size : Int) < b.s.size by omega)]
  by_cases h2 : b.s.size < a.s.size
  ·rw [if_pos h2, if_pos (show (b.s.size : Int) < a.s.size by omega), if_neg (by decide)]
  ·rw [if_neg h2, if_neg (show ¬ (b.s.size : Int) < a.s.size by omega), if_pos rfl]
   by_cases h3 : lessS a.s b.s = true
   ·rw [if_pos h3, if_neg (less_ne h3), if_pos h3]
   ·rw [if_neg h3, if_neg h3]
theorem pcompare_fn (a b : ValD) (ha : -9223372036854775808 ≤ a.n ∧ a.n ≤ 9223372036854775807) (hb : -9223372036854775808 ≤ b.n ∧ b.n ≤ 9223372036854775807) : FnSound Tryz.prog 198 [.val true (valC a), .val true (valC b)] [] { vals := [(false, [.d (.v (.int .i64 (cmpV a b)))])] } := by
 refine startW (tm := [(0, _), (1, _)]) Tryz.func198 rfl Tryz.ntmps198 rfl rfl rfl rfl ?_
 repeat' (first
 |(with_reducible refine rgL (fun g => g == 160) ?_ ?_); exact rfl
 |(with_reducible refine K_ca 179 ?_); (first
 |refine zC (pzig_fn _ ha) ?_
 |refine zC (pzig_fn _ hb) ?_)
 |(with_reducible refine K_ca 250 ?_); refine zC (pcmp_u64 _ _) ?_
 |(with_reducible refine K_ca 161 ?_); refine zC (pcmp_i64 _ _) ?_
 |(with_reducible refine K_ca 251 ?_); refine zC (pcmp_s _ _) ?_
 |(with_reducible refine K_ca 160 ?_); (first
 |refine W.call0A rfl BoC.h (por_fn [_, _] (by simp)) rfl rfl rfl ?_
 |refine W.call1A rfl BoC.h (por_fn [_, _] (by simp)) rfl rfl rfl rfl rfl ?_)
 |refine wA ?_
 |(refine wC ?_ ?_ <;> intro hc)
 |refine wB ?_ ?_
 |(with_reducible refine JL.block ?_)
 |(with_reducible refine F_at ?_); refine eW (vs := [(_, _)]) Tryz.results198 ?_; (focus (repeat' (first | exact oA | refine oB ?_ | refine oC ?_ ?_ | fail)))
 |exact oM
 |fail)
 all_goals first
  | with_reducible rfl
  | exact str_cmp (by assumption) hc
  | (unfold cmpV; simp_all; done)
  | (unfold cmpV; (repeat' split) <;> first | rfl | omega | contradiction | (exfalso; omega))
  | trace_state
end Go.Proofs.YtgehafnodibhpaaGreatDoor

namespace Go.Proofs.YtgehafnodibhpaaGreatDoor
open Go Go.RowKit
set_option maxRecDepth 100000
set_option maxHeartbeats 8000000
set_option linter.unusedSimpArgs false
set_option linter.unusedVariables false
theorem rbefore_fn (a b : EdgeD) : FnSound Tryz.prog 261 [.val true (edgeC a), .val true (edgeC b)] [] { vals := [(false, [.d (.v (.bool (befE a b)))])] } := by
 refine startW (tm := [(0, _), (1, _)]) Tryz.func261 rfl Tryz.ntmps261 rfl rfl rfl rfl ?_
 repeat' (first
 |refine wA ?_
 |(refine wC ?_ ?_ <;> intro hc)
 |refine wB ?_ ?_
 |(with_reducible refine JL.block ?_)
 |(with_reducible refine F_at ?_); refine eW (vs := [(_, _)]) Tryz.results261 ?_; (focus (repeat' (first | exact oA | refine oB ?_ | refine oC ?_ ?_ | fail)))
 |exact oM
 |fail)
 all_goals first
  | rfl
  | (unfold befE; refine decide_eq_decide.2 ?_; simp_all; done)
  | (unfold befE; simp_all; done)
  | (rename_i h0; unfold befE; cases h1 : a.send <;> cases h2 : b.send <;> simp_all)
  | trace_state
theorem aut_3 {a : AutD} (h : 12 < a.states ∨ (100 : Int) < a.edges.length) : 3 = autErr a := by
 unfold autErr; rw [if_pos (by omega)]
theorem aut_1 {a : AutD} (h1 : ¬ 12 < a.states) (h2 : ¬ (100 : Int) < a.edges.length) (h : ¬ (0 ≤ a.start ∧ a.start < a.states)) : 1 = autErr a := by
 unfold autErr; rw [if_neg (by omega), if_pos h]
theorem aut_e {a : AutD} {i : Nat} (h1 : ¬ 12 < a.states) (h2 : ¬ (100 : Int) < a.edges.length) (h3 : 0 ≤ a.start ∧ a.start < a.states) (hi : i < a.edges.length) (h : edgeAt a.states a.edges i = false) : 1 = autErr a := by
 unfold autErr; rw [if_neg (by omega), if_neg (fun g => g h3), edgesOk_no hi h]; rfl
theorem aut_0 {a : AutD} (h1 : ¬ 12 < a.states) (h2 : ¬ (100 : Int) < a.edges.length) (h3 : 0 ≤ a.start ∧ a.start < a.states) (h : ∀ j, j < a.edges.length → edgeAt a.states a.edges j = true) : 0 = autErr a := by
 unfold autErr; rw [if_neg (by omega), if_neg (fun g => g h3), edgesOk_yes h]; rfl
theorem edge_no {S : Int} {l : List EdgeD} {i : Nat} (h : ¬ (0 ≤ (l.getD i nilEd).frm ∧ (l.getD i nilEd).frm < S ∧ 0 ≤ (l.getD i nilEd).to ∧ (l.getD i nilEd).to < S ∧ 1 ≤ (l.getD i nilEd).label ∧ (l.getD i nilEd).label ≤ 1000)) : edgeAt S l i = false := by
 unfold edgeAt edgeOk; rw [decide_eq_false h]; rfl
theorem edge_bef {S : Int} {l : List EdgeD} {i : Nat} (hi : 0 < (i : Int)) (h : befE (l.getD ((i : Int) - 1).toNat nilEd) (l.getD i nilEd) = false) : edgeAt S l i = false := by
 rw [show ((i : Int) - 1).toNat = i - 1 by omega] at h
 unfold edgeAt; rw [h, decide_eq_false (by omega)]; simp
theorem edge_yes {S : Int} {l : List EdgeD} {i : Nat} (h : 0 ≤ (l.getD i nilEd).frm ∧ (l.getD i nilEd).frm < S ∧ 0 ≤ (l.getD i nilEd).to ∧ (l.getD i nilEd).to < S ∧ 1 ≤ (l.getD i nilEd).label ∧ (l.getD i nilEd).label ≤ 1000) (hb : ¬ 0 < (i : Int) ∨ befE (l.getD ((i : Int) - 1).toNat nilEd) (l.getD i nilEd) = true) : edgeAt S l i = true := by
 unfold edgeAt edgeOk
 rw [decide_eq_true h]
 rcases hb with g | g
 ·rw [decide_eq_true (show i = 0 by omega)]; rfl
 ·by_cases e : i = 0
  ·rw [decide_eq_true e]; rfl
  ·rw [show ((i : Int) - 1).toNat = i - 1 by omega] at g
   rw [g]; simp
theorem rautvalid_fn (a : AutD) (hl : a.edges.length ≤ 5900000000000) : FnSound Tryz.prog 209 [.val true (autC a)] [] { vals := [(false, [.d (.v (.int .i64 (autErr a)))])] } := by
 refine startW (tm := [(0, _)]) Tryz.func209 rfl Tryz.ntmps209 rfl rfl rfl rfl ?_
 repeat' (first
 |(with_reducible refine rgn 8 800 ?_ ?_); exact rfl
 |(with_reducible refine rgn 9 900 ?_ ?_); exact rfl
 |(with_reducible refine rgn 10 1000 ?_ ?_); exact rfl
 |(with_reducible refine rgn 11 1100 ?_ ?_); exact rfl
 |(with_reducible refine rgn 12 1200 ?_ ?_); exact rfl
 |(with_reducible refine rgn 7 1300 ?_ ?_); exact rfl
 |(with_reducible refine K_ca 261 ?_); refine zC (rbefore_fn _ _) ?_
 |(with_reducible refine blk_at (id := 0) ?_); ((with_reducible refine JL.loopW 0 699 (fun (i : Nat) tm => (3, .one false [.d (.v (.int .i64 ((i : Int))))]) :: tm) (fun (i : Nat) bo => bo) (fun (i : Nat) => i ≤ a.edges.length ∧ ∀ j, j < i → edgeAt a.states a.edges j = true) (fun (i : Nat) => a.edges.length - i) (0) ?_ (fun i hi => ?_) ?_); (focus (apply SubW [] rfl ?_ ?_ rfl ?_; (repeat' (first | exact kA | refine kB ?_ | refine kC ?_ ?_ | exact kD | fail)))))
 |((with_reducible refine round_next (i := i) (i + 1) ?_ ?_ ?_); (focus (apply SubW [] rfl ?_ ?_ rfl ?_; (repeat' (first | exact kA | refine kB ?_ | refine kC ?_ ?_ | exact kD | fail)))))
 |refine wA ?_
 |(refine wC ?_ ?_ <;> intro hc)
 |refine wB ?_ ?_
 |(with_reducible refine JL.block ?_)
 |(with_reducible refine F_at ?_); refine eW (vs := [(_, _)]) Tryz.results209 ?_; (focus (repeat' (first | exact oA | refine oB ?_ | refine oC ?_ ?_ | fail)))
 |exact oM
 |fail)
 all_goals first
  | rfl
  | omega
  | exact ⟨Nat.zero_le _, fun j hj => absurd hj (Nat.not_lt_zero j)⟩
  | exact aut_3 (by omega)
  | exact aut_1 (by omega) (by omega) (by omega)
  | exact aut_e (i := i) (by omega) (by omega) (by omega) (by omega) (edge_no (by omega))
  | exact aut_e (by omega) (by omega) (by omega) (by omega) (edge_bef (by assumption) (decide_eq_false hc))
  | exact ⟨by omega, lt_next hi.2 (edge_yes (by omega) (.inr (decide_eq_true hc)))⟩
  | exact ⟨by omega, lt_next hi.2 (edge_yes (by omega) (.inl hc))⟩
  | exact aut_0 (by omega) (by omega) (by omega) (fun j hj => hi.2 j (by omega))
  | trace_state
theorem pos_next {o : List Int} {x : Int} {k : Nat} (h : ∀ j, j < k → ¬ o.getD j 0 = x) (hc : ¬ o.getD k 0 = x) : ∀ j, j < k + 1 → ¬ o.getD j 0 = x := lt_next h hc
theorem pos_at {o : List Int} {x : Int} {k : Nat} (hk : k < o.length) (h : ∀ j, j < k → ¬ o.getD j 0 = x) (hc : o.getD k 0 = x) : (k : Int) = posI o x := by
 have hm : x ∈ o := by rw [← hc]; simp [List.getD, hk]
 unfold posI
 rw [if_pos hm]
 have h1 : o.idxOf x < o.length := List.idxOf_lt_length_iff.2 hm
 have h2 : o[o.idxOf x] = x := List.getElem_idxOf h1
 have h3 : ¬ o.idxOf x < k := fun g => h _ g (by simp [List.getD, h1, h2])
 have h4 : ¬ k < o.idxOf x := fun g => by
  have := List.not_of_lt_findIdx (p := (· == x)) (xs := o) (i := k) g
  simp [List.getD, hk] at hc
  simp [hc] at this
 omega
theorem pos_none {o : List Int} {x : Int} {k : Nat} (hk : ¬ (k : Int) < o.length) (h : ∀ j, j < k → ¬ o.getD j 0 = x) : -1 = posI o x := by
 have hm : x ∉ o := fun g => by
  obtain ⟨j, hj, e⟩ := List.getElem_of_mem g
  exact h j (by omega) (by simp [List.getD, hj, e])
 unfold posI
 rw [if_neg hm]
theorem rat_fn (o : List Int) (x : Int) (hl : o.length ≤ 5900000000000) : FnSound Tryz.prog 211 [.val false [.d (.sl 1 (dInts o))], .val false [.d (.v (.int .i64 x))]] [] { vals := [(false, [.d (.v (.int .i64 (posI o x)))])] } := by
 refine startW (tm := [(0, _), (1, _)]) Tryz.func211 rfl Tryz.ntmps211 rfl rfl rfl rfl ?_
 repeat' (first
 |(with_reducible refine rgn 4 400 ?_ ?_); exact rfl
 |(with_reducible refine rgn 5 500 ?_ ?_); exact rfl
 |(with_reducible refine rgn 3 600 ?_ ?_); exact rfl
 |(with_reducible refine blk_at (id := 0) ?_); ((with_reducible refine JL.loopW 0 299 (fun (k : Nat) tm => (5, .one false [.d (.v (.int .i64 ((k : Int))))]) :: tm) (fun (k : Nat) bo => bo) (fun (k : Nat) => k ≤ o.length ∧ ∀ j, j < k → ¬ o.getD j 0 = x) (fun (k : Nat) => o.length - k) (0) ?_ (fun k hk => ?_) ?_); (focus (apply SubW [] rfl ?_ ?_ rfl ?_; (repeat' (first | exact kA | refine kB ?_ | refine kC ?_ ?_ | exact kD | fail)))))
 |((with_reducible refine round_next (i := k) (k + 1) ?_ ?_ ?_); (focus (apply SubW [] rfl ?_ ?_ rfl ?_; (repeat' (first | exact kA | refine kB ?_ | refine kC ?_ ?_ | exact kD | fail)))))
 |refine wA ?_
 |(refine wC ?_ ?_ <;> intro hc)
 |refine wB ?_ ?_
 |(with_reducible refine JL.block ?_)
 |(with_reducible refine F_at ?_); refine eW (vs := [(_, _)]) Tryz.results211 ?_; (focus (repeat' (first | exact oA | refine oB ?_ | refine oC ?_ ?_ | fail)))
 |exact oM
 |fail)
 all_goals first
  | rfl
  | omega
  | exact ⟨Nat.zero_le _, fun j hj => absurd hj (Nat.not_lt_zero j)⟩
  | exact ⟨by omega, pos_next hk.2 hc⟩
  | exact pos_at (by omega) hk.2 hc
  | exact pos_none hc hk.2
  | trace_state
end Go.Proofs.YtgehafnodibhpaaGreatDoor

namespace Go.Proofs.YtgehafnodibhpaaGreatDoor
open Go Go.RowKit
set_option maxRecDepth 100000
set_option maxHeartbeats 8000000
set_option linter.unusedSimpArgs false
set_option linter.unusedVariables false
theorem scan_no {es : List EdgeD} {o : List Int} {p k : Nat} (hk : k < es.length) (hi : p < o.length) (hc : ¬ (es.getD k nilEd).frm = (scanN es (o.getD p 0) o k).getD (p : Int).toNat 0) : scanN es (o.getD p 0) o k = scanN es (o.getD p 0) o (k + 1) := by
 rw [Int.toNat_natCast, (scanN_get (by omega) hi).2] at hc
 rw [scanN_next hk]
 unfold stepE
 rw [if_neg (fun a => hc a.1)]
theorem scan_in {es : List EdgeD} {o : List Int} {p k : Nat} (hk : k < es.length) (hc : ¬ posI (scanN es (o.getD p 0) o k) (es.getD k nilEd).to < 0) : scanN es (o.getD p 0) o k = scanN es (o.getD p 0) o (k + 1) := by
 rw [posI_neg] at hc
 rw [scanN_next hk]
 unfold stepE
 rw [if_neg (fun a => hc a.2)]
theorem scan_yes {es : List EdgeD} {o : List Int} {p k : Nat} (hk : k < es.length) (hi : p < o.length) (hc : (es.getD k nilEd).frm = (scanN es (o.getD p 0) o k).getD (p : Int).toNat 0) (hm : posI (scanN es (o.getD p 0) o k) (es.getD k nilEd).to < 0) : scanN es (o.getD p 0) o k ++ [(es.getD k nilEd).to] = scanN es (o.getD p 0) o (k + 1) := by
 rw [posI_neg] at hm
 have h2 := hc
 rw [Int.toNat_natCast, (scanN_get (by omega) hi).2] at h2
 rw [scanN_next hk]
 unfold stepE
 rw [if_pos ⟨h2, hm⟩]
theorem ord_step {a : AutD} (hs : AutIn a) {p : Nat × List Int} (hp : OrdIn a.states p.2 ∧ p.1 ≤ p.2.length ∧ ordF a.edges (a.states.toNat - p.1) p.1 p.2 = ordP a) (hi : p.1 < p.2.length) : OrdIn a.states (p.1 + 1, scanE a.edges (p.2.getD p.1 0) p.2).2 ∧ (p.1 + 1, scanE a.edges (p.2.getD p.1 0) p.2).1 ≤ (p.1 + 1, scanE a.edges (p.2.getD p.1 0) p.2).2.length ∧ ordF a.edges (a.states.toNat - (p.1 + 1, scanE a.edges (p.2.getD p.1 0) p.2).1) (p.1 + 1, scanE a.edges (p.2.getD p.1 0) p.2).1 (p.1 + 1, scanE a.edges (p.2.getD p.1 0) p.2).2 = ordP a := by
 refine ⟨?_, ?_, ?_⟩
 ·show OrdIn a.states (scanE a.edges (p.2.getD p.1 0) p.2)
  rw [← scanN_all]; exact hp.1.scan hs.edges _ (Nat.le_refl _)
 ·show p.1 + 1 ≤ (scanE a.edges (p.2.getD p.1 0) p.2).length
  rw [← scanN_all]; exact (scanN_get (Nat.le_refl _) hi).1
 ·show ordF a.edges (a.states.toNat - (p.1 + 1)) (p.1 + 1) (scanE a.edges (p.2.getD p.1 0) p.2) = ordP a
  rw [← hp.2.2, ordF_next hs hp.1 hi]
theorem rord_fn (a : AutD) (hs : AutIn a) : FnSound Tryz.prog 210 [.val true (autC a)] [] { vals := [(false, [.d (.sl 1 (dInts (ordP a)))])] } := by
 have hlen := fun (o : List Int) (h : OrdIn a.states o) => h.len
 have hst := hs.start
 have hmo := hs.most
 have hfe := hs.few
 have hsc := fun (p : Nat × List Int) (h : OrdIn a.states p.2) (k : Nat) (hk : k ≤ a.edges.length) => (h.scan hs.edges (x := p.2.getD p.1 0) k hk).len
 have hge := fun (p : Nat × List Int) (k : Nat) (hk : k ≤ a.edges.length) (hi : p.1 < p.2.length) => scanN_get (es := a.edges) (x := p.2.getD p.1 0) hk hi
 refine startW (tm := [(0, _)]) Tryz.func210 rfl Tryz.ntmps210 rfl rfl rfl rfl ?_
 repeat' (first
 |(with_reducible refine JL.regionW (lend := (fun g => g == 211)) (id := 5) 500 mo ?_ ?_); exact rfl
 |(with_reducible refine JL.regionW (lend := (fun g => g == 211)) (id := 6) 600 mo ?_ ?_); exact rfl
 |(with_reducible refine JL.regionW (lend := (fun g => g == 211)) (id := 8) 700 mo ?_ ?_); exact rfl
 |(with_reducible refine JL.regionW (lend := (fun g => g == 211)) (id := 9) 800 mo ?_ ?_); exact rfl
 |(with_reducible refine JL.regionW (lend := (fun g => g == 211)) (id := 10) 900 mo ?_ ?_); exact rfl
 |(with_reducible refine JL.regionW (lend := (fun g => g == 211)) (id := 7) 1000 mo ?_ ?_); exact rfl
 |(with_reducible refine JL.regionW (lend := (fun g => g == 211)) (id := 4) 1100 mo ?_ ?_); exact rfl
 |(with_reducible refine rgL (fun g => g == 211) ?_ ?_); exact rfl
 |(with_reducible refine K_ca 211 ?_); (first
 |refine W.call0A rfl BoC.h (rat_fn _ _ (by omega)) rfl rfl rfl ?_
 |refine W.call1A rfl BoC.h (rat_fn _ _ (by omega)) rfl rfl rfl rfl rfl ?_)
 |(with_reducible refine blk_at (id := 0) ?_); (try (refine JL.zeroW 3 _ 3 1 rfl rfl ?_)); (refine JL.rekW 3 (1048, 351) rfl rfl rfl rfl ?_); ((with_reducible refine JL.loopW 0 399 (fun (p : Nat × List Int) tm => (4, .one false [.d (.v (.int .i64 ((p.1 : Int))))]) :: (3, .one false [.own (1048, 351)]) :: tm) (fun (p : Nat × List Int) bo => ((1048, 351), some (.sl 3 1 ((dInts p.2)))) :: bo) (fun (p : Nat × List Int) => OrdIn a.states p.2 ∧ p.1 ≤ p.2.length ∧ ordF a.edges (a.states.toNat - p.1) p.1 p.2 = ordP a) (fun (p : Nat × List Int) => a.states.toNat - p.1) ((0, [a.start])) ?_ (fun p hp => have hlp := hlen p.2 hp.1; ?_) ?_); (focus (apply SubW [((1048, 351), _)] rfl ?_ ?_ rfl ?_; (repeat' (first | exact kA | refine kB ?_ | refine kC ?_ ?_ | exact kD | fail)))))
 |((with_reducible refine round_next (i := p) ((p.1 + 1, scanE a.edges (p.2.getD p.1 0) p.2)) ?_ ?_ ?_); (focus (apply SubW [((1048, 351), _)] rfl ?_ ?_ rfl ?_; (repeat' (first | exact kA | refine kB ?_ | refine kC ?_ ?_ | exact kD | fail)))))
 |(with_reducible refine blk_at (id := 2) ?_); (try (refine JL.zeroW 3 _ 3 1 rfl rfl ?_)); (refine JL.rekW 3 (1048, 551) rfl rfl rfl rfl ?_); ((with_reducible refine JL.loopW 2 599 (fun (k : Nat) tm => (5, .one false [.d (.v (.int .i64 ((k : Int))))]) :: (3, .one false [.own (1048, 551)]) :: tm) (fun (k : Nat) bo => ((1048, 551), some (.sl 3 1 ((dInts (scanN a.edges (p.2.getD p.1 0) p.2 k))))) :: bo) (fun (k : Nat) => k ≤ a.edges.length ∧ p.1 < p.2.length) (fun (k : Nat) => a.edges.length - k) (0) ?_ (fun k hk => have hsk := hsc p hp.1 k (by omega); have hgk := hge p k (by omega) (by omega); ?_) ?_); (focus (apply SubW [((1048, 551), _)] rfl ?_ ?_ rfl ?_; (repeat' (first | exact kA | refine kB ?_ | refine kC ?_ ?_ | exact kD | fail)))))
 |((with_reducible refine round_next (i := k) (k + 1) ?_ ?_ ?_); (focus (apply SubW [((1048, 551), _)] rfl ?_ ?_ rfl ?_; (repeat' (first | exact kA | refine kB ?_ | refine kC ?_ ?_ | exact kD | fail)))))
 |refine wA ?_
 |(refine wC ?_ ?_ <;> intro hc)
 |refine wB ?_ ?_
 |(with_reducible refine JL.block ?_)
 |(with_reducible refine F_at ?_); refine eW (vs := [(_, _)]) Tryz.results210 ?_; (focus (repeat' (first | exact oA | refine oB ?_ | refine oC ?_ ?_ | fail)))
 |exact oM
 |fail)
 all_goals first
  | rfl
  | omega
  | exact congrArg dInts (scan_no (by omega) (by omega) hc)
  | exact congrArg dInts (scan_in (by omega) hc)
  | exact congrArg dInts (scan_yes (by omega) (by omega) (by assumption) hc)
  | (refine congrArg dInts ?_; rw [show k = a.edges.length by omega]; exact scanN_all)
  | exact ord_step hs hp (by omega)
  | (rw [← hp.2.2, ordF_end (by omega)]; done)
  | exact ⟨ord_first hs, Nat.zero_le _, rfl⟩
  | trace_state
theorem swap_eq {l : List EdgeD} {k : Nat} (h : 0 < (k : Int)) : (l.set (k : Int).toNat (l.getD ((k : Int) - 1).toNat nilEd)).set ((k : Int) - 1).toNat (l.getD (k : Int).toNat nilEd) = swapE l (k - 1) := by
 rw [Int.toNat_natCast, show ((k : Int) - 1).toNat = k - 1 by omega]
 unfold swapE
 rw [show k - 1 + 1 = k by omega]
theorem bub_yes {l : List EdgeD} {k : Nat} (h : 0 < (k : Int)) (hb : befE (l.getD (k : Int).toNat nilEd) (l.getD ((k : Int) - 1).toNat nilEd) = true) : bubE k l = bubE (k - 1) (swapE l (k - 1)) := by
 rw [Int.toNat_natCast, show ((k : Int) - 1).toNat = k - 1 by omega] at hb
 obtain ⟨j, rfl⟩ : ∃ j, k = j + 1 := ⟨k - 1, by omega⟩
 rw [Nat.add_sub_cancel] at hb ⊢
 conv => lhs; unfold bubE
 rw [if_pos hb]
theorem bub_no {l : List EdgeD} {k : Nat} (hb : ¬ 0 < (k : Int) ∨ befE (l.getD (k : Int).toNat nilEd) (l.getD ((k : Int) - 1).toNat nilEd) = false) : bubE k l = l := by
 match k with
 | 0 => rfl
 | j + 1 =>
  have h2 := hb.resolve_left (by omega)
  rw [Int.toNat_natCast, show (((j + 1 : Nat) : Int) - 1).toNat = j by omega] at h2
  unfold bubE
  rw [if_neg (by rw [h2]; decide)]
theorem sort_first {es : List EdgeD} {i : Nat} : (i, sortN es i ++ [es.getD i nilEd]).2.length = i + 1 ∧ (i, sortN es i ++ [es.getD i nilEd]).1 ≤ i ∧ bubE (i, sortN es i ++ [es.getD i nilEd]).1 (i, sortN es i ++ [es.getD i nilEd]).2 = sortN es (i + 1) :=
 ⟨by show (sortN es i ++ [es.getD i nilEd]).length = i + 1; rw [List.length_append, sortN_len]; rfl, Nat.le_refl _, rfl⟩
theorem rsorted_fn (a : AutD) (hl : a.edges.length ≤ 1000) : FnSound Tryz.prog 212 [.val true (autC a)] [] { vals := [(true, autC ⟨a.states, a.start, sortN a.edges a.edges.length⟩)] } := by
 have hs := fun i => sortN_len (es := a.edges) (i := i)
 refine startW (tm := [(0, _)]) Tryz.func212 rfl Tryz.ntmps212 rfl rfl rfl rfl ?_
 repeat' (first
 |(with_reducible refine rgn 5 500 ?_ ?_); exact rfl
 |(with_reducible refine rgn 6 600 ?_ ?_); exact rfl
 |(with_reducible refine rgn 7 700 ?_ ?_); exact rfl
 |(with_reducible refine rgn 9 800 ?_ ?_); exact rfl
 |(with_reducible refine rgn 4 1000 ?_ ?_); exact rfl
 |(with_reducible refine K_ca 261 ?_); refine zC (rbefore_fn _ _) ?_
 |(with_reducible refine blk_at (id := 0) ?_); (try (refine JL.zeroBW (cs2 := [_, _, _]) (320, 200) 2 _ 208 4 rfl rfl rfl rfl ?_)); (refine JL.rekBW (cs2 := [_, _, _]) (320, 200) 2 (1050, 351) rfl rfl rfl rfl rfl rfl ?_); ((with_reducible refine JL.loopW 0 399 (fun (i : Nat) tm => (4, .one false [.d (.v (.int .i64 ((i : Int))))]) :: tm) (fun (i : Nat) bo => ((320, 200), some (.st 60 [.d (.v (.int .i64 (a.states))), .d (.v (.int .i64 (a.start))), .own (1050, 351)])) :: ((1050, 351), some (.sl 208 4 ((dEdges (sortN a.edges i))))) :: bo) (fun (i : Nat) => i ≤ a.edges.length) (fun (i : Nat) => a.edges.length - i) (0) ?_ (fun i hi => have hsi := hs i; ?_) ?_); (focus (apply SubW [((1050, 351), _)] rfl ?_ ?_ rfl ?_; (repeat' (first | exact kA | refine kB ?_ | refine kC ?_ ?_ | exact kD | fail)))))
 |((with_reducible refine round_next (i := i) (i + 1) ?_ ?_ ?_); (focus (apply SubW [((1050, 351), _)] rfl ?_ ?_ rfl ?_; (repeat' (first | exact kA | refine kB ?_ | refine kC ?_ ?_ | exact kD | fail)))))
 |(with_reducible refine blk_at (id := 2) ?_); (try (refine JL.zeroBW (cs2 := [_, _, _]) (320, 200) 2 _ 208 4 rfl rfl rfl rfl ?_)); (refine JL.rekBW (cs2 := [_, _, _]) (320, 200) 2 (1050, 651) rfl rfl rfl rfl rfl rfl ?_); ((with_reducible refine JL.loopW 2 699 (fun (q : Nat × List EdgeD) tm => (5, .one false [.d (.v (.int .i64 ((q.1 : Int))))]) :: tm) (fun (q : Nat × List EdgeD) bo => ((320, 200), some (.st 60 [.d (.v (.int .i64 (a.states))), .d (.v (.int .i64 (a.start))), .own (1050, 651)])) :: ((1050, 651), some (.sl 208 4 ((dEdges q.2)))) :: bo) (fun (q : Nat × List EdgeD) => q.2.length = i + 1 ∧ q.1 ≤ i ∧ bubE q.1 q.2 = sortN a.edges (i + 1)) (fun (q : Nat × List EdgeD) => q.1) ((i, sortN a.edges i ++ [a.edges.getD i nilEd])) ?_ (fun q hq => ?_) ?_); (focus (apply SubW [((1050, 651), _)] rfl ?_ ?_ rfl ?_; (repeat' (first | exact kA | refine kB ?_ | refine kC ?_ ?_ | exact kD | fail)))))
 |((with_reducible refine round_next (i := q) ((q.1 - 1, swapE q.2 (q.1 - 1))) ?_ ?_ ?_); (focus (apply SubW [((1050, 651), _)] rfl ?_ ?_ rfl ?_; (repeat' (first | exact kA | refine kB ?_ | refine kC ?_ ?_ | exact kD | fail)))))
 |refine wA ?_
 |(refine wC ?_ ?_ <;> intro hc)
 |refine wB ?_ ?_
 |(with_reducible refine JL.block ?_)
 |(with_reducible refine F_at ?_); refine eW (vs := [(_, _)]) Tryz.results212 ?_; (focus (repeat' (first | exact oA | refine oB ?_ | refine oC ?_ ?_ | fail)))
 |exact oM
 |fail)
 all_goals first
  | rfl
  | omega
  | (rw [List.length_append, hsi, wrapI (by simp; omega)]; simp; done)
  | exact congrArg dEdges (swap_eq (by assumption))
  | exact ⟨swapE_len.trans hq.1, by show q.1 - 1 ≤ i; omega, (bub_yes (by assumption) (decide_eq_true hc)).symm.trans hq.2.2⟩
  | exact congrArg dEdges ((bub_no (.inr (decide_eq_false hc))).symm.trans hq.2.2)
  | exact congrArg dEdges ((bub_no (.inl hc)).symm.trans hq.2.2)
  | exact sort_first
  | (rw [show i = a.edges.length by omega]; done)
  | trace_state
end Go.Proofs.YtgehafnodibhpaaGreatDoor

