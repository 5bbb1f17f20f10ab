/- Rules of runs and contracts of functions, for the claims of one seat. -/
import Derived.Test.YtjpdemikmdfonaaGreatDoorFA15
import Derived.Test.YtjpdemikmdfonaaGreatDoorFA19
import Derived.Test.YtjpdemikmdfonaaGreatDoorFA21
import Derived.Test.YtjpdemikmdfonaaGreatDoorFA26
namespace Go.Proofs.YtjpdemikmdfonaaGreatDoor
open Go Go.RowKit
set_option maxRecDepth 100000
set_option maxHeartbeats 8000000
set_option linter.unusedSimpArgs false
set_option linter.unusedVariables false
theorem nan_u64 (x : Int) : FnSound Tryz.prog 377 [.val false [.d (.v (.int .u64 x))]] [] { vals := [(false, [.d (.v (.bool false))])] } := by
 refine startW (tm := [(0, _)]) Tryz.func377 rfl Tryz.ntmps377 rfl rfl rfl rfl ?_
 repeat' (first
 |refine wA ?_
 |(refine wC ?_ ?_ <;> intro hc)
 |refine wB ?_ ?_
 |(with_reducible refine JL.block ?_)
 |(with_reducible refine F_at ?_); refine eW (vs := [(_, _)]) Tryz.results377 ?_; (focus (repeat' (first | exact oA | refine oB ?_ | refine oC ?_ ?_ | fail)))
 |exact oM
 |fail)
 all_goals first | with_reducible rfl | (simp; done) | trace_state
theorem pcmp_u64 (a b : Int) : FnSound Tryz.prog 343 [.val false [.d (.v (.int .u64 a))], .val false [.d (.v (.int .u64 b))]] [] { vals := [(false, [.d (.v (.int .i64 (if a < b then -1 else if b < a then 1 else 0)))])] } := by
 refine startW (tm := [(0, _), (1, _)]) Tryz.func343 rfl Tryz.ntmps343 rfl rfl rfl rfl ?_
 repeat' (first
 |(with_reducible refine K_ca 377 ?_); refine zC (nan_u64 _) ?_
 |refine wA ?_
 |(refine wC ?_ ?_ <;> intro hc)
 |refine wB ?_ ?_
 |(with_reducible refine JL.block ?_)
 |(with_reducible refine F_at ?_); refine eW (vs := [(_, _)]) Tryz.results343 ?_; (focus (repeat' (first | exact oA | refine oB ?_ | refine oC ?_ ?_ | fail)))
 |exact oM
 |fail)
 all_goals first | with_reducible rfl | ((repeat' split) <;> omega) | trace_state
theorem nan_i64 (x : Int) : FnSound Tryz.prog 234 [.val false [.d (.v (.int .i64 x))]] [] { vals := [(false, [.d (.v (.bool false))])] } := by
 refine startW (tm := [(0, _)]) Tryz.func234 rfl Tryz.ntmps234 rfl rfl rfl rfl ?_
 repeat' (first
 |refine wA ?_
 |(refine wC ?_ ?_ <;> intro hc)
 |refine wB ?_ ?_
 |(with_reducible refine JL.block ?_)
 |(with_reducible refine F_at ?_); refine eW (vs := [(_, _)]) Tryz.results234 ?_; (focus (repeat' (first | exact oA | refine oB ?_ | refine oC ?_ ?_ | fail)))
 |exact oM
 |fail)
 all_goals first | with_reducible rfl | (simp; done) | trace_state
theorem pcmp_i64 (a b : Int) : FnSound Tryz.prog 207 [.val false [.d (.v (.int .i64 a))], .val false [.d (.v (.int .i64 b))]] [] { vals := [(false, [.d (.v (.int .i64 (if a < b then -1 else if b < a then 1 else 0)))])] } := by
 refine startW (tm := [(0, _), (1, _)]) Tryz.func207 rfl Tryz.ntmps207 rfl rfl rfl rfl ?_
 repeat' (first
 |(with_reducible refine K_ca 234 ?_); refine zC (nan_i64 _) ?_
 |refine wA ?_
 |(refine wC ?_ ?_ <;> intro hc)
 |refine wB ?_ ?_
 |(with_reducible refine JL.block ?_)
 |(with_reducible refine F_at ?_); refine eW (vs := [(_, _)]) Tryz.results207 ?_; (focus (repeat' (first | exact oA | refine oB ?_ | refine oC ?_ ?_ | fail)))
 |exact oM
 |fail)
 all_goals first | with_reducible rfl | ((repeat' split) <;> omega) | trace_state
theorem nan_s (x : ByteArray) : FnSound Tryz.prog 378 [.val false [.d (.v (.string x))]] [] { vals := [(false, [.d (.v (.bool false))])] } := by
 refine startW (tm := [(0, _)]) Tryz.func378 rfl Tryz.ntmps378 rfl rfl rfl rfl ?_
 repeat' (first
 |refine wA ?_
 |(refine wC ?_ ?_ <;> intro hc)
 |refine wB ?_ ?_
 |(with_reducible refine JL.block ?_)
 |(with_reducible refine F_at ?_); refine eW (vs := [(_, _)]) Tryz.results378 ?_; (focus (repeat' (first | exact oA | refine oB ?_ | refine oC ?_ ?_ | fail)))
 |exact oM
 |fail)
 all_goals first | with_reducible rfl | (simp; done) | trace_state
theorem pcmp_s (a b : ByteArray) : FnSound Tryz.prog 344 [.val false [.d (.v (.string a))], .val false [.d (.v (.string b))]] [] { vals := [(false, [.d (.v (.int .i64 (if lessS a b = true then -1 else if a = b then 0 else 1)))])] } := by
 refine startW (tm := [(0, _), (1, _)]) Tryz.func344 rfl Tryz.ntmps344 rfl rfl rfl rfl ?_
 repeat' (first
 |(with_reducible refine K_ca 378 ?_); refine zC (nan_s _) ?_
 |refine wA ?_
 |(refine wC ?_ ?_ <;> intro hc)
 |refine wB ?_ ?_
 |(with_reducible refine JL.block ?_)
 |(with_reducible refine F_at ?_); refine eW (vs := [(_, _)]) Tryz.results344 ?_; (focus (repeat' (first | exact oA | refine oB ?_ | refine oC ?_ ?_ | fail)))
 |exact oM
 |fail)
 all_goals first | with_reducible rfl | (simp_all; done) | trace_state
def orI : List Int → Int
 | [] => 0
 | x :: r => if x = 0 then orI r else x
theorem orI_no : ∀ {xs : List Int} {k : Nat}, k < xs.length → (∀ j, j < k → xs.getD j 0 = 0) → ¬ xs.getD k 0 = 0 → xs.getD k 0 = orI xs
 | [], _, h, _, _ => absurd h (Nat.not_lt_zero _)
 | x :: r, 0, _, _, h => by unfold orI; rw [if_neg (show ¬ x = 0 from h)]; rfl
 | x :: r, k + 1, h1, h2, h => by
  unfold orI
  rw [if_pos (show x = 0 from h2 0 (by omega))]
  exact orI_no (xs := r) (k := k) (by simpa using h1) (fun j hj => by have := h2 (j + 1) (by omega); simpa using this) (by simpa using h)
theorem orI_all : ∀ {xs : List Int}, (∀ j, j < xs.length → xs.getD j 0 = 0) → 0 = orI xs
 | [], _ => rfl
 | x :: r, h => by
  unfold orI
  rw [if_pos (show x = 0 from h 0 (by simp))]
  exact orI_all (xs := r) fun j hj => by have := h (j + 1) (by simpa using hj); simpa using this
theorem por_fn (xs : List Int) (hl : xs.length ≤ 1000) : FnSound Tryz.prog 206 [.val false [.d (.sl 1 (dInts xs))]] [] { vals := [(false, [.d (.v (.int .i64 (orI xs)))])] } := by
 refine startW (tm := [(0, _)]) Tryz.func206 rfl Tryz.ntmps206 rfl rfl rfl rfl ?_
 repeat' (first
 |(with_reducible refine blk_at (id := 0) ?_); ((with_reducible refine JL.loopW 0 399 (fun (k : Nat) tm => (8, .one false [.d (.v (.int .i64 ((k : Int))))]) :: tm) (fun (k : Nat) bo => bo) (fun (k : Nat) => k ≤ xs.length ∧ ∀ j, j < k → xs.getD j 0 = 0) (fun (k : Nat) => xs.length - k) (0) ?_ (fun k hk => ?_) ?_); (focus (apply SubW [] rfl ?_ ?_ rfl ?_; (repeat' (first | exact kA | refine kB ?_ | refine kC ?_ ?_ | exact kD | fail)))))
 |((with_reducible refine round_next (i := k) (k + 1) ?_ ?_ ?_); (focus (apply SubW [] rfl ?_ ?_ rfl ?_; (repeat' (first | exact kA | refine kB ?_ | refine kC ?_ ?_ | exact kD | fail)))))
 |refine wA ?_
 |(refine wC ?_ ?_ <;> intro hc)
 |refine wB ?_ ?_
 |(with_reducible refine JL.block ?_)
 |(with_reducible refine F_at ?_); refine eW (vs := [(_, _)]) Tryz.results206 ?_; (focus (repeat' (first | exact oA | refine oB ?_ | refine oC ?_ ?_ | fail)))
 |exact oM
 |fail)
 all_goals first
  | with_reducible rfl
  | omega
  | exact ⟨Nat.zero_le _, fun j hj => absurd hj (Nat.not_lt_zero j)⟩
  | exact orI_no (by omega) hk.2 hc
  | exact ⟨by omega, lt_next hk.2 (by omega)⟩
  | exact orI_all (fun j hj => hk.2 j (by omega))
  | trace_state
theorem zig_bits (n : Int) (h : -9223372036854775808 ≤ n ∧ n ≤ 9223372036854775807) : bits .xor .u64 (IntKind.u64.wrap (IntKind.u64.wrap n * 2 ^ Int.toNat 1)) (IntKind.u64.wrap (n / 2 ^ Int.toNat 63)) = zigP n := by
 have e1 : (2 : Int) ^ Int.toNat 1 = 2 := rfl
 have e2 : (2 : Int) ^ Int.toNat 63 = 9223372036854775808 := rfl
 have w : ∀ m : Int, IntKind.u64.wrap m = m % 18446744073709551616 := fun m => rfl
 rw [e1, e2, w, w, w]
 show IntKind.u64.wrap (BitVec.ofInt 64 _ ^^^ BitVec.ofInt 64 _).toNat = _
 rw [w]
 unfold zigP
 by_cases hn : 0 ≤ n
 ·rw [if_pos hn, show n / 9223372036854775808 = 0 by omega, show (0 : Int) % 18446744073709551616 = 0 from rfl, show BitVec.ofInt 64 0 = 0#64 from rfl, BitVec.xor_zero, BitVec.toNat_ofInt]
  omega
 ·rw [if_neg hn, show n / 9223372036854775808 = -1 by omega, show (-1 : Int) % 18446744073709551616 = 18446744073709551615 from rfl, show BitVec.ofInt 64 18446744073709551615 = BitVec.allOnes 64 from rfl, BitVec.xor_allOnes, BitVec.toNat_not, BitVec.toNat_ofInt]
  omega
theorem pzig_fn (n : Int) (h : -9223372036854775808 ≤ n ∧ n ≤ 9223372036854775807) : FnSound Tryz.prog 240 [.val false [.d (.v (.int .i64 n))]] [] { vals := [(false, [.d (.v (.int .u64 (zigP n)))])] } := by
 refine startW (tm := [(0, _)]) Tryz.func240 rfl Tryz.ntmps240 rfl rfl rfl rfl ?_
 repeat' (first
 |refine wA ?_
 |(refine wC ?_ ?_ <;> intro hc)
 |refine wB ?_ ?_
 |(with_reducible refine JL.block ?_)
 |(with_reducible refine F_at ?_); refine eW (vs := [(_, _)]) Tryz.results240 ?_; (focus (repeat' (first | exact oA | refine oB ?_ | refine oC ?_ ?_ | fail)))
 |exact oM
 |fail)
 all_goals first | with_reducible rfl | exact zig_bits n h | trace_state
end Go.Proofs.YtjpdemikmdfonaaGreatDoor

namespace Go.Proofs.YtjpdemikmdfonaaGreatDoor
open Go Go.RowKit
set_option maxRecDepth 100000
set_option maxHeartbeats 8000000
set_option linter.unusedSimpArgs false
set_option linter.unusedVariables false
theorem bl_irrefl : ∀ l : List UInt8, Op.bytesLess l l = false
 | [] => rfl
 | x :: r => by
  unfold Op.bytesLess
  simp [bl_irrefl r]
theorem less_ne {a b : ByteArray} (h : lessS a b = true) : ¬ a = b := fun e => by
 subst e
 unfold lessS at h
 rw [bl_irrefl] at h
 cases h
theorem or2 (x y : Int) : orI [x, y] = if x = 0 then y else x := by
 unfold orI
 split
 ·unfold orI; split
  ·rename_i h; unfold orI; exact h.symm
  ·rfl
 ·rfl
theorem str_cmp {a b : ValD} (h0 : a.kind = b.kind) (h : a.kind = 3) : orI [if (a.s.size : Int) < b.s.size then -1 else if (b.s.size : Int) < a.s.size then 1 else 0, if lessS a.s b.s = true then -1 else if a.s = b.s then 0 else 1] = cmpV a b := by
 have e : cmpV a b = (if a.s.size < b.s.size then -1 else if b.s.size < a.s.size then 1 else if a.s = b.s then 0 else if lessS a.s b.s then -1 else 1) := by
  unfold cmpV
  rw [if_neg (not_not_intro h0), if_neg (show ¬ a.kind = 1 by omega), if_neg (show ¬ a.kind = 2 by omega), if_pos h]
 rw [or2, e]
 by_cases h1 : a.s.size < b.s.size
 ·rw [if_pos h1, if_pos (show (a.s.size : Int) < b.s.size by omega), if_neg (by decide)]
 ·rw [if_neg h1, if_neg (show ¬ (a.s.size : Int) < b.s.size by omega)]
  by_cases h2 : b.s.size < a.s.size
  ·rw [if_pos h2, if_pos (show (b.s.size : Int) < a.s.size by omega), if_neg (by decide)]
  ·rw [if_neg h2, if_neg (show ¬ (b.s.size : Int) < a.s.size by omega), if_pos rfl]
   by_cases h3 : lessS a.s b.s = true
   ·rw [if_pos h3, if_neg (less_ne h3), if_pos h3]
   ·rw [if_neg h3, if_neg h3]
theorem pcompare_fn (a b : ValD) (ha : -9223372036854775808 ≤ a.n ∧ a.n ≤ 9223372036854775807) (hb : -9223372036854775808 ≤ b.n ∧ b.n ≤ 9223372036854775807) : FnSound Tryz.prog 298 [.val true (valC a), .val true (valC b)] [] { vals := [(false, [.d (.v (.int .i64 (cmpV a b)))])] } := by
 refine startW (tm := [(0, _), (1, _)]) Tryz.func298 rfl Tryz.ntmps298 rfl rfl rfl rfl ?_
 repeat' (first
 |(with_reducible refine rgL (fun g => g == 206) ?_ ?_); exact rfl
 |(with_reducible refine K_ca 240 ?_); (first
 |refine zC (pzig_fn _ ha) ?_
 |refine zC (pzig_fn _ hb) ?_)
 |(with_reducible refine K_ca 343 ?_); refine zC (pcmp_u64 _ _) ?_
 |(with_reducible refine K_ca 207 ?_); refine zC (pcmp_i64 _ _) ?_
 |(with_reducible refine K_ca 344 ?_); refine zC (pcmp_s _ _) ?_
 |(with_reducible refine K_ca 206 ?_); (first
 |refine W.call0A rfl BoC.h (por_fn [_, _] (by simp)) rfl rfl rfl ?_
 |refine W.call1A rfl BoC.h (por_fn [_, _] (by simp)) rfl rfl rfl rfl rfl ?_)
 |refine wA ?_
 |(refine wC ?_ ?_ <;> intro hc)
 |refine wB ?_ ?_
 |(with_reducible refine JL.block ?_)
 |(with_reducible refine F_at ?_); refine eW (vs := [(_, _)]) Tryz.results298 ?_; (focus (repeat' (first | exact oA | refine oB ?_ | refine oC ?_ ?_ | fail)))
 |exact oM
 |fail)
 all_goals first
  | with_reducible rfl
  | exact str_cmp (by assumption) hc
  | (unfold cmpV; simp_all; done)
  | (unfold cmpV; (repeat' split) <;> first | rfl | omega | contradiction | (exfalso; omega))
  | trace_state
end Go.Proofs.YtjpdemikmdfonaaGreatDoor

